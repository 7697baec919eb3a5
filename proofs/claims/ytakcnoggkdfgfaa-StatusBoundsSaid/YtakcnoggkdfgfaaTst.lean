import Derived.Test.YtakcnoggkdfgfaaTabA
import Derived.Test.YtakcnoggkdfgfaaEngAG
namespace Go.Proofs.Ytakcnoggkdfgfaa.TabA
open Go Go.Eng Go.Proofs
def knownO : Out := fun xs k => match xs with | [] => k (bv true) | _ => False
theorem known_run (k : R → Prop) : clRun 7 tt tab 10 9 [] [] [] (fun x _ => plainR x = true ∧ k x) = (plainR (bv true) = true ∧ k (bv true)) := by kernel_rfl
theorem known_ok : OutOk Try.prog 9 knownO := out_of_run (clRun_ok (d := 7) ttOk (fun cl hc => tab_ok cl hc) 10) fun xs k hk => by
  cases xs with
  | nil => exact ⟨rfl, by rw [known_run]; exact ⟨rfl, hk⟩⟩
  | cons _ _ => exact hk.elim
def outs : List (FuncId × Out) := [(9, knownO)]
def hp (k c : Int) : Heap := [.ob (.row 1 12 (fun q => [.v (.int .i64 (if (q : Int) = k then c else 0))]) 12), .ob (.own [.c (.slc 0 0 1 0 12 12 false)])]
set_option maxRecDepth 100000 in
set_option maxHeartbeats 4000000 in
theorem walk (a0 a1 a2 : Int) (h0 : 0 ≤ a0 ∧ a0 ≤ 255) (h1 : 0 ≤ a1 ∧ a1 ≤ 255) (h2 : 0 ≤ a2 ∧ a2 ≤ 255) : clRunO 7 tt outs tab 8 3 [] [iv .u8 a0, iv .u8 a1, iv .u8 a2] [] (fun x _ => x = bv true) := by
  have e0 : 0 ≤ a0.tmod 20 ∧ a0.tmod 20 ≤ 19 := by rw [Int.tmod_eq_emod_of_nonneg h0.1]; omega
  have e1 : 0 ≤ a1.tmod 20 ∧ a1.tmod 20 ≤ 19 := by rw [Int.tmod_eq_emod_of_nonneg h1.1]; omega
  have e2 : 0 ≤ a2.tmod 12 ∧ a2.tmod 12 ≤ 11 := by rw [Int.tmod_eq_emod_of_nonneg h2.1]; omega
  conv => whnf
  refine cT (by simp only [decide_eq_true_eq, inR]; omega) ?_
  have em : 0 ≤ (a2.tmod 12 + 1).tmod 12 ∧ (a2.tmod 12 + 1).tmod 12 ≤ 11 ∧ (a2.tmod 12 + 1).tmod 12 ≠ a2.tmod 12 := by rw [Int.tmod_eq_emod_of_nonneg (show 0 ≤ a2.tmod 12 + 1 by omega)]; omega
  have kn2 : (((a2.tmod 12 + 1).tmod 12).toNat : Int) = (a2.tmod 12 + 1).tmod 12 := Int.toNat_of_nonneg em.1
  have em3 : ((a2.tmod 12 + 1).tmod 12 = a2.tmod 12) = False := eq_false em.2.2
  have kn : (((a2.tmod 12).toNat : Nat) : Int) = a2.tmod 12 := Int.toNat_of_nonneg e2.1
  have k12 : a2.tmod 12 = 0 ∨ a2.tmod 12 = 1 ∨ a2.tmod 12 = 2 ∨ a2.tmod 12 = 3 ∨ a2.tmod 12 = 4 ∨ a2.tmod 12 = 5 ∨ a2.tmod 12 = 6 ∨ a2.tmod 12 = 7 ∨ a2.tmod 12 = 8 ∨ a2.tmod 12 = 9 ∨ a2.tmod 12 = 10 ∨ a2.tmod 12 = 11 := by omega
  conv => whnf
  refine ⟨{ s : Int // 0 ≤ s ∧ s ≤ a0.tmod 20 }, fun s => (trOf 7 [(0, iv .u8 a0), (1, iv .u8 a1), (7, .t (.one (.ptr 1 0))), (8, iv .i64 (a2.tmod 12)), (9, iv .i64 s.1)], hp (a2.tmod 12) (min s.1 7)), fun s => (a0.tmod 20 - s.1).toNat, ⟨0, by omega⟩,
    ⟨[0, 1], rfl, ⟨⟨rfl, rfl, rfl, fun i hi => ?_⟩, ⟨rfl, trivial⟩, trivial⟩, ?_⟩, fun s => ?_⟩
  · show [C.v (Value.int IntKind.i64 0)] = [C.v (Value.int IntKind.i64 (if (i : Int) = a2.tmod 12 then min 0 7 else 0))]
    split <;> rfl
  · repeat' (first | exact trivial | exact rfl | refine And.intro ?_ ?_)
  · obtain ⟨s, hs⟩ := s
    conv => whnf
    refine cT (by simp only [decide_eq_true_eq, inR]; omega) ?_
    conv => whnf
    refine c2 (fun h => ?_) (fun h => ?_)
    · have h : s < a0.tmod 20 := of_decide_eq_true h
      repeat
        conv => whnf
        first
          | refine cS rfl rfl ?_
          | refine cT (by first | (simp only [decide_eq_true_eq, decide_eq_false_iff_not, Bool.not_eq_true', Bool.not_eq_false', inR, Nat.zero_add, kn, if_true]; done) | (simp only [decide_eq_true_eq, decide_eq_false_iff_not, Bool.not_eq_true', Bool.not_eq_false', inR, Nat.zero_add, kn, if_true]; omega)) ?_
          | refine cF (by first | (simp only [decide_eq_true_eq, decide_eq_false_iff_not, Bool.not_eq_true', Bool.not_eq_false', inR, Nat.zero_add, kn, if_true]; done) | (simp only [decide_eq_true_eq, decide_eq_false_iff_not, Bool.not_eq_true', Bool.not_eq_false', inR, Nat.zero_add, kn, if_true]; omega)) ?_
      conv => whnf
      refine ⟨⟨s + 1, by omega⟩, by show (a0.tmod 20 - (s + 1)).toNat < (a0.tmod 20 - s).toNat; omega, [0, 1], rfl, ⟨⟨rfl, rfl, rfl, fun i hi => ?_⟩, ⟨rfl, trivial⟩, trivial⟩, ?_⟩
      · show (if i = 0 + (a2.tmod 12).toNat then [C.v (Value.int IntKind.i64 (min (max ((if ((0 + (a2.tmod 12).toNat : Nat) : Int) = a2.tmod 12 then min s 7 else 0) + 1) 0) 7))] else [C.v (Value.int IntKind.i64 (if (i : Int) = a2.tmod 12 then min s 7 else 0))]) = [C.v (Value.int IntKind.i64 (if (i : Int) = a2.tmod 12 then min (s + 1) 7 else 0))]
        simp only [Nat.zero_add, kn, if_true]
        by_cases c : i = (a2.tmod 12).toNat
        · rw [if_pos c, if_pos (by omega)]
          congr 3
          omega
        · rw [if_neg c, if_neg (by omega), if_neg (by omega)]
      · repeat' (first | exact trivial | exact rfl | refine And.intro ?_ ?_)
    · have h : ¬ s < a0.tmod 20 := of_decide_eq_false h
      have hs' : s = a0.tmod 20 := by omega
      subst hs'
      iterate 6
        conv => whnf
        first
          | refine cS rfl rfl ?_
          | refine cT (by first | (simp only [decide_eq_true_eq, decide_eq_false_iff_not, Bool.not_eq_true', Bool.not_eq_false', inR, Nat.zero_add, kn, if_true]; done) | (simp only [decide_eq_true_eq, decide_eq_false_iff_not, Bool.not_eq_true', Bool.not_eq_false', inR, Nat.zero_add, kn, if_true]; omega)) ?_
          | refine cF (by first | (simp only [decide_eq_true_eq, decide_eq_false_iff_not, Bool.not_eq_true', Bool.not_eq_false', inR, Nat.zero_add, kn, if_true]; done) | (simp only [decide_eq_true_eq, decide_eq_false_iff_not, Bool.not_eq_true', Bool.not_eq_false', inR, Nat.zero_add, kn, if_true]; omega)) ?_
      conv => whnf
      refine cT (by
        rcases k12 with e | e | e | e | e | e | e | e | e | e | e | e
        all_goals (simp only [e, inR, decide_eq_true_eq]; simp; omega)) ?_
      conv => whnf
      refine cF (by
        rcases k12 with e | e | e | e | e | e | e | e | e | e | e | e
        all_goals (simp only [e, Bool.not_eq_false', decide_eq_true_eq]; (try simp); (try omega))) ?_
      conv => whnf
      refine ⟨{ s : Int // 0 ≤ s ∧ s ≤ a1.tmod 20 }, fun s => (trOf 7 [(1, iv .u8 a1), (7, .t (.one (.ptr 1 0))), (8, iv .i64 (a2.tmod 12)), (10, iv .i64 (min (a0.tmod 20) 7)), (11, iv .i64 s.1)], hp (a2.tmod 12) (max 0 (min (a0.tmod 20) 7 - s.1))), fun s => (a1.tmod 20 - s.1).toNat, ⟨0, by omega⟩,
        ⟨[0, 1], rfl, ⟨⟨rfl, rfl, rfl, fun i hi => ?_⟩, ⟨rfl, trivial⟩, trivial⟩, ?_⟩, fun s => ?_⟩
      · show [C.v (Value.int IntKind.i64 (if (i : Int) = a2.tmod 12 then min (a0.tmod 20) 7 else 0))] = [C.v (Value.int IntKind.i64 (if (i : Int) = a2.tmod 12 then max 0 (min (a0.tmod 20) 7 - 0) else 0))]
        rw [show max 0 (min (a0.tmod 20) 7 - 0) = min (a0.tmod 20) 7 by omega]
      · repeat' (first | exact trivial | exact rfl | refine And.intro ?_ ?_)
      · obtain ⟨s, hs⟩ := s
        conv => whnf
        refine cT (by simp only [decide_eq_true_eq, inR]; omega) ?_
        conv => whnf
        refine c2 (fun h => ?_) (fun h => ?_)
        · have h : s < a1.tmod 20 := of_decide_eq_true h
          repeat
            conv => whnf
            first
              | refine cS rfl rfl ?_
              | refine cT (by first | (simp only [decide_eq_true_eq, decide_eq_false_iff_not, Bool.not_eq_true', Bool.not_eq_false', inR, Nat.zero_add, kn, if_true]; done) | (simp only [decide_eq_true_eq, decide_eq_false_iff_not, Bool.not_eq_true', Bool.not_eq_false', inR, Nat.zero_add, kn, if_true]; omega)) ?_
              | refine cF (by first | (simp only [decide_eq_true_eq, decide_eq_false_iff_not, Bool.not_eq_true', Bool.not_eq_false', inR, Nat.zero_add, kn, if_true]; done) | (simp only [decide_eq_true_eq, decide_eq_false_iff_not, Bool.not_eq_true', Bool.not_eq_false', inR, Nat.zero_add, kn, if_true]; omega)) ?_
          conv => whnf
          refine ⟨⟨s + 1, by omega⟩, by show (a1.tmod 20 - (s + 1)).toNat < (a1.tmod 20 - s).toNat; omega, [0, 1], rfl, ⟨⟨rfl, rfl, rfl, fun i hi => ?_⟩, ⟨rfl, trivial⟩, trivial⟩, ?_⟩
          · show (if i = 0 + (a2.tmod 12).toNat then [C.v (Value.int IntKind.i64 (min (max ((if ((0 + (a2.tmod 12).toNat : Nat) : Int) = a2.tmod 12 then max 0 (min (a0.tmod 20) 7 - s) else 0) + -1) 0) 7))] else [C.v (Value.int IntKind.i64 (if (i : Int) = a2.tmod 12 then max 0 (min (a0.tmod 20) 7 - s) else 0))]) = [C.v (Value.int IntKind.i64 (if (i : Int) = a2.tmod 12 then max 0 (min (a0.tmod 20) 7 - (s + 1)) else 0))]
            simp only [Nat.zero_add, kn, if_true]
            by_cases c : i = (a2.tmod 12).toNat
            · rw [if_pos c, if_pos (by omega)]
              congr 3
              omega
            · rw [if_neg c, if_neg (by omega), if_neg (by omega)]
          · repeat' (first | exact trivial | exact rfl | refine And.intro ?_ ?_)
        · have h : ¬ s < a1.tmod 20 := of_decide_eq_false h
          have hs' : s = a1.tmod 20 := by omega
          subst hs'
          repeat
            conv => whnf
            first
              | refine cS rfl rfl ?_
              | refine cT (by first | (simp only [decide_eq_true_eq, decide_eq_false_iff_not, Bool.not_eq_true', Bool.not_eq_false', inR, Nat.zero_add, kn, kn2, em3, if_true, if_false]; done) | (simp only [decide_eq_true_eq, decide_eq_false_iff_not, Bool.not_eq_true', Bool.not_eq_false', inR, Nat.zero_add, kn, kn2, em3, if_true, if_false]; omega)) ?_
              | refine cF (by first | (simp only [decide_eq_true_eq, decide_eq_false_iff_not, Bool.not_eq_true', Bool.not_eq_false', inR, Nat.zero_add, kn, kn2, em3, if_true, if_false]; done) | (simp only [decide_eq_true_eq, decide_eq_false_iff_not, Bool.not_eq_true', Bool.not_eq_false', inR, Nat.zero_add, kn, kn2, em3, if_true, if_false]; omega)) ?_
          conv => whnf
          simp only [Nat.zero_add, kn2, em3, if_false, decide_true]
theorem outs_ok : ∀ g o, (g, o) ∈ outs → OutOk Try.prog g o := by
  intro g o h
  simp only [outs, List.mem_cons, List.not_mem_nil, or_false, Prod.mk.injEq] at h
  obtain ⟨rfl, rfl⟩ := h
  exact known_ok
set_option maxRecDepth 100000 in
theorem cl_ok : ∃ cl : Cl, ClOk Try.prog cl ∧ ∀ a0 a1 a2 : Int, 0 ≤ a0 ∧ a0 ≤ 255 → 0 ≤ a1 ∧ a1 ≤ 255 → 0 ≤ a2 ∧ a2 ≤ 255 → cl 3 [] [iv .u8 a0, iv .u8 a1, iv .u8 a2] [] (fun x _ => x = bv true) :=
  ⟨clRunO 7 tt outs tab 8, clRunO_ok (d := 7) (outs := outs) (tab := tab) ttOk outs_ok (fun cl hc => tab_ok cl hc) 8, walk⟩
end Go.Proofs.Ytakcnoggkdfgfaa.TabA
