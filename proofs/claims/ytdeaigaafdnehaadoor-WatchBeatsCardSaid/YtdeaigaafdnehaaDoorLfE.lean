/- WatchRows: the walk. -/
import Derived.Test.YtdeaigaafdnehaaDoorLfC
import Derived.Test.YtdeaigaafdnehaaDoorEnL
namespace Go.Proofs.YtdeaigaafdnehaaDoor.La
open Go Go.Eng Go.Proofs Go.Proofs.YtdeaigaafdnehaaDoor.Tb Go.Proofs.YtdeaigaafdnehaaDoor.Co Go.Pu
set_option maxRecDepth 100000
set_option maxHeartbeats 16000000
abbrev nilR : R := .t (.one (.v (.slice none 0 0)))
noncomputable abbrev tabSn : List (FuncId × Eng.Fn) := [(F.law26_same, fn.law26_same u0)]
theorem tabSn_ok {d : Nat} : TabOk d tabSn tt := .cons (ok.law26_same u0) (TabOk.nil)
theorem same26nil_run (u : Unit) : clRunX 5 tt outs26n tabSn 2 F.law26_same [] [nilR, nilR] [] (fun x h => Trim 0 x h fun x h => x = bv true ∧ h = []) := by
  repeat((conv=>whnf);first|((with_reducible refine qS ?_ ?_ ?_);exact rfl;exact rfl)|with_reducible refine qB ?_|((with_reducible refine qI ?_ ?_);omega)|((with_reducible refine qDT ?_ ?_);omega)|((with_reducible refine qDF ?_ ?_);omega)|((with_reducible refine qNT ?_ ?_);omega)|((with_reducible refine qNF ?_ ?_);omega)|((with_reducible refine qU8 ?_ ?_);omega)|((with_reducible refine qU32 ?_ ?_);omega)|((with_reducible refine qU64 ?_ ?_);omega)|((with_reducible refine qU16 ?_ ?_);omega))
  conv => whnf
  refine .rd (fun i : Nat => i = 0) (fun i => [(5, iv .i64 i)]) (fun _ => 0) 0 rfl ?_ (fun i hi => ?_)
  · conv => whnf
    refine Le.id rfl ?_ ?_
    all_goals(repeat'(first|exact leT_empty|exact trivial|exact rfl|exact .inl rfl|exact .inr rfl|exact .inr ⟨rfl,rfl⟩|exact Nat.le_refl _|exact Nat.zero_le _|exact fun _ _=>rfl|assumption|refine And.intro ?_ ?_|exact ul0|exact ul1 rfl|exact ul2 rfl rfl|exact ul3 rfl rfl rfl))
  subst hi
  conv => whnf
  repeat((conv=>whnf);first|((with_reducible refine qS ?_ ?_ ?_);exact rfl;exact rfl)|with_reducible refine qB ?_|((with_reducible refine qI ?_ ?_);omega)|((with_reducible refine qDT ?_ ?_);omega)|((with_reducible refine qDF ?_ ?_);omega)|((with_reducible refine qNT ?_ ?_);omega)|((with_reducible refine qNF ?_ ?_);omega)|((with_reducible refine qU8 ?_ ?_);omega)|((with_reducible refine qU32 ?_ ?_);omega)|((with_reducible refine qU64 ?_ ?_);omega)|((with_reducible refine qU16 ?_ ?_);omega))
  conv => whnf
  refine Trim.det ?_
  refine Le.id rfl ?_ ?_
  · repeat'(first|exact leT_empty|exact trivial|exact rfl|exact .inl rfl|exact .inr rfl|exact .inr ⟨rfl,rfl⟩|exact Nat.le_refl _|exact Nat.zero_le _|exact fun _ _=>rfl|assumption|refine And.intro ?_ ?_|exact ul0|exact ul1 rfl|exact ul2 rfl rfl|exact ul3 rfl rfl rfl)
  · repeat'(first|exact leT_empty|exact trivial|exact rfl|exact .inl rfl|exact .inr rfl|exact .inr ⟨rfl,rfl⟩|exact Nat.le_refl _|exact Nat.zero_le _|exact fun _ _=>rfl|assumption|refine And.intro ?_ ?_|exact ul0|exact ul1 rfl|exact ul2 rfl rfl|exact ul3 rfl rfl rfl)
abbrev nil26C : Con Unit := RoCon (fun _ => [nilR, nilR]) (fun _ => []) (fun _ => True) fun _ => bv true
theorem nil26_ok : ConOk Tryd.prog F.law26_same nil26C := con_of_run (clRunX_ok (d := 5) ttOk outs26n_ok tabSn_ok 2) (fn_enters (ok.law26_same (D := 5) u0 _ (clRunX_ok (d := 5) ttOk .nil TabOk.nil 1))) fun p hp => same26nil_run p
abbrev outsR26 : List (FuncId × Cx) := [(F.law26_known, AskC trueC), (F.ref3_Encode, AskC encC), (F.watch_Frames, AskC frsC), (F.law26_same, OrC (AskC same26C) (AskC nil26C)), (F.watch_Quiet, AskC quC)]
theorem outsR26_ok : OutsOk Tryd.prog outsR26 := .cons (ask_ok known26_ok) (.cons (ask_ok enc_ok) (.cons (ask_ok frs_ok) (.cons (or_ok (ask_ok same26_ok) (ask_ok nil26_ok)) (.cons (ask_ok qu_ok) .nil))))
noncomputable abbrev tabR26 : List (FuncId × Eng.Fn) := [(F.law26_WatchRows, fn.law26_WatchRows u0)]
theorem tabR26_ok {d : Nat} : TabOk d tabR26 tt := .cons (ok.law26_WatchRows u0) (TabOk.nil)
abbrev frmL (f : Frm) (N : Int) : List C := [.v (.bool f.ext), .v (.int .u32 N), .v (.bool f.rtr), .v (.string f.data)]
def prs (A : Nat → Frm) (G : Nat → Nat) : Nat → List (Frm × Nat)
  | 0 => []
  | i + 1 => prs A G i ++ [(A i, G i % 20)]
theorem prs_mem {A : Nat → Frm} {G : Nat → Nat} : ∀ {i : Nat} {x : Frm × Nat}, x ∈ prs A G i → ∃ j, j < i ∧ x = (A j, G j % 20)
  | 0, x, h => by cases h
  | i + 1, x, h => by
    rcases List.mem_append.1 h with h | h
    · obtain ⟨j, hj, e⟩ := prs_mem h
      exact ⟨j, by omega, e⟩
    · exact ⟨i, by omega, List.mem_singleton.1 h⟩
theorem seen_len : ∀ {l : List (Frm × Nat)} {n : Nat}, (seenL n l).length = l.length
  | [], n => rfl
  | (f, g) :: l, n => by
    show (seenL _ l).length + 1 = l.length + 1
    rw [seen_len]
theorem prs_len {A : Nat → Frm} {G : Nat → Nat} : ∀ i, (prs A G i).length = i
  | 0 => rfl
  | i + 1 => by
    show (prs A G i ++ [(A i, G i % 20)]).length = _
    rw [List.length_append, prs_len i]; rfl
theorem sent_len : ∀ {l : List (Frm × Nat)}, (∀ x ∈ l, x.1.ok ∧ x.2 < 20) → (sentB l).length ≤ 265 * l.length
  | [], _ => Nat.le_refl _
  | (f, g) :: l, h => by
    have h1 := h _ (.head _)
    have h2 := encB_len h1.1
    have h3 := sent_len (l := l) fun x hx => h x (.tail _ hx)
    have h4 : g < 20 := h1.2
    show (List.replicate g true ++ (encB f ++ sentB l)).length ≤ 265 * (l.length + 1)
    rw [List.length_append, List.length_append, List.length_replicate]
    have h5 : (encB f).length ≤ 246 := h2
    omega
theorem prs_sent {A : Nat → Frm} {G : Nat → Nat} {i : Nat} (ho : ∀ j, j < i → (A j).ok) : (sentB (prs A G i)).length ≤ 265 * i := by
  have := sent_len (l := prs A G i) fun x hx => by
    obtain ⟨j, hj, rfl⟩ := prs_mem hx
    exact ⟨ho j hj, Nat.mod_lt _ (by decide)⟩
  rwa [prs_len] at this
theorem rows26_run (A : Nat → Frm) (N : Nat → Int) (n cap : Nat) (nl : Bool) (G : Nat → Nat) (M : Nat → Int) (k cap2 : Nat) (nl2 : Bool) (hn : n ≤ 9223372036854775807) (hk : k ≤ 9223372036854775807) (hN : ∀ i, i < n → N i = ((A i).id : Int)) (hA : ∀ i, i < n → FIn (A i)) (hM : ∀ i, i < k → M i = (G i : Int)) :
    clRunX 7 tt outsR26 tabR26 2 F.law26_WatchRows [] [.t (.one (.slc 0 0 4 0 n cap nl)), .t (.one (.slc 1 0 1 0 k cap2 nl2))] [.ob (.ro 4 n fun i => frmL (A i) (N i)), .ob (.ro 1 k fun i => [.v (.int .u8 (M i))])] (fun x _ => x = bv true) := by
  repeat((conv=>whnf);first|((with_reducible refine qS ?_ ?_ ?_);exact rfl;exact rfl)|with_reducible refine qB ?_|((with_reducible refine qI ?_ ?_);omega)|((with_reducible refine qDT ?_ ?_);omega)|((with_reducible refine qDF ?_ ?_);omega)|((with_reducible refine qNT ?_ ?_);omega)|((with_reducible refine qNF ?_ ?_);omega)|((with_reducible refine qU8 ?_ ?_);omega)|((with_reducible refine qU32 ?_ ?_);omega)|((with_reducible refine qU64 ?_ ?_);omega)|((with_reducible refine qU16 ?_ ?_);omega))
  conv => whnf
  refine true_use ?_
  repeat((conv=>whnf);first|((with_reducible refine qS ?_ ?_ ?_);exact rfl;exact rfl)|with_reducible refine qB ?_|((with_reducible refine qI ?_ ?_);omega)|((with_reducible refine qDT ?_ ?_);omega)|((with_reducible refine qDF ?_ ?_);omega)|((with_reducible refine qNT ?_ ?_);omega)|((with_reducible refine qNF ?_ ?_);omega)|((with_reducible refine qU8 ?_ ?_);omega)|((with_reducible refine qU32 ?_ ?_);omega)|((with_reducible refine qU64 ?_ ?_);omega)|((with_reducible refine qU16 ?_ ?_);omega))
  conv => whnf
  by_cases g1 : 10 < n
  · repeat((conv=>whnf);first|((with_reducible refine qS ?_ ?_ ?_);exact rfl;exact rfl)|with_reducible refine qB ?_|((with_reducible refine qI ?_ ?_);omega)|((with_reducible refine qDT ?_ ?_);omega)|((with_reducible refine qDF ?_ ?_);omega)|((with_reducible refine qNT ?_ ?_);omega)|((with_reducible refine qNF ?_ ?_);omega)|((with_reducible refine qU8 ?_ ?_);omega)|((with_reducible refine qU32 ?_ ?_);omega)|((with_reducible refine qU64 ?_ ?_);omega)|((with_reducible refine qU16 ?_ ?_);omega))
    conv => whnf
    exact rfl
  by_cases g2 : k < n
  · repeat((conv=>whnf);first|((with_reducible refine qS ?_ ?_ ?_);exact rfl;exact rfl)|with_reducible refine qB ?_|((with_reducible refine qI ?_ ?_);omega)|((with_reducible refine qDT ?_ ?_);omega)|((with_reducible refine qDF ?_ ?_);omega)|((with_reducible refine qNT ?_ ?_);omega)|((with_reducible refine qNF ?_ ?_);omega)|((with_reducible refine qU8 ?_ ?_);omega)|((with_reducible refine qU32 ?_ ?_);omega)|((with_reducible refine qU64 ?_ ?_);omega)|((with_reducible refine qU16 ?_ ?_);omega))
    conv => whnf
    exact rfl
  repeat((conv=>whnf);first|((with_reducible refine qS ?_ ?_ ?_);exact rfl;exact rfl)|with_reducible refine qB ?_|((with_reducible refine qI ?_ ?_);omega)|((with_reducible refine qDT ?_ ?_);omega)|((with_reducible refine qDF ?_ ?_);omega)|((with_reducible refine qNT ?_ ?_);omega)|((with_reducible refine qNF ?_ ?_);omega)|((with_reducible refine qU8 ?_ ?_);omega)|((with_reducible refine qU32 ?_ ?_);omega)|((with_reducible refine qU64 ?_ ?_);omega)|((with_reducible refine qU16 ?_ ?_);omega))
  conv => whnf
  refine .inv (fun p : Nat × Nat × List Sn × ByteArray => p.1 ≤ n ∧ p.2.2.1 = seenL 0 (prs A G p.1) ∧ p.2.2.1.length ≤ p.2.1 ∧ p.2.2.2 = bs (sentB (prs A G p.1)) ∧ ∀ j, j < p.1 → (A j).ok) (fun p => [(5, sv p.2.2.2), (6, outN 2 p.2.2.1.length p.2.1), (7, iv .i64 p.1)]) (fun p => .ob (.ro 4 n fun i => frmL (A i) (N i)) :: .ob (.ro 1 k fun i => [.v (.int .u8 (M i))]) :: rowsN p.2.2.1 p.2.2.1.length p.2.1) (fun p => n - p.1) (0, 0, [], ⟨#[]⟩) ⟨Nat.zero_le _, rfl, Nat.le_refl _, rfl, fun j hj => absurd hj (Nat.not_lt_zero j)⟩ ?_ (fun p ⟨hi, hO, hc, ht, ho⟩ => ?_)
  · conv => whnf
    refine Le.id rfl ?_ ?_
    all_goals(repeat'(first|exact leT_empty|exact trivial|exact rfl|exact .inl rfl|exact .inr rfl|exact .inr ⟨rfl,rfl⟩|exact Nat.le_refl _|exact Nat.zero_le _|exact fun _ _=>rfl|assumption|refine And.intro ?_ ?_|exact ul0|exact ul1 rfl|exact ul2 rfl rfl|exact ul3 rfl rfl rfl))
  generalize p.1 = i at *
  generalize p.2.1 = cap' at *
  generalize p.2.2.1 = O at *
  generalize p.2.2.2 = t at *
  obtain ⟨w, hw⟩ : ∃ w, O.length = w := ⟨_, rfl⟩
  rw [hw] at hc ⊢
  have hts : t.size ≤ 2650 := by
    rw [ht, bs_size]
    have := prs_sent ho (G := G)
    omega
  have hwi : w = i := by rw [← hw, hO, seen_len, prs_len]
  rcases w with _ | w
  · conv => whnf
    refine cD (fun h5 => ?_) (fun h5 => ?_)
    · have hAi := hA i (by omega)
      repeat((conv=>whnf);first|((with_reducible refine qS ?_ ?_ ?_);exact rfl;exact rfl)|with_reducible refine qB ?_|((with_reducible refine qI ?_ ?_);omega)|((with_reducible refine qDT ?_ ?_);omega)|((with_reducible refine qDF ?_ ?_);omega)|((with_reducible refine qNT ?_ ?_);omega)|((with_reducible refine qNF ?_ ?_);omega)|((with_reducible refine qU8 ?_ ?_);omega)|((with_reducible refine qU32 ?_ ?_);omega)|((with_reducible refine qU64 ?_ ?_);omega)|((with_reducible refine qU16 ?_ ?_);omega))
      conv => whnf
      rw [show 0 + ((i : Int)).toNat = i by omega, hN i (by omega)]
      refine enc_use (f := A i) hAi ?_
      repeat((conv=>whnf);first|((with_reducible refine qS ?_ ?_ ?_);exact rfl;exact rfl)|with_reducible refine qB ?_|((with_reducible refine qI ?_ ?_);omega)|((with_reducible refine qDT ?_ ?_);omega)|((with_reducible refine qDF ?_ ?_);omega)|((with_reducible refine qNT ?_ ?_);omega)|((with_reducible refine qNF ?_ ?_);omega)|((with_reducible refine qU8 ?_ ?_);omega)|((with_reducible refine qU32 ?_ ?_);omega)|((with_reducible refine qU64 ?_ ?_);omega)|((with_reducible refine qU16 ?_ ?_);omega))
      conv => whnf
      rw [show 0 + ((i : Int)).toNat = i by omega]
      by_cases g3 : 8 < (A i).data.size
      · repeat((conv=>whnf);first|((with_reducible refine qS ?_ ?_ ?_);exact rfl;exact rfl)|with_reducible refine qB ?_|((with_reducible refine qI ?_ ?_);omega)|((with_reducible refine qDT ?_ ?_);omega)|((with_reducible refine qDF ?_ ?_);omega)|((with_reducible refine qNT ?_ ?_);omega)|((with_reducible refine qNF ?_ ?_);omega)|((with_reducible refine qU8 ?_ ?_);omega)|((with_reducible refine qU32 ?_ ?_);omega)|((with_reducible refine qU64 ?_ ?_);omega)|((with_reducible refine qU16 ?_ ?_);omega))
        conv => whnf
        exact rfl
      by_cases hok : (A i).ok
      rotate_left
      · have e0 : enc (A i) = ByteArray.empty := if_neg hok
        rw [e0]
        repeat((conv=>whnf);first|((with_reducible refine qS ?_ ?_ ?_);exact rfl;exact rfl)|with_reducible refine qB ?_|((with_reducible refine qI ?_ ?_);omega)|((with_reducible refine qDT ?_ ?_);omega)|((with_reducible refine qDF ?_ ?_);omega)|((with_reducible refine qNT ?_ ?_);omega)|((with_reducible refine qNF ?_ ?_);omega)|((with_reducible refine qU8 ?_ ?_);omega)|((with_reducible refine qU32 ?_ ?_);omega)|((with_reducible refine qU64 ?_ ?_);omega)|((with_reducible refine qU16 ?_ ?_);omega))
        conv => whnf
        exact rfl
      have e0 : enc (A i) = bs (encB (A i)) := if_pos hok
      have hp := encB_pos (A i)
      have hl := encB_len hok
      have hes : (enc (A i)).size = (encB (A i)).length := by rw [e0, bs_size]
      have e1 : strEq (enc (A i)) ⟨#[]⟩ = false := decide_eq_false fun h => by
        have := congrArg ByteArray.size h
        rw [hes] at this
        have : (encB (A i)).length = 0 := this
        omega
      repeat((conv=>whnf);first|((with_reducible refine qS ?_ ?_ ?_);exact rfl;exact rfl)|with_reducible refine qB ?_|((with_reducible refine qI ?_ ?_);omega)|((with_reducible refine qDT ?_ ?_);omega)|((with_reducible refine qDF ?_ ?_);omega)|((with_reducible refine qNT ?_ ?_);omega)|((with_reducible refine qNF ?_ ?_);omega)|((with_reducible refine qU8 ?_ ?_);omega)|((with_reducible refine qU32 ?_ ?_);omega)|((with_reducible refine qU64 ?_ ?_);omega)|((with_reducible refine qU16 ?_ ?_);omega))
      conv => whnf
      rw [e1]
      repeat((conv=>whnf);first|((with_reducible refine qS ?_ ?_ ?_);exact rfl;exact rfl)|with_reducible refine qB ?_|((with_reducible refine qI ?_ ?_);omega)|((with_reducible refine qDT ?_ ?_);omega)|((with_reducible refine qDF ?_ ?_);omega)|((with_reducible refine qNT ?_ ?_);omega)|((with_reducible refine qNF ?_ ?_);omega)|((with_reducible refine qU8 ?_ ?_);omega)|((with_reducible refine qU32 ?_ ?_);omega)|((with_reducible refine qU64 ?_ ?_);omega)|((with_reducible refine qU16 ?_ ?_);omega))
      conv => whnf
      refine .rd (fun p : Nat × ByteArray => p.1 ≤ G i % 20 ∧ p.2 = t ++ bs (List.replicate p.1 true)) (fun p => [(5, sv p.2), (9, iv .i64 p.1)]) (fun p => G i % 20 - p.1) (0, t) ⟨Nat.zero_le _, by show t = t ++ bs (List.replicate 0 true); rw [show bs (List.replicate 0 true) = ByteArray.empty from rfl, ByteArray.append_empty]⟩ ?_ (fun p ⟨hj, hb⟩ => ?_)
      · conv => whnf
        refine Le.id rfl ?_ ?_
        all_goals(repeat'(first|exact leT_empty|exact trivial|exact rfl|exact .inl rfl|exact .inr rfl|exact .inr ⟨rfl,rfl⟩|exact Nat.le_refl _|exact Nat.zero_le _|exact fun _ _=>rfl|assumption|refine And.intro ?_ ?_|exact ul0|exact ul1 rfl|exact ul2 rfl rfl|exact ul3 rfl rfl rfl))
      generalize p.1 = j at *
      generalize p.2 = b at *
      have hbs : b.size = t.size + j := by rw [hb, ByteArray.size_append, bs_size, List.length_replicate]
      repeat((conv=>whnf);first|((with_reducible refine qS ?_ ?_ ?_);exact rfl;exact rfl)|with_reducible refine qB ?_|((with_reducible refine qI ?_ ?_);omega)|((with_reducible refine qDT ?_ ?_);omega)|((with_reducible refine qDF ?_ ?_);omega)|((with_reducible refine qNT ?_ ?_);omega)|((with_reducible refine qNF ?_ ?_);omega)|((with_reducible refine qU8 ?_ ?_);omega)|((with_reducible refine qU32 ?_ ?_);omega)|((with_reducible refine qU64 ?_ ?_);omega)|((with_reducible refine qU16 ?_ ?_);omega))
      conv => whnf
      rw [show 0 + ((i : Int)).toNat = i by omega, hM i (by omega), show ((G i : Int)).tmod 20 = ((G i % 20 : Nat) : Int) from rfl]
      repeat((conv=>whnf);first|((with_reducible refine qS ?_ ?_ ?_);exact rfl;exact rfl)|with_reducible refine qB ?_|((with_reducible refine qI ?_ ?_);omega)|((with_reducible refine qDT ?_ ?_);omega)|((with_reducible refine qDF ?_ ?_);omega)|((with_reducible refine qNT ?_ ?_);omega)|((with_reducible refine qNF ?_ ?_);omega)|((with_reducible refine qU8 ?_ ?_);omega)|((with_reducible refine qU32 ?_ ?_);omega)|((with_reducible refine qU64 ?_ ?_);omega)|((with_reducible refine qU16 ?_ ?_);omega))
      conv => whnf
      refine cD (fun h7 => ?_) (fun h7 => ?_)
      · repeat((conv=>whnf);first|((with_reducible refine qS ?_ ?_ ?_);exact rfl;exact rfl)|with_reducible refine qB ?_|((with_reducible refine qI ?_ ?_);omega)|((with_reducible refine qDT ?_ ?_);omega)|((with_reducible refine qDF ?_ ?_);omega)|((with_reducible refine qNT ?_ ?_);omega)|((with_reducible refine qNF ?_ ?_);omega)|((with_reducible refine qU8 ?_ ?_);omega)|((with_reducible refine qU32 ?_ ?_);omega)|((with_reducible refine qU64 ?_ ?_);omega)|((with_reducible refine qU16 ?_ ?_);omega))
        conv => whnf
        refine cDT (by show b.size + 1 ≤ _; omega) ?_
        repeat((conv=>whnf);first|((with_reducible refine qS ?_ ?_ ?_);exact rfl;exact rfl)|with_reducible refine qB ?_|((with_reducible refine qI ?_ ?_);omega)|((with_reducible refine qDT ?_ ?_);omega)|((with_reducible refine qDF ?_ ?_);omega)|((with_reducible refine qNT ?_ ?_);omega)|((with_reducible refine qNF ?_ ?_);omega)|((with_reducible refine qU8 ?_ ?_);omega)|((with_reducible refine qU32 ?_ ?_);omega)|((with_reducible refine qU64 ?_ ?_);omega)|((with_reducible refine qU16 ?_ ?_);omega))
        conv => whnf
        refine ⟨(j + 1, b ++ ⟨#[49]⟩), ⟨⟨by show j + 1 ≤ G i % 20; omega, by show b ++ bs [true] = t ++ bs (List.replicate (j + 1) true); rw [hb, List.replicate_succ', ← bs_app, ByteArray.append_assoc]⟩, by show G i % 20 - (j + 1) < G i % 20 - j; omega⟩, ?_⟩
        conv => whnf
        refine Le.id rfl ?_ ?_
        all_goals(repeat'(first|exact leT_empty|exact trivial|exact rfl|exact .inl rfl|exact .inr rfl|exact .inr ⟨rfl,rfl⟩|exact Nat.le_refl _|exact Nat.zero_le _|exact fun _ _=>rfl|assumption|refine And.intro ?_ ?_|exact ul0|exact ul1 rfl|exact ul2 rfl rfl|exact ul3 rfl rfl rfl))
      · obtain rfl : j = G i % 20 := by omega
        have hO2 : seenL 0 (prs A G (i + 1)) = O ++ [(⟨b.size, (enc (A i)).size, A i, 0⟩ : Sn)] := by
          show seenL 0 (prs A G i ++ [(A i, G i % 20)]) = _
          rw [seen_app, ← hO, hbs, hes, ht, bs_size, Nat.zero_add]; rfl
        have ht2 : b ++ enc (A i) = bs (sentB (prs A G (i + 1))) := by
          show _ = bs (sentB (prs A G i ++ [(A i, G i % 20)]))
          rw [sent_app, hb, ht, e0, bs_app, bs_app]
          show _ = bs (_ ++ (_ ++ (_ ++ [])))
          rw [List.append_nil, List.append_assoc]
        have el : (O ++ [(⟨b.size, (enc (A i)).size, A i, 0⟩ : Sn)]).length = 0 + 1 := by rw [List.length_append, hw]; rfl
        repeat((conv=>whnf);first|((with_reducible refine qS ?_ ?_ ?_);exact rfl;exact rfl)|with_reducible refine qB ?_|((with_reducible refine qI ?_ ?_);omega)|((with_reducible refine qDT ?_ ?_);omega)|((with_reducible refine qDF ?_ ?_);omega)|((with_reducible refine qNT ?_ ?_);omega)|((with_reducible refine qNF ?_ ?_);omega)|((with_reducible refine qU8 ?_ ?_);omega)|((with_reducible refine qU32 ?_ ?_);omega)|((with_reducible refine qU64 ?_ ?_);omega)|((with_reducible refine qU16 ?_ ?_);omega))
        conv => whnf
        skip
        intro cap2' hc2
        repeat((conv=>whnf);first|((with_reducible refine qS ?_ ?_ ?_);exact rfl;exact rfl)|with_reducible refine qB ?_|((with_reducible refine qI ?_ ?_);omega)|((with_reducible refine qDT ?_ ?_);omega)|((with_reducible refine qDF ?_ ?_);omega)|((with_reducible refine qNT ?_ ?_);omega)|((with_reducible refine qNF ?_ ?_);omega)|((with_reducible refine qU8 ?_ ?_);omega)|((with_reducible refine qU32 ?_ ?_);omega)|((with_reducible refine qU64 ?_ ?_);omega)|((with_reducible refine qU16 ?_ ?_);omega))
        conv => whnf
        refine ⟨(i + 1, cap2', O ++ [(⟨b.size, (enc (A i)).size, A i, 0⟩ : Sn)], b ++ enc (A i)), ⟨⟨by show i + 1 ≤ n; omega, hO2.symm, by show (O ++ [_]).length ≤ cap2'; rw [el]; exact hc2, ht2, fun j hj => by
          rcases Nat.lt_succ_iff_lt_or_eq.1 hj with h | h
          · exact ho j h
          · rw [h]; exact hok⟩, by show n - (i + 1) < n - i; omega⟩, ?_⟩
        dsimp only
        rw [el]
        conv => whnf
        rw [show 0 + ((i : Int)).toNat = i by omega, hN i (by omega)]
        refine Le.nm [0, 1, 3] rfl ?_ ?_
        · refine ⟨⟨.inl rfl, Nat.le_refl _, fun _ _ => rfl⟩, ⟨.inl rfl, Nat.le_refl _, fun _ _ => rfl⟩, ⟨rfl, rfl, rfl, fun q hq => ?_⟩, trivial⟩
          exact app0n (c := ⟨b.size, (enc (A i)).size, A i, 0⟩) hw hq
        · repeat'(first|exact leT_empty|exact trivial|exact rfl|exact .inl rfl|exact .inr rfl|exact .inr ⟨rfl,rfl⟩|exact Nat.le_refl _|exact Nat.zero_le _|exact fun _ _=>rfl|assumption|refine And.intro ?_ ?_|exact ul0|exact ul1 rfl|exact ul2 rfl rfl|exact ul3 rfl rfl rfl)
    · obtain rfl : i = n := by omega
      have hfr : Fr (rd t) 0 O := by
        rw [ht, rd_bs, hO]
        exact fr_sent _ 0 fun x hx => by
          obtain ⟨j, hj, rfl⟩ := prs_mem hx
          exact ho j hj
      repeat((conv=>whnf);first|((with_reducible refine qS ?_ ?_ ?_);exact rfl;exact rfl)|with_reducible refine qB ?_|((with_reducible refine qI ?_ ?_);omega)|((with_reducible refine qDT ?_ ?_);omega)|((with_reducible refine qDF ?_ ?_);omega)|((with_reducible refine qNT ?_ ?_);omega)|((with_reducible refine qNF ?_ ?_);omega)|((with_reducible refine qU8 ?_ ?_);omega)|((with_reducible refine qU32 ?_ ?_);omega)|((with_reducible refine qU64 ?_ ?_);omega)|((with_reducible refine qU16 ?_ ?_);omega))
      conv => whnf
      refine frs_ask (W := O) (by omega) hfr fun fc hfc => ?_
      rw [hw]
      repeat((conv=>whnf);first|((with_reducible refine qS ?_ ?_ ?_);exact rfl;exact rfl)|with_reducible refine qB ?_|((with_reducible refine qI ?_ ?_);omega)|((with_reducible refine qDT ?_ ?_);omega)|((with_reducible refine qDF ?_ ?_);omega)|((with_reducible refine qNT ?_ ?_);omega)|((with_reducible refine qNF ?_ ?_);omega)|((with_reducible refine qU8 ?_ ?_);omega)|((with_reducible refine qU32 ?_ ?_);omega)|((with_reducible refine qU64 ?_ ?_);omega)|((with_reducible refine qU16 ?_ ?_);omega))
      conv => whnf
      obtain rfl : i = 0 := by omega
      refine .inr (.use () [] trivial rfl trivial ?_ ?_)
      · repeat'(first|exact leT_empty|exact trivial|exact rfl|exact .inl rfl|exact .inr rfl|exact .inr ⟨rfl,rfl⟩|exact Nat.le_refl _|exact Nat.zero_le _|exact fun _ _=>rfl|assumption|refine And.intro ?_ ?_|exact ul0|exact ul1 rfl|exact ul2 rfl rfl|exact ul3 rfl rfl rfl)
      repeat((conv=>whnf);first|((with_reducible refine qS ?_ ?_ ?_);exact rfl;exact rfl)|with_reducible refine qB ?_|((with_reducible refine qI ?_ ?_);omega)|((with_reducible refine qDT ?_ ?_);omega)|((with_reducible refine qDF ?_ ?_);omega)|((with_reducible refine qNT ?_ ?_);omega)|((with_reducible refine qNF ?_ ?_);omega)|((with_reducible refine qU8 ?_ ?_);omega)|((with_reducible refine qU32 ?_ ?_);omega)|((with_reducible refine qU64 ?_ ?_);omega)|((with_reducible refine qU16 ?_ ?_);omega))
      conv => whnf
      exact rfl
  · conv => whnf
    refine cD (fun h5 => ?_) (fun h5 => ?_)
    · have hAi := hA i (by omega)
      repeat((conv=>whnf);first|((with_reducible refine qS ?_ ?_ ?_);exact rfl;exact rfl)|with_reducible refine qB ?_|((with_reducible refine qI ?_ ?_);omega)|((with_reducible refine qDT ?_ ?_);omega)|((with_reducible refine qDF ?_ ?_);omega)|((with_reducible refine qNT ?_ ?_);omega)|((with_reducible refine qNF ?_ ?_);omega)|((with_reducible refine qU8 ?_ ?_);omega)|((with_reducible refine qU32 ?_ ?_);omega)|((with_reducible refine qU64 ?_ ?_);omega)|((with_reducible refine qU16 ?_ ?_);omega))
      conv => whnf
      rw [show 0 + ((i : Int)).toNat = i by omega, hN i (by omega)]
      refine enc_use (f := A i) hAi ?_
      repeat((conv=>whnf);first|((with_reducible refine qS ?_ ?_ ?_);exact rfl;exact rfl)|with_reducible refine qB ?_|((with_reducible refine qI ?_ ?_);omega)|((with_reducible refine qDT ?_ ?_);omega)|((with_reducible refine qDF ?_ ?_);omega)|((with_reducible refine qNT ?_ ?_);omega)|((with_reducible refine qNF ?_ ?_);omega)|((with_reducible refine qU8 ?_ ?_);omega)|((with_reducible refine qU32 ?_ ?_);omega)|((with_reducible refine qU64 ?_ ?_);omega)|((with_reducible refine qU16 ?_ ?_);omega))
      conv => whnf
      rw [show 0 + ((i : Int)).toNat = i by omega]
      by_cases g3 : 8 < (A i).data.size
      · repeat((conv=>whnf);first|((with_reducible refine qS ?_ ?_ ?_);exact rfl;exact rfl)|with_reducible refine qB ?_|((with_reducible refine qI ?_ ?_);omega)|((with_reducible refine qDT ?_ ?_);omega)|((with_reducible refine qDF ?_ ?_);omega)|((with_reducible refine qNT ?_ ?_);omega)|((with_reducible refine qNF ?_ ?_);omega)|((with_reducible refine qU8 ?_ ?_);omega)|((with_reducible refine qU32 ?_ ?_);omega)|((with_reducible refine qU64 ?_ ?_);omega)|((with_reducible refine qU16 ?_ ?_);omega))
        conv => whnf
        exact rfl
      by_cases hok : (A i).ok
      rotate_left
      · have e0 : enc (A i) = ByteArray.empty := if_neg hok
        rw [e0]
        repeat((conv=>whnf);first|((with_reducible refine qS ?_ ?_ ?_);exact rfl;exact rfl)|with_reducible refine qB ?_|((with_reducible refine qI ?_ ?_);omega)|((with_reducible refine qDT ?_ ?_);omega)|((with_reducible refine qDF ?_ ?_);omega)|((with_reducible refine qNT ?_ ?_);omega)|((with_reducible refine qNF ?_ ?_);omega)|((with_reducible refine qU8 ?_ ?_);omega)|((with_reducible refine qU32 ?_ ?_);omega)|((with_reducible refine qU64 ?_ ?_);omega)|((with_reducible refine qU16 ?_ ?_);omega))
        conv => whnf
        exact rfl
      have e0 : enc (A i) = bs (encB (A i)) := if_pos hok
      have hp := encB_pos (A i)
      have hl := encB_len hok
      have hes : (enc (A i)).size = (encB (A i)).length := by rw [e0, bs_size]
      have e1 : strEq (enc (A i)) ⟨#[]⟩ = false := decide_eq_false fun h => by
        have := congrArg ByteArray.size h
        rw [hes] at this
        have : (encB (A i)).length = 0 := this
        omega
      repeat((conv=>whnf);first|((with_reducible refine qS ?_ ?_ ?_);exact rfl;exact rfl)|with_reducible refine qB ?_|((with_reducible refine qI ?_ ?_);omega)|((with_reducible refine qDT ?_ ?_);omega)|((with_reducible refine qDF ?_ ?_);omega)|((with_reducible refine qNT ?_ ?_);omega)|((with_reducible refine qNF ?_ ?_);omega)|((with_reducible refine qU8 ?_ ?_);omega)|((with_reducible refine qU32 ?_ ?_);omega)|((with_reducible refine qU64 ?_ ?_);omega)|((with_reducible refine qU16 ?_ ?_);omega))
      conv => whnf
      rw [e1]
      repeat((conv=>whnf);first|((with_reducible refine qS ?_ ?_ ?_);exact rfl;exact rfl)|with_reducible refine qB ?_|((with_reducible refine qI ?_ ?_);omega)|((with_reducible refine qDT ?_ ?_);omega)|((with_reducible refine qDF ?_ ?_);omega)|((with_reducible refine qNT ?_ ?_);omega)|((with_reducible refine qNF ?_ ?_);omega)|((with_reducible refine qU8 ?_ ?_);omega)|((with_reducible refine qU32 ?_ ?_);omega)|((with_reducible refine qU64 ?_ ?_);omega)|((with_reducible refine qU16 ?_ ?_);omega))
      conv => whnf
      refine .rd (fun p : Nat × ByteArray => p.1 ≤ G i % 20 ∧ p.2 = t ++ bs (List.replicate p.1 true)) (fun p => [(5, sv p.2), (9, iv .i64 p.1)]) (fun p => G i % 20 - p.1) (0, t) ⟨Nat.zero_le _, by show t = t ++ bs (List.replicate 0 true); rw [show bs (List.replicate 0 true) = ByteArray.empty from rfl, ByteArray.append_empty]⟩ ?_ (fun p ⟨hj, hb⟩ => ?_)
      · conv => whnf
        refine Le.id rfl ?_ ?_
        all_goals(repeat'(first|exact leT_empty|exact trivial|exact rfl|exact .inl rfl|exact .inr rfl|exact .inr ⟨rfl,rfl⟩|exact Nat.le_refl _|exact Nat.zero_le _|exact fun _ _=>rfl|assumption|refine And.intro ?_ ?_|exact ul0|exact ul1 rfl|exact ul2 rfl rfl|exact ul3 rfl rfl rfl))
      generalize p.1 = j at *
      generalize p.2 = b at *
      have hbs : b.size = t.size + j := by rw [hb, ByteArray.size_append, bs_size, List.length_replicate]
      repeat((conv=>whnf);first|((with_reducible refine qS ?_ ?_ ?_);exact rfl;exact rfl)|with_reducible refine qB ?_|((with_reducible refine qI ?_ ?_);omega)|((with_reducible refine qDT ?_ ?_);omega)|((with_reducible refine qDF ?_ ?_);omega)|((with_reducible refine qNT ?_ ?_);omega)|((with_reducible refine qNF ?_ ?_);omega)|((with_reducible refine qU8 ?_ ?_);omega)|((with_reducible refine qU32 ?_ ?_);omega)|((with_reducible refine qU64 ?_ ?_);omega)|((with_reducible refine qU16 ?_ ?_);omega))
      conv => whnf
      rw [show 0 + ((i : Int)).toNat = i by omega, hM i (by omega), show ((G i : Int)).tmod 20 = ((G i % 20 : Nat) : Int) from rfl]
      repeat((conv=>whnf);first|((with_reducible refine qS ?_ ?_ ?_);exact rfl;exact rfl)|with_reducible refine qB ?_|((with_reducible refine qI ?_ ?_);omega)|((with_reducible refine qDT ?_ ?_);omega)|((with_reducible refine qDF ?_ ?_);omega)|((with_reducible refine qNT ?_ ?_);omega)|((with_reducible refine qNF ?_ ?_);omega)|((with_reducible refine qU8 ?_ ?_);omega)|((with_reducible refine qU32 ?_ ?_);omega)|((with_reducible refine qU64 ?_ ?_);omega)|((with_reducible refine qU16 ?_ ?_);omega))
      conv => whnf
      refine cD (fun h7 => ?_) (fun h7 => ?_)
      · repeat((conv=>whnf);first|((with_reducible refine qS ?_ ?_ ?_);exact rfl;exact rfl)|with_reducible refine qB ?_|((with_reducible refine qI ?_ ?_);omega)|((with_reducible refine qDT ?_ ?_);omega)|((with_reducible refine qDF ?_ ?_);omega)|((with_reducible refine qNT ?_ ?_);omega)|((with_reducible refine qNF ?_ ?_);omega)|((with_reducible refine qU8 ?_ ?_);omega)|((with_reducible refine qU32 ?_ ?_);omega)|((with_reducible refine qU64 ?_ ?_);omega)|((with_reducible refine qU16 ?_ ?_);omega))
        conv => whnf
        refine cDT (by show b.size + 1 ≤ _; omega) ?_
        repeat((conv=>whnf);first|((with_reducible refine qS ?_ ?_ ?_);exact rfl;exact rfl)|with_reducible refine qB ?_|((with_reducible refine qI ?_ ?_);omega)|((with_reducible refine qDT ?_ ?_);omega)|((with_reducible refine qDF ?_ ?_);omega)|((with_reducible refine qNT ?_ ?_);omega)|((with_reducible refine qNF ?_ ?_);omega)|((with_reducible refine qU8 ?_ ?_);omega)|((with_reducible refine qU32 ?_ ?_);omega)|((with_reducible refine qU64 ?_ ?_);omega)|((with_reducible refine qU16 ?_ ?_);omega))
        conv => whnf
        refine ⟨(j + 1, b ++ ⟨#[49]⟩), ⟨⟨by show j + 1 ≤ G i % 20; omega, by show b ++ bs [true] = t ++ bs (List.replicate (j + 1) true); rw [hb, List.replicate_succ', ← bs_app, ByteArray.append_assoc]⟩, by show G i % 20 - (j + 1) < G i % 20 - j; omega⟩, ?_⟩
        conv => whnf
        refine Le.id rfl ?_ ?_
        all_goals(repeat'(first|exact leT_empty|exact trivial|exact rfl|exact .inl rfl|exact .inr rfl|exact .inr ⟨rfl,rfl⟩|exact Nat.le_refl _|exact Nat.zero_le _|exact fun _ _=>rfl|assumption|refine And.intro ?_ ?_|exact ul0|exact ul1 rfl|exact ul2 rfl rfl|exact ul3 rfl rfl rfl))
      · obtain rfl : j = G i % 20 := by omega
        have hO2 : seenL 0 (prs A G (i + 1)) = O ++ [(⟨b.size, (enc (A i)).size, A i, 0⟩ : Sn)] := by
          show seenL 0 (prs A G i ++ [(A i, G i % 20)]) = _
          rw [seen_app, ← hO, hbs, hes, ht, bs_size, Nat.zero_add]; rfl
        have ht2 : b ++ enc (A i) = bs (sentB (prs A G (i + 1))) := by
          show _ = bs (sentB (prs A G i ++ [(A i, G i % 20)]))
          rw [sent_app, hb, ht, e0, bs_app, bs_app]
          show _ = bs (_ ++ (_ ++ (_ ++ [])))
          rw [List.append_nil, List.append_assoc]
        have el : (O ++ [(⟨b.size, (enc (A i)).size, A i, 0⟩ : Sn)]).length = (w + 1) + 1 := by rw [List.length_append, hw]; rfl
        repeat((conv=>whnf);first|((with_reducible refine qS ?_ ?_ ?_);exact rfl;exact rfl)|with_reducible refine qB ?_|((with_reducible refine qI ?_ ?_);omega)|((with_reducible refine qDT ?_ ?_);omega)|((with_reducible refine qDF ?_ ?_);omega)|((with_reducible refine qNT ?_ ?_);omega)|((with_reducible refine qNF ?_ ?_);omega)|((with_reducible refine qU8 ?_ ?_);omega)|((with_reducible refine qU32 ?_ ?_);omega)|((with_reducible refine qU64 ?_ ?_);omega)|((with_reducible refine qU16 ?_ ?_);omega))
        conv => whnf
        refine cT (decide_eq_true (by show (w + 1 + 1) * 56 ≤ 1099511627776; omega)) ?_
        repeat((conv=>whnf);first|((with_reducible refine qS ?_ ?_ ?_);exact rfl;exact rfl)|with_reducible refine qB ?_|((with_reducible refine qI ?_ ?_);omega)|((with_reducible refine qDT ?_ ?_);omega)|((with_reducible refine qDF ?_ ?_);omega)|((with_reducible refine qNT ?_ ?_);omega)|((with_reducible refine qNF ?_ ?_);omega)|((with_reducible refine qU8 ?_ ?_);omega)|((with_reducible refine qU32 ?_ ?_);omega)|((with_reducible refine qU64 ?_ ?_);omega)|((with_reducible refine qU16 ?_ ?_);omega))
        conv => whnf
        skip
        intro cap2' hc2
        repeat((conv=>whnf);first|((with_reducible refine qS ?_ ?_ ?_);exact rfl;exact rfl)|with_reducible refine qB ?_|((with_reducible refine qI ?_ ?_);omega)|((with_reducible refine qDT ?_ ?_);omega)|((with_reducible refine qDF ?_ ?_);omega)|((with_reducible refine qNT ?_ ?_);omega)|((with_reducible refine qNF ?_ ?_);omega)|((with_reducible refine qU8 ?_ ?_);omega)|((with_reducible refine qU32 ?_ ?_);omega)|((with_reducible refine qU64 ?_ ?_);omega)|((with_reducible refine qU16 ?_ ?_);omega))
        conv => whnf
        refine ⟨(i + 1, cap2', O ++ [(⟨b.size, (enc (A i)).size, A i, 0⟩ : Sn)], b ++ enc (A i)), ⟨⟨by show i + 1 ≤ n; omega, hO2.symm, by show (O ++ [_]).length ≤ cap2'; rw [el]; exact hc2, ht2, fun j hj => by
          rcases Nat.lt_succ_iff_lt_or_eq.1 hj with h | h
          · exact ho j h
          · rw [h]; exact hok⟩, by show n - (i + 1) < n - i; omega⟩, ?_⟩
        dsimp only
        rw [el]
        conv => whnf
        rw [show 0 + ((i : Int)).toNat = i by omega, hN i (by omega)]
        refine Le.nm [0, 1, 4] rfl ?_ ?_
        · refine ⟨⟨.inl rfl, Nat.le_refl _, fun _ _ => rfl⟩, ⟨.inl rfl, Nat.le_refl _, fun _ _ => rfl⟩, ⟨rfl, rfl, rfl, fun q hq => ?_⟩, trivial⟩
          exact appn (c := ⟨b.size, (enc (A i)).size, A i, 0⟩) (n := w + 1) hw hq
        · repeat'(first|exact leT_empty|exact trivial|exact rfl|exact .inl rfl|exact .inr rfl|exact .inr ⟨rfl,rfl⟩|exact Nat.le_refl _|exact Nat.zero_le _|exact fun _ _=>rfl|assumption|refine And.intro ?_ ?_|exact ul0|exact ul1 rfl|exact ul2 rfl rfl|exact ul3 rfl rfl rfl)
    · obtain rfl : i = n := by omega
      have hfr : Fr (rd t) 0 O := by
        rw [ht, rd_bs, hO]
        exact fr_sent _ 0 fun x hx => by
          obtain ⟨j, hj, rfl⟩ := prs_mem hx
          exact ho j hj
      have hqn : 10 ≤ qn (rd t) := by
        rw [ht, rd_bs, ← hwi]
        exact qn_sent (prs A G w) _ _
      repeat((conv=>whnf);first|((with_reducible refine qS ?_ ?_ ?_);exact rfl;exact rfl)|with_reducible refine qB ?_|((with_reducible refine qI ?_ ?_);omega)|((with_reducible refine qDT ?_ ?_);omega)|((with_reducible refine qDF ?_ ?_);omega)|((with_reducible refine qNT ?_ ?_);omega)|((with_reducible refine qNF ?_ ?_);omega)|((with_reducible refine qU8 ?_ ?_);omega)|((with_reducible refine qU32 ?_ ?_);omega)|((with_reducible refine qU64 ?_ ?_);omega)|((with_reducible refine qU16 ?_ ?_);omega))
      conv => whnf
      refine frs_ask (W := O) (by omega) hfr fun fc hfc => ?_
      rw [hw] at hfc ⊢
      repeat((conv=>whnf);first|((with_reducible refine qS ?_ ?_ ?_);exact rfl;exact rfl)|with_reducible refine qB ?_|((with_reducible refine qI ?_ ?_);omega)|((with_reducible refine qDT ?_ ?_);omega)|((with_reducible refine qDF ?_ ?_);omega)|((with_reducible refine qNT ?_ ?_);omega)|((with_reducible refine qNF ?_ ?_);omega)|((with_reducible refine qU8 ?_ ?_);omega)|((with_reducible refine qU32 ?_ ?_);omega)|((with_reducible refine qU64 ?_ ?_);omega)|((with_reducible refine qU16 ?_ ?_);omega))
      conv => whnf
      refine .inl (.use (O, w + 1, fc, false, O, w + 1, cap', false) [3, 2] (by show w + 1 ≤ 9223372036854775807; omega) rfl ?_ ?_ ?_)
      · repeat'(first|exact leT_empty|exact trivial|exact rfl|exact .inl rfl|exact .inr rfl|exact .inr ⟨rfl,rfl⟩|exact Nat.le_refl _|exact Nat.zero_le _|exact fun _ _=>rfl|assumption|refine And.intro ?_ ?_|exact ul0|exact ul1 rfl|exact ul2 rfl rfl|exact ul3 rfl rfl rfl)
      · repeat'(first|exact leT_empty|exact trivial|exact rfl|exact .inl rfl|exact .inr rfl|exact .inr ⟨rfl,rfl⟩|exact Nat.le_refl _|exact Nat.zero_le _|exact fun _ _=>rfl|assumption|refine And.intro ?_ ?_|exact ul0|exact ul1 rfl|exact ul2 rfl rfl|exact ul3 rfl rfl rfl)
      rw [sameN_refl]
      repeat((conv=>whnf);first|((with_reducible refine qS ?_ ?_ ?_);exact rfl;exact rfl)|with_reducible refine qB ?_|((with_reducible refine qI ?_ ?_);omega)|((with_reducible refine qDT ?_ ?_);omega)|((with_reducible refine qDF ?_ ?_);omega)|((with_reducible refine qNT ?_ ?_);omega)|((with_reducible refine qNF ?_ ?_);omega)|((with_reducible refine qU8 ?_ ?_);omega)|((with_reducible refine qU32 ?_ ?_);omega)|((with_reducible refine qU64 ?_ ?_);omega)|((with_reducible refine qU16 ?_ ?_);omega))
      conv => whnf
      refine qu_use (by omega) ?_
      repeat((conv=>whnf);first|((with_reducible refine qS ?_ ?_ ?_);exact rfl;exact rfl)|with_reducible refine qB ?_|((with_reducible refine qI ?_ ?_);omega)|((with_reducible refine qDT ?_ ?_);omega)|((with_reducible refine qDF ?_ ?_);omega)|((with_reducible refine qNT ?_ ?_);omega)|((with_reducible refine qNF ?_ ?_);omega)|((with_reducible refine qU8 ?_ ?_);omega)|((with_reducible refine qU32 ?_ ?_);omega)|((with_reducible refine qU64 ?_ ?_);omega)|((with_reducible refine qU16 ?_ ?_);omega))
      conv => whnf
      exact congrArg bv (decide_eq_true (by omega))
end Go.Proofs.YtdeaigaafdnehaaDoor.La
