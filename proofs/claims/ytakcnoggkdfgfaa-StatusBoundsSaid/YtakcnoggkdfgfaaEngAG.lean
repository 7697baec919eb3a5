/- Contracts of functions of plain values: what is proved once is used at every call. -/
import Derived.Test.YtakcnoggkdfgfaaEngAF
namespace Go.Eng
open Go
variable {d : Nat}
/-- A function of plain values: from arguments, by what follows. -/
abbrev Out := List R → (R → Prop) → Prop
def clOutGo (cl : Cl) (f : FuncId) (av : List Nat) (xs : List R) (h : Heap) (K : R → Heap → Prop) : List (FuncId × Out) → Prop
  | [] => cl f av xs h K
  | (g, o) :: l => match Nat.beq f g with
    | true => o xs fun x => K x h
    | false => clOutGo cl f av xs h K l
def clOut (outs : List (FuncId × Out)) (cl : Cl) : Cl := fun f av xs h K => clOutGo cl f av xs h K outs
def clRunO (d : Nat) (tt : TT) (outs : List (FuncId × Out)) (tab : List (FuncId × Fn)) : Nat → Cl
  | 0 => fun _ _ _ _ _ => False
  | n + 1 => clOut outs fun f _ xs h K => clGo d tt (clRunO d tt outs tab n) f xs h K tab
def plainR : R → Bool
  | .t (.one (.v _)) => true
  | _ => false
section
variable {P : Program} {tt : TT}
def OutOk (P : Program) (f : FuncId) (o : Out) : Prop := ∀ xs k, o xs k → Enters P f ∧ ∀ ρ h w vs, Rel ρ h w → All2 (DenR ρ) xs vs →
  Calls P f vs.toArray w fun e w' => ∃ v, e = .returned v ∧ Post ρ h w (fun x h' => k x ∧ h' = h) v w'
theorem clOutGo_ok {cl : Cl} (hc : ClOk P cl) {f : FuncId} {av : List Nat} {xs : List R} {h : Heap} {K : R → Heap → Prop} : ∀ {outs : List (FuncId × Out)}, (∀ g o, (g, o) ∈ outs → OutOk P g o) → clOutGo cl f av xs h K outs →
    Enters P f ∧ ∀ ρ w vs, Rel ρ h w → All2 (DenR ρ) xs vs → Calls P f vs.toArray w fun e w' => ∃ v, e = .returned v ∧ Post ρ h w K v w'
  | [], _, hk => hc _ _ _ _ _ hk
  | (g, o) :: l, ho, hk => by
    unfold clOutGo at hk
    split at hk
    · rename_i e
      have e := Nat.eq_of_beq_eq_true e
      subst e
      obtain ⟨h1, h2⟩ := ho f o (by simp) _ _ hk
      refine ⟨h1, fun ρ w vs hr hv => (h2 ρ h w vs hr hv).mono fun e w' ⟨v, he, x, ρ', h', ⟨k1, k2⟩, k3, k4, k5⟩ => ?_⟩
      subst k2
      exact ⟨v, he, x, ρ', h', k1, k3, k4, k5⟩
    · exact clOutGo_ok hc (fun g o hm => ho g o (by simp [hm])) hk
theorem clOut_ok {cl : Cl} (hc : ClOk P cl) {outs : List (FuncId × Out)} (ho : ∀ g o, (g, o) ∈ outs → OutOk P g o) : ClOk P (clOut outs cl) := fun _ _ _ _ _ hk => clOutGo_ok hc ho hk
theorem clRunO_ok (hT : TTok P tt) {outs : List (FuncId × Out)} (ho : ∀ g o, (g, o) ∈ outs → OutOk P g o) {tab : List (FuncId × Fn)} (ht : ∀ cl, ClOk P cl → ∀ g fn, (g, fn) ∈ tab → FnOk P cl tt d g fn) : ∀ n, ClOk P (clRunO d tt outs tab n)
  | 0 => fun _ _ _ _ _ h => h.elim
  | n + 1 => clOut_ok (fun _ _ _ _ _ h => clGo_ok (clRunO_ok hT ho ht n) hT (ht _ (clRunO_ok hT ho ht n)) h) ho
/-- Nothing that was there is touched: the heap stays as it was, whatever names it has. -/
theorem rel_after {ρ : Env} {h : Heap} {w w' : World} (hr : Rel ρ h w) (hs : w.heap.size ≤ w'.heap.size) (hk : ∀ b, b < w.heap.size → w'.heap[b]? = w.heap[b]?) : Rel ρ h w' :=
  ⟨hr.fresh, fun n ob hn => (hr.obs n ob hn).keep (Sub.refl _) hs fun b o hb hl => hk b (hr.looks_lt hn hl hb), hr.inj, hr.apart⟩
theorem plain_den {x : R} (hp : plainR x = true) {ρ ρ' : Env} {v : Value} (h : DenR ρ x v) : DenR ρ' x v := by
  unfold plainR at hp
  split at hp
  · exact h
  · cases hp
theorem plains_den : ∀ {xs : List R} {vs : List Value}, xs.all plainR = true → ∀ {ρ ρ' : Env}, All2 (DenR ρ) xs vs → All2 (DenR ρ') xs vs
  | [], [], _, _, _, _ => trivial
  | x :: xs, v :: vs, hp, _, _, h => by
    simp only [List.all_cons, Bool.and_eq_true] at hp
    exact ⟨plain_den hp.1 h.1, plains_den hp.2 h.2⟩
  | [], _ :: _, _, _, _, h => h.elim
  | _ :: _, [], _, _, _, h => h.elim
/-- Such a contract, from a run in the empty heap. -/
theorem out_of_run {cl : Cl} (hc : ClOk P cl) {f : FuncId} {o : Out} (hr : ∀ xs k, o xs k → xs.all plainR = true ∧ cl f [] xs [] fun x _ => plainR x = true ∧ k x) : OutOk P f o := fun xs k hk => by
  obtain ⟨h1, h2⟩ := hr xs k hk
  obtain ⟨g1, g2⟩ := hc _ _ _ _ _ h2
  refine ⟨g1, fun ρ h w vs hh hv => (g2 none' w vs (rel_none w) (plains_den h1 hv)).mono fun e w' ⟨v, he, x, ρ', h', ⟨k1, k2⟩, k3, k4, k5⟩ => ?_⟩
  have keep : ∀ b, b < w.heap.size → w'.heap[b]? = w.heap[b]? := fun b hb => k4.keep b hb fun n ⟨ob, o, q, _⟩ => by simp at q
  exact ⟨v, he, x, ρ, h, ⟨k2, rfl⟩, rel_after hh k4.size keep, ⟨Sub.refl _, k4.os, k4.tape, k4.output, k4.frozen, k4.size, fun b hb _ => keep b hb, fun n b hb => .inl ⟨n, hb⟩⟩, plain_den k1 k5⟩
end
end Go.Eng
