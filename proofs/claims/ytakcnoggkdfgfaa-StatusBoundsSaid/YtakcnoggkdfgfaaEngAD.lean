/- Regions that draw their order: a plan that is checked serves every order. -/
import Derived.Test.YtakcnoggkdfgfaaEngAC
namespace Go.Eng
open Go
variable {d : Nat}
section
variable {P : Program} {tt : TT} {nt : Nat} {ops : Array Oper} {cl : Cl} {C S F : List Nat} {r : Tr d} {h : Heap} {listed : Array Bool} {a : Act} {w : World} {ρ : Env} {k : Tr d → Heap → Prop}
theorem Inv.same (hI : Inv tt ops nt C S F r h listed a w ρ) {r' : Tr d} (hs : Same r r') : Inv tt ops nt C S F r' h listed a w ρ :=
  { hI with
    regs := fun t ht => by rw [hs t]; exact hI.regs t ht
    facts := fun i hi hn => (hI.facts i hi hn).keep fun _ _ t _ => hs t }
theorem putR_get {dst : Option Tmp} {x : R} {k : Tr d → Prop} (hk : putR nt r dst x k) : ∃ r', k r' ∧ (∀ t, dst = some t → r'.get d t = x) ∧ (∀ t, dst ≠ some t → r'.get d t = r.get d t) ∧ ∀ t, dst = some t → t < nt := by
  unfold putR at hk
  split at hk
  · exact ⟨r, hk, (fun _ ht => by simp at ht), fun _ _ => rfl, (fun _ ht => by simp at ht)⟩
  · rename_i u
    split at hk
    · rename_i hb
      obtain ⟨h1, h2⟩ := (Tr.setK_iff d r u _ _).1 hk
      refine ⟨_, h2, fun t ht => ?_, fun t ht => ?_, fun t ht => ?_⟩
      · injection ht with ht; subst ht; rw [Tr.get_set d r u x u h1, if_pos rfl]
      · rw [Tr.get_set d r u x t h1, if_neg (fun e => ht (by rw [e]))]
      · injection ht with ht; subst ht; exact Nat.le_of_ble_eq_true hb
    · exact hk.elim
def head : Plan → Prop
  | .stop | .ch _ _ _ => True
  | _ => False
theorem Inv.op (hI : Inv tt ops nt C S F r h listed a w ρ) {i : Nat} (hB : opB ops.toList C S i = true) {o : Oper} (ho : ops.toList[i]? = some o) {r2 : Tr d} (h2 : ∀ t, o.dst ≠ some t → r2.get d t = r.get d t) (hnt : ∀ t, o.dst = some t → t < nt)
    (hf : (∀ t ∈ eyes ops.toList o, r2.get d t = r.get d t) → Fact tt ops.toList r2 h i) : Inv tt ops nt C (i :: S) (i :: F) r2 h listed a w ρ := by
  obtain ⟨o', ho', hB⟩ := withOp_iff hB
  rw [ho] at ho'; injection ho' with e; subst e
  simp only [Bool.and_eq_true, Bool.not_eq_true', List.all_eq_true] at hB
  obtain ⟨⟨⟨⟨⟨q1, q2⟩, q3⟩, q4⟩, q5⟩, q6⟩ := hB
  have q3 : i ∉ C := by simpa using q3
  have q4 : i ∉ S := by simpa using q4
  have hn : ¬ Dn listed i := fun hd => (hI.sub i hd).elim q3 q4
  have hpre : ∀ j ∈ preds o, j ∈ C ∨ j ∈ S := fun j hj => by
    have := q5; simp only [edgesIn, List.all_eq_true] at this
    simpa using this j hj
  have see : ∀ j ∈ i :: S, ∀ oj, ops.toList[j]? = some oj → (∀ t, o.dst = some t → t ∉ eyes ops.toList oj) ∧ (j ≠ i → ∀ t, o.dst = some t → oj.dst ≠ some t) ∧ ((∀ t, oj.dst = some t → t ∉ eyes ops.toList o) ∨ (j ≠ i ∧ j ∈ clo ops.toList ops.toList.length (preds o))) := fun j hj oj hoj => by
    obtain ⟨c1, c2⟩ := q6 j hj
    obtain ⟨oj', e1, c1⟩ := withOp_iff c1
    rw [hoj] at e1; injection e1 with e; subst e
    obtain ⟨oj', e1, c2⟩ := withOp_iff c2
    rw [hoj] at e1; injection e1 with e; subst e
    simp only [Bool.and_eq_true, Bool.not_eq_true', Bool.or_eq_true, beq_iff_eq] at c1 c2
    refine ⟨fun t ht => dstIn_not c2.1 ht, fun hji t ht => dstNe_iff (c2.2.resolve_left hji) ht, ?_⟩
    rcases c1 with c1 | c1
    · exact .inl fun t ht => dstIn_not c1 ht
    · exact .inr ⟨by simpa using c1.1, by simpa using c1.2⟩
  have ownEyes : ∀ t ∈ eyes ops.toList o, r2.get d t = r.get d t := fun t ht => h2 t fun e => (see i (by simp) o ho).1 t e ht
  exact { hI with
    sub := fun j hj => (hI.sub j hj).imp id fun h => by simp [h]
    topo := ⟨fun o' e j hj => by rw [ho] at e; injection e with e; subst e; exact hpre j hj, hI.topo⟩
    low := fun j hj => by
      rcases List.mem_cons.1 hj with rfl | hj
      · exact ⟨o, ho, q1, q2⟩
      · exact hI.low j hj
    blind := fun x hx y hy ox oy e1 e2 => by
      rcases List.mem_cons.1 hx with rfl | hx'
      · rw [ho] at e1; injection e1 with e; subst e
        exact (see y hy oy e2).2.2
      · rcases List.mem_cons.1 hy with rfl | hy'
        · rw [ho] at e2; injection e2 with e; subst e
          exact .inl (see x hx ox e1).1
        · exact hI.blind x hx' y hy' ox oy e1 e2
    uniq := fun x hx y hy hne ox oy e1 e2 t ht => by
      rcases List.mem_cons.1 hx with rfl | hx'
      · rw [ho] at e1; injection e1 with e; subst e
        exact (see y hy oy e2).2.1 (Ne.symm hne) t ht
      · rcases List.mem_cons.1 hy with rfl | hy'
        · rw [ho] at e2; injection e2 with e; subst e
          intro ht'
          exact (see x hx ox e1).2.1 hne t ht' ht
        · exact hI.uniq x hx' y hy' hne ox oy e1 e2 t ht
    small := fun j hj oj hoj => by
      rcases List.mem_cons.1 hj with rfl | hj
      · rw [ho] at hoj; injection hoj with e; subst e; exact hnt
      · exact hI.small j hj oj hoj
    regs := fun t ht => by
      rw [h2 t (ht i o (by simp) hn ho)]
      exact hI.regs t fun j oj hj hnj e => ht j oj (by simp [hj]) hnj e
    fs := fun j hj => by
      rcases List.mem_cons.1 hj with rfl | hj
      · simp
      · simp [hI.fs j hj]
    facts := fun j hj hnj => by
      rcases List.mem_cons.1 hj with rfl | hj
      · exact hf ownEyes
      · have hjS := hI.fs j hj
        have hji : j ≠ i := fun e => q4 (e ▸ hjS)
        refine (hI.facts j hj hnj).keep fun oj e t ht => h2 t fun hd => ?_
        have := see j (by simp [hjS]) oj e
        rcases ht with ht | ht
        · exact this.1 t hd ht
        · exact this.2.1 hji t hd ht }
theorem sameK_ok {dst : Option Tmp} {x : R} {p : Prop} (hk : sameK r dst x p) : (∀ t, dst = some t → x = r.get d t) ∧ p := by
  unfold sameK at hk
  split at hk
  · exact ⟨fun t ht => by (try simp at ht), hk⟩
  · rename_i u
    rw [Tr.getK_eq] at hk
    obtain ⟨h1, h2⟩ := Chk_ok hk
    exact ⟨fun t ht => by injection ht with ht; subst ht; exact sameR_ok h1, h2⟩
theorem virt : ∀ (p : Plan) (S F : List Nat) (r : Tr d), planB ops.toList C S F [] p = true → evPlan cl tt nt ops.toList p r h k → Inv tt ops nt C S F r h listed a w ρ →
    ∃ p' S' F' r', head p' ∧ planB ops.toList C S' F' [] p' = true ∧ evPlan cl tt nt ops.toList p' r' h k ∧ Inv tt ops nt C S' F' r' h listed a w ρ
  | .stop, S, F, r, hB, hk, hI => ⟨.stop, S, F, r, trivial, hB, hk, hI⟩
  | .ch i p q, S, F, r, hB, hk, hI => ⟨.ch i p q, S, F, r, trivial, hB, hk, hI⟩
  | .nil, S, F, r, hB, hk, hI => by simp [planB] at hB
  | .op i p, S, F, r, hB, hk, hI => by
    simp only [planB, Bool.and_eq_true] at hB
    obtain ⟨⟨_, hB⟩, hp⟩ := hB
    obtain ⟨o, ho, hk⟩ := nthK_ok hk
    obtain ⟨o', ho', hq⟩ := withOp_iff hB
    rw [ho] at ho'; injection ho' with e; subst e
    simp only [Bool.and_eq_true, Bool.not_eq_true'] at hq
    have q1 := hq.1.1.1.1.1
    have q2 := hq.1.1.1.1.2
    obtain ⟨r1, c, g1, g2, g3⟩ := guardK_ok hk
    cases c with
    | true =>
      obtain ⟨⟨x, b⟩, k1, k2⟩ := det_evX tt r1 h o.op q2 (fun y => match y.2 with
        | none => putR nt r1 o.dst y.1 fun r => evPlan cl tt nt ops.toList p r h k
        | some _ => False) g3
      cases b with
      | some b => exact k1.elim
      | none =>
        obtain ⟨r2, e1, e2, e3, e4⟩ := putR_get k1
        have e5 : ∀ t, o.dst ≠ some t → r2.get d t = r.get d t := fun t ht => (e3 t ht).trans (g1 t)
        refine virt p _ _ r2 hp e1 (hI.op hB ho e5 e4 fun he => ⟨o, ho, q1, q2, .inl ⟨eyes_says he g2, ?_⟩⟩)
        have := k2 (fun y => y.2 = none ∧ ∀ t, o.dst = some t → y.1 = r2.get d t) ⟨rfl, fun t ht => (e2 t ht).symm⟩
        rw [evX_congr (r := r1) (eyes_op fun t ht => (he t ht).trans (g1 t).symm)]
        exact this
    | false =>
      obtain ⟨r2, e1, e2, e3, e4⟩ := putR_get g3
      have e5 : ∀ t, o.dst ≠ some t → r2.get d t = r.get d t := fun t ht => (e3 t ht).trans (g1 t)
      exact virt p _ _ r2 hp e1 (hI.op hB ho e5 e4 fun he => ⟨o, ho, q1, q2, .inr ⟨eyes_says he g2, e2⟩⟩)
  | .re i p, S, F, r, hB, hk, hI => by
    simp only [planB, Bool.and_eq_true] at hB
    obtain ⟨⟨_, hB⟩, hp⟩ := hB
    have hB : i ∈ S := by simpa using hB
    obtain ⟨o, ho, hk⟩ := nthK_ok hk
    obtain ⟨o', ho', q1, q2⟩ := hI.low i hB
    rw [ho] at ho'; injection ho' with e; subst e
    obtain ⟨r1, c, g1, g2, g3⟩ := guardK_ok hk
    have fin : Fact tt ops.toList r1 h i → Inv tt ops nt C S (i :: F) r1 h listed a w ρ := fun hf =>
      { hI.same g1 with
        fs := fun j hj => by
          rcases List.mem_cons.1 hj with rfl | hj
          · exact hB
          · exact hI.fs j hj
        facts := fun j hj hn => by
          rcases List.mem_cons.1 hj with rfl | hj
          · exact hf
          · exact (hI.same g1).facts j hj hn }
    have g2' : ∀ {c}, Says ops.toList r o c → Says ops.toList r1 o c := fun hs => eyes_says (fun t _ => g1 t) hs
    cases c with
    | true =>
      obtain ⟨⟨x, b⟩, k1, k2⟩ := det_evX tt r1 h o.op q2 (fun y => match y.2 with
        | none => sameK r1 o.dst y.1 (evPlan cl tt nt ops.toList p r1 h k)
        | some _ => False) g3
      cases b with
      | some b => exact k1.elim
      | none =>
        obtain ⟨e1, e2⟩ := sameK_ok k1
        exact virt p _ _ r1 hp e2 (fin ⟨o, ho, q1, q2, .inl ⟨g2' g2, k2 (fun y => y.2 = none ∧ ∀ t, o.dst = some t → y.1 = r1.get d t) ⟨rfl, e1⟩⟩⟩)
    | false =>
      obtain ⟨e1, e2⟩ := sameK_ok g3
      exact virt p _ _ r1 hp e2 (fin ⟨o, ho, q1, q2, .inr ⟨g2' g2, fun t ht => (e1 t ht).symm⟩⟩)
def Branch (cl : Cl) (tt : TT) (nt : Nat) (ops : Array Oper) (C S : List Nat) (r : Tr d) (h : Heap) (k : Tr d → Heap → Prop) (j : Nat) : Prop :=
  ∃ o p, ops.toList[j]? = some o ∧ chB ops.toList C S j = true ∧ planB ops.toList (j :: C) S [] [] p = true ∧ stepK cl tt nt ops.toList o r h fun r h => evPlan cl tt nt ops.toList p r h k
theorem evPlan_ch {i : Nat} {p q : Plan} (hk : evPlan cl tt nt ops.toList (.ch i p q) r h k) : (nthK ops.toList i fun o => stepK cl tt nt ops.toList o r h fun r h => evPlan cl tt nt ops.toList p r h k) ∧ evPlan cl tt nt ops.toList q r h k := by
  cases q with
  | nil => exact ⟨hk, trivial⟩
  | _ => exact hk
theorem branches : ∀ (p : Plan) (pre : List Nat), (head p ∨ pre ≠ []) → planB ops.toList C S F pre p = true → evPlan cl tt nt ops.toList p r h k → (∀ j ∈ pre, Branch cl tt nt ops C S r h k j) →
    ∃ pre', satB ops.toList C S F pre' = true ∧ ∀ j ∈ pre', Branch cl tt nt ops C S r h k j
  | .stop, pre, _, hB, _, _ => by
    simp only [planB, Bool.and_eq_true] at hB
    exact ⟨[], hB.1.2, fun j hj => by cases hj⟩
  | .nil, pre, _, hB, _, hpre => by
    simp only [planB, Bool.and_eq_true] at hB
    exact ⟨pre, hB.2, hpre⟩
  | .op i p, pre, hh, hB, _, _ => by
    simp only [planB, Bool.and_eq_true] at hB
    rcases hh with hh | hh
    · exact hh.elim
    · exact absurd (List.isEmpty_iff.1 hB.1.1) hh
  | .re i p, pre, hh, hB, _, _ => by
    simp only [planB, Bool.and_eq_true] at hB
    rcases hh with hh | hh
    · exact hh.elim
    · exact absurd (List.isEmpty_iff.1 hB.1.1) hh
  | .ch i p q, pre, _, hB, hk, hpre => by
    simp only [planB, Bool.and_eq_true] at hB
    obtain ⟨⟨h1, h2⟩, h3⟩ := hB
    obtain ⟨k1, k2⟩ := evPlan_ch hk
    refine branches q (i :: pre) (.inr (by simp)) h3 k2 fun j hj => ?_
    rcases List.mem_cons.1 hj with e | hj
    · subst e
      obtain ⟨o, ho, k1⟩ := nthK_ok k1
      exact ⟨o, p, ho, h1, h2, k1⟩
    · exact hpre j hj
end
end Go.Eng
