/- Code: what the evaluator says holds of the model's. -/
import Derived.Test.YtakcnoggkdfgfaaEngY
import Derived.Scope
namespace Go.Eng
open Go
variable {d : Nat}
section
variable {P : Program} {tt : TT} {nt : Nat}
def Ex.to : Ex → Exit
  | .normal => .normal
  | .exit id => .exit id
  | .ret => .ret
/-- A meaning pt holds of what S says must hold. -/
def PtOk (nt n0 : Nat) (S : (Exit → Act → World → Prop) → Act → World → Prop) (pt : Pt d) : Prop := ∀ ρ0 h0 w0 ρ r h a w k Q, (∀ n x, ρ0 n = some x → n < n0) → Grow ρ0 h0 w0 ρ h w → At ρ nt r h a w → pt r h k →
  (∀ e ρ' r' h' a' w', k e r' h' → At ρ' nt r' h' a' w' → Grow ρ0 h0 w0 ρ' h' w' → Q (Ex.to e) a' w') → S Q a w
/-- In a loop, at a round's start. -/
def LoopIn (P : Program) (c : Code) (Q : Exit → Act → World → Prop) (a : Act) (w : World) : Prop := ∀ (b : Frame) (k : List Item) (cs : List Frame),
  ∃ e a' w', Q e a' w' ∧ Arrives P (lone (b.at a (.code c :: .inLoop c :: k)) cs w) b k cs e a' w'
section
variable {c : Code} {Q : Exit → Act → World → Prop} {a : Act} {w : World}
theorem loop_of_in (h : LoopIn P c Q a w) : (Code.loop c).wp P Q a w := fun b k cs =>
  let ⟨e, a', w', q, s⟩ := h b k cs
  ⟨e, a', w', q, .of_steps (.one step_loop) s⟩
theorem in_round (h : c.wp P (Exit.then (LoopIn P c Q) Q) a w) : LoopIn P c Q a w := by
  intro b k cs
  obtain ⟨e, a1, w1, hq, harr⟩ := h b (.inLoop c :: k) cs
  cases e with
  | normal =>
    obtain ⟨e2, a2, w2, hq2, harr2⟩ := hq b k cs
    exact ⟨e2, a2, w2, hq2, .of_steps (Steps.trans harr (.one step_inLoop)) harr2⟩
  | _ => exact ⟨_, a1, w1, hq, .pass (x := .inLoop c) rfl (fun _ _ => .inl (by simp)) harr⟩
theorem in_inv (I : Nat → Act → World → Prop) (round : ∀ n a w, I n a w → c.wp P (Exit.then (fun a' w' => ∃ m, m < n ∧ I m a' w') Q) a w) : ∀ n a w, I n a w → LoopIn P c Q a w := by
  intro n
  induction n using Nat.strongRecOn with
  | _ n ih =>
    intro a w hI
    refine in_round (wp_mono (round n a w hI) fun e a' w' hq => ?_)
    cases e with
    | normal => obtain ⟨m, h1, h2⟩ := hq; exact ih m h1 a' w' h2
    | _ => exact hq
end
def LpOk (P : Program) (nt n0 : Nat) (lp : Lp d) : Prop := ∀ c pt, PtOk nt n0 (c.wp P) pt → PtOk nt n0 (LoopIn P c) (lp pt)
theorem unroll_ok {n0 : Nat} {lp : Lp d} (hl : LpOk P nt n0 lp) {c : Code} {pt : Pt d} (hp : PtOk nt n0 (c.wp P) pt) : ∀ n, PtOk nt n0 (LoopIn P c) (unroll lp pt n)
  | 0 => hl c pt hp
  | n + 1 => fun ρ0 h0 w0 ρ r h a w k Q hb hG hA hk hK => in_round (hp ρ0 h0 w0 ρ r h a w _ _ hb hG hA hk fun e ρ' r' h' a' w' g1 g2 g3 => by
      cases e with
      | normal => exact unroll_ok hl hp n ρ0 h0 w0 ρ' r' h' a' w' k Q hb g3 g2 g1 hK
      | exit id => exact hK _ ρ' r' h' a' w' g1 g2 g3
      | ret => exact hK _ ρ' r' h' a' w' g1 g2 g3)
/-- The regions that draw their order: their plans hold. -/
def PlansOk (P : Program) (cl : Cl) (tt : TT) (nt d : Nat) (pl : Pl) : Code → Prop
  | .region id ops draw => draw = true → ∀ n0, PtOk (d := d) nt n0 ((Code.region id ops true).wp P) fun r h k => plK pl id fun p => evPlan cl tt nt ops.toList p r h fun r h => k .normal r h
  | .seq a b | .cond _ a b => PlansOk P cl tt nt d pl a ∧ PlansOk P cl tt nt d pl b
  | .block _ b | .loop b | .scope b => PlansOk P cl tt nt d pl b
  | _ => True
theorem evC_ok {n0 : Nat} {cl : Cl} {lp : Lp d} {un : Nat → Nat} {pl : Pl} (hc : ClOk P cl) (hT : TTok P tt) (hl : LpOk P nt n0 lp) : ∀ (c : Code) (n : Nat), PlansOk P cl tt nt d pl c → PtOk nt n0 (c.wp P) (evC cl tt nt lp un pl c n)
  | .skip, n, _ => fun ρ0 h0 w0 ρ r h a w k Q hb hG hA hk hK => wp_skip (hK _ ρ r h a w hk hA hG)
  | .label _, n, _ => fun ρ0 h0 w0 ρ r h a w k Q hb hG hA hk hK => wp_label (hK _ ρ r h a w hk hA hG)
  | .exit id, n, _ => fun ρ0 h0 w0 ρ r h a w k Q hb hG hA hk hK => wp_exit (hK _ ρ r h a w hk hA hG)
  | .ret, n, _ => fun ρ0 h0 w0 ρ r h a w k Q hb hG hA hk hK => wp_ret (hK _ ρ r h a w hk hA hG)
  | .region id ops draw, n, hp => fun ρ0 h0 w0 ρ r h a w k Q hb hG hA hk hK => by
    cases draw with
    | true => exact hp rfl n0 ρ0 h0 w0 ρ r h a w k Q hb hG hA hk hK
    | false =>
      refine wp_region ?_
      have := evOps_ok (P := P) (Q := Q) hc hT ops.toList 0 r ρ h a w (fun j => by simp) hA hG hk fun ρ' r' h' a' w' g1 g2 g3 => hK .normal ρ' r' h' a' w' g1 g2 g3
      simpa [List.range_eq_range'] using this
  | .seq x y, n, hp => fun ρ0 h0 w0 ρ r h a w k Q hb hG hA hk hK => wp_seq (evC_ok hc hT hl x n hp.1 ρ0 h0 w0 ρ r h a w _ _ hb hG hA hk fun e ρ' r' h' a' w' g1 g2 g3 => by
      cases e with
      | normal => exact evC_ok hc hT hl y n hp.2 ρ0 h0 w0 ρ' r' h' a' w' k Q hb g3 g2 g1 hK
      | exit id => exact hK _ ρ' r' h' a' w' g1 g2 g3
      | ret => exact hK _ ρ' r' h' a' w' g1 g2 g3)
  | .cond c x y, n, hp => fun ρ0 h0 w0 ρ r h a w k Q hb hG hA hk hK => by
    obtain ⟨z, h1, h2⟩ := opK_ok hk hA.regs
    obtain ⟨b, h3, h4⟩ := boolK_ok h1 h2
    rcases Cnd_ok h3 with ⟨rfl, h5⟩ | ⟨rfl, h5⟩
    · exact wp_cond_true h4 (evC_ok hc hT hl x n hp.1 ρ0 h0 w0 ρ r h a w k Q hb hG hA h5 hK)
    · exact wp_cond_false h4 (evC_ok hc hT hl y n hp.2 ρ0 h0 w0 ρ r h a w k Q hb hG hA h5 hK)
  | .block id b, n, hp => fun ρ0 h0 w0 ρ r h a w k Q hb hG hA hk hK => wp_block (evC_ok hc hT hl b (un id) hp ρ0 h0 w0 ρ r h a w _ _ hb hG hA hk fun e ρ' r' h' a' w' g1 g2 g3 => by
      cases e with
      | normal => exact hK _ ρ' r' h' a' w' g1 g2 g3
      | ret => exact hK _ ρ' r' h' a' w' g1 g2 g3
      | exit j =>
        simp only at g1
        split at g1
        · rename_i e
          have e := Nat.eq_of_beq_eq_true e
          show Exit.inBlock id Q (.exit j) a' w'
          simp only [Exit.inBlock, e, if_true]
          exact hK .normal ρ' r' h' a' w' g1 g2 g3
        · rename_i e
          have e : j ≠ id := fun h => by subst h; simp at e
          show Exit.inBlock id Q (.exit j) a' w'
          simp only [Exit.inBlock, e, if_false]
          exact hK (.exit j) ρ' r' h' a' w' g1 g2 g3)
  | .loop b, n, hp => fun ρ0 h0 w0 ρ r h a w k Q hb hG hA hk hK => loop_of_in (unroll_ok hl (evC_ok hc hT hl b 0 hp) n ρ0 h0 w0 ρ r h a w k Q hb hG hA hk hK)
  | .scope b, n, hp => fun ρ0 h0 w0 ρ r h a w k Q hb hG hA hk hK => wp_scope_straight (evC_ok hc hT hl b n hp ρ0 h0 w0 ρ r h a w k _ hb hG hA hk fun e ρ' r' h' a' w' g1 g2 g3 => by
      have := hK e ρ' r' h' a' w' g1 g2 g3
      cases e <;> exact this)
  | .rangeFunc _ _ _ _, n, _ => fun _ _ _ _ _ _ _ _ _ _ _ _ _ hk _ => hk.elim
  | .goto _, n, _ => fun _ _ _ _ _ _ _ _ _ _ _ _ _ hk _ => hk.elim
  | .refuse _, n, _ => fun _ _ _ _ _ _ _ _ _ _ _ _ _ hk _ => hk.elim

/-! ### Loops -/
section
variable {ρ : Env} {g : Nat → Nat} {h h' : Heap} {w : World}
theorem den_ren {c : C} {v : Value} (hc : Den ρ (renC g c) v) : Den (fun i => ρ (g i)) c v := by
  cases c with
  | fn f caps =>
    obtain ⟨as, h1, h2⟩ := hc
    refine ⟨as, h1, ?_⟩
    clear h1
    induction caps generalizing as with
    | nil => cases as with
      | nil => trivial
      | cons _ _ => exact h2.elim
    | cons p l ih => cases as with
      | nil => exact h2.elim
      | cons a as => exact ⟨h2.1, ih as h2.2⟩
  | _ => exact hc
theorem all2_ren {α : Type} {p q : α → Value → Prop} {f : α → α} (hp : ∀ a v, p (f a) v → q a v) : ∀ {l : List α} {vs : List Value}, All2 p (l.map f) vs → All2 q l vs
  | [], [], _ => trivial
  | a :: l, v :: vs, h => ⟨hp _ _ h.1, all2_ren hp (l := l) h.2⟩
  | [], _ :: _, h => h.elim
  | _ :: _, [], h => h.elim
theorem cells_ren : ∀ l : List Seg, cells (l.map (renSeg g)) = (cells l).map (renC g)
  | [] => rfl
  | .c x :: l => by simp [cells, renSeg, cells_ren l]
  | .arr n f :: l => by simp [cells, renSeg, cells_ren l]
theorem denT_ren {x : T} {v : Value} (hx : DenT ρ (renT g x) v) : DenT (fun i => ρ (g i)) x v := by
  cases x with
  | one c => exact den_ren hx
  | agg l =>
    obtain ⟨vs, h1, h2⟩ := hx
    rw [cells_ren] at h2
    exact ⟨vs, h1, all2_ren (fun _ _ => den_ren) h2⟩
theorem leR_ok {x y : R} {v : Value} (hl : leR g x y) (hx : DenR ρ x v) : DenR (fun i => ρ (g i)) y v := by
  unfold leR at hl
  cases y with
  | junk => trivial
  | t y => subst hl; exact denT_ren hx
  | tup l =>
    subst hl
    obtain ⟨vs, h1, h2⟩ := hx
    exact ⟨vs, h1, all2_ren (fun _ _ => denT_ren) h2⟩
theorem leT_get : ∀ {d : Nat} {r r' : Tr d}, leT g d r r' → ∀ t, leR g (r.get d t) (r'.get d t)
  | 0, r, r', h, 0 => h
  | 0, r, r', h, _ + 1 => trivial
  | d + 1, (a, b), (a', b'), h, t => by
    rcases Nat.mod_two_eq_zero_or_one t with e | e
    · rw [Tr.get_even _ _ e, Tr.get_even _ _ e]; exact leT_get h.1 _
    · rw [Tr.get_odd _ _ e, Tr.get_odd _ _ e]; exact leT_get h.2 _
theorem leT_ok {r r' : Tr d} {tm : Array Value} (hl : leT g d r r') (hr : RelR ρ nt r tm) : RelR (fun i => ρ (g i)) nt r' tm := ⟨hr.1, fun t => leR_ok (leT_get hl t) (hr.2 t)⟩
theorem leSegs_ok : ∀ {l m : List Seg} {vs : List Value}, leSegs g l m → All2 (Den ρ) (cells l) vs → All2 (Den fun i => ρ (g i)) (cells m) vs
  | [], [], [], _, _ => trivial
  | [], [], _ :: _, _, h => h.elim
  | .c x :: l, .c y :: m, v :: vs, hl, h => ⟨den_ren (by rw [← hl.1]; exact h.1), leSegs_ok hl.2 h.2⟩
  | .c _ :: _, .c _ :: _, [], _, h => h.elim
  | .arr n f :: l, .arr k f' :: m, vs, hl, h => by
    obtain ⟨⟨rfl, hf⟩, hl⟩ := hl
    have e : (List.range n).map f = ((List.range n).map f').map (renC g) := by
      rw [List.map_map]
      exact List.map_congr_left fun i hi => hf i (by simpa using hi)
    simp only [cells] at h ⊢
    rw [e] at h
    have h1 := h.take n
    have h2 := h.drop n
    rw [List.take_left' (by simp)] at h1
    rw [List.drop_left' (by simp)] at h2
    rw [← List.take_append_drop n vs]
    exact (all2_ren (fun _ _ => den_ren) h1).append (leSegs_ok hl h2)
  | [], _ :: _, _, hl, _ => hl.elim
  | .c _ :: _, [], _, hl, _ => hl.elim
  | .arr _ _ :: _, [], _, hl, _ => hl.elim
  | .c _ :: _, .arr _ _ :: _, _, hl, _ => hl.1.elim
  | .arr _ _ :: _, .c _ :: _, _, hl, _ => hl.1.elim
theorem leH_get : ∀ {l : List Nat} {m : Heap}, leH g h l m → l.length = m.length ∧ ∀ (i : Nat) (e : HE), m[i]? = some e → e ≠ .dead → ∃ (j : Nat) (x : HE), l[i]? = some j ∧ h[j]? = some x ∧ leHE g x e
  | [], [], _ => ⟨rfl, fun i e he => by simp at he⟩
  | j :: l, e :: m, hl => by
    obtain ⟨h1, h2⟩ := leH_get hl.2
    refine ⟨by simp [h1], fun i e' he hd => ?_⟩
    cases i with
    | zero =>
      simp at he; subst he
      have key : ∀ {h : Heap} {j : Nat} {k : HE → Prop}, hentK h j k → ∃ x, h[j]? = some x ∧ k x := fun {h} => by
        induction h with
        | nil => intro j k hk; exact hk.elim
        | cons a h ih => intro j k hk; cases j with
          | zero => exact ⟨a, rfl, hk⟩
          | succ j => simpa using ih (j := j) hk
      have hl1 := hl.1
      cases e with
      | dead => exact absurd rfl hd
      | fresh => obtain ⟨x, k1, k2⟩ := key hl1; exact ⟨j, x, rfl, k1, k2⟩
      | ob o => obtain ⟨x, k1, k2⟩ := key hl1; exact ⟨j, x, rfl, k1, k2⟩
    | succ i => simpa using h2 i e' (by simpa using he) hd
  | [], _ :: _, hl => hl.elim
  | _ :: _, [], hl => hl.elim
theorem leHE_ob {x : HE} {ob : Ob} (hl : leHE g x (.ob ob)) : ∃ ob0, x = .ob ob0 ∧ (ob.owned → ob0.owned) ∧ (∀ sz k f, ob = .ro sz k f → ∃ f0, ob0 = .ro sz k f0) ∧ ∀ {ρ : Env} {w : World} {n j : Nat} {ρ' : Env}, (∀ i, ρ' i = ρ (g i)) → ρ' n = ρ j → RelOb ρ w j ob0 → RelOb ρ' w n ob := by
  have el : ∀ {ρ ρ' : Env} {w : World} {b o sz n : Nat} {f f' : Nat → List C}, (∀ i, ρ' i = ρ (g i)) → (∀ i, i < n → f i = (f' i).map (renC g)) → Elems ρ w b o sz n f → Elems ρ' w b o sz n f' := fun {ρ ρ' w b o sz n f f'} hr hf he i hi => by
    obtain ⟨vs, h1, h2, h3⟩ := he i hi
    rw [hf i hi] at h1
    have : ρ' = fun i => ρ (g i) := funext hr
    subst this
    exact ⟨vs, all2_ren (fun _ _ => den_ren) h1, h2, h3⟩
  cases x with
  | fresh => cases ob <;> exact hl.elim
  | dead => cases ob <;> exact hl.elim
  | ob ob0 =>
    refine ⟨ob0, rfl, ?_⟩
    cases ob0 <;> cases ob <;> first | exact hl.elim | skip
    · refine ⟨id, (fun _ _ _ e => by cases e), fun {ρ w n j ρ'} hr hn h => ?_⟩
      obtain ⟨b, E, fz, arr, h1, h2, h3, h4⟩ := h
      have : ρ' = fun i => ρ (g i) := funext hr
      refine ⟨b, E, fz, arr, hn.trans h1, h2, h3, ?_⟩
      rw [this]; exact leSegs_ok hl h4
    · obtain ⟨rfl, rfl, rfl, hf⟩ := hl
      refine ⟨id, (fun _ _ _ e => by cases e), fun {ρ w n j ρ'} hr hn h => ?_⟩
      obtain ⟨⟨x, h1⟩, h2, h3⟩ := h
      refine ⟨⟨x, hn.trans h1⟩, h2, fun ht => ?_⟩
      obtain ⟨b, o, E, fz, arr, k1, k2, k3, k4, k5⟩ := h3 ht
      exact ⟨b, o, E, fz, arr, hn.trans k1, k2, k3, k4, el hr hf k5⟩
    · obtain ⟨rfl, rfl, hf⟩ := hl
      refine ⟨id, (fun _ _ _ e => by cases e; exact ⟨_, rfl⟩), fun {ρ w n j ρ'} hr hn h => ?_⟩
      obtain ⟨b, o, h1, h2, h3⟩ := h
      exact ⟨b, o, hn.trans h1, el hr hf h2, h3⟩
theorem firstB_get : ∀ {n i : Nat} {l : List Nat}, firstB n i l = true → ∀ j, j < n → l[j]? = some (i + j)
  | n + 1, i, x :: l, h, j, hj => by
    simp only [firstB, Bool.and_eq_true] at h
    cases j with
    | zero => simp [Nat.eq_of_beq_eq_true h.1]
    | succ j =>
      have := firstB_get (n := n) (i := i + 1) h.2 j (by omega)
      simpa [Nat.add_assoc, Nat.add_comm 1 j] using this
  | _ + 1, _, [], h, _, _ => by cases h
theorem nodupB_ok : ∀ {l : List Nat}, nodupB l = true → l.Nodup
  | [], _ => .nil
  | x :: l, h => by
    simp only [nodupB, Bool.and_eq_true, Bool.not_eq_true'] at h
    exact List.nodup_cons.2 ⟨by simpa using h.1, nodupB_ok h.2⟩
theorem le_ok {n0 : Nat} {r r' : Tr d} {ρ0 : Env} {h0 : Heap} {w0 : World} {a : Act} (hb : ∀ n x, ρ0 n = some x → n < n0) (hle : Le n0 r h r' h') (hA : At ρ nt r h a w) (hG : Grow ρ0 h0 w0 ρ h w) : ∃ ρ', At ρ' nt r' h' a w ∧ Grow ρ0 h0 w0 ρ' h' w := by
  obtain ⟨l, hB, hH, hT⟩ := hle
  simp only [Bool.and_eq_true] at hB
  obtain ⟨hlen, hget⟩ := leH_get hH
  have hr := hA.heap
  have at_ : ∀ {n j}, l[n]? = some j → sig h l n = j := fun {n j} e => by simp [sig, e]
  have own : ∀ n b, Owns (fun i => ρ (sig h l i)) h' n b → ∃ j, l[n]? = some j ∧ Owns ρ h j b := fun n b ⟨ob, o, h1, h2, h3⟩ => by
    obtain ⟨j, x, e1, e2, e3⟩ := hget n _ h1 (by simp)
    obtain ⟨ob0, rfl, k1, _⟩ := leHE_ob e3
    exact ⟨j, e1, ob0, o, e2, k1 h2, by simpa [at_ e1] using h3⟩
  refine ⟨fun i => ρ (sig h l i), ⟨leT_ok hT hA.regs, ⟨fun n hn => ?_, fun n ob hn => ?_, fun n m b hn hm => ?_, fun n m b o sz k f hn hm hk hc => ?_⟩, hA.calm⟩, ⟨fun n x hx => ?_, hG.os, hG.tape, hG.output, hG.frozen, hG.size, hG.keep, fun n b ho => ?_⟩⟩
  · rcases hn with hn | hn
    · obtain ⟨j, x, e1, e2, e3⟩ := hget n _ hn (by simp)
      show ρ (sig h l n) = none
      rw [at_ e1]
      refine hr.fresh j (.inl ?_)
      cases x with
      | fresh => exact e2
      | _ => exact e3.elim
    · show ρ (sig h l n) = none
      have : l[n]? = none := List.getElem?_eq_none (by omega)
      simp only [sig, this]
      exact hr.fresh _ (.inr (Nat.le_refl _))
  · obtain ⟨j, x, e1, e2, e3⟩ := hget n _ hn (by simp)
    obtain ⟨ob0, rfl, _, _, k3⟩ := leHE_ob e3
    exact k3 (fun _ => rfl) (by simp [at_ e1]) (hr.obs j ob0 e2)
  · obtain ⟨j1, e1, o1⟩ := own n b hn
    obtain ⟨j2, e2, o2⟩ := own m b hm
    have := hr.inj j1 j2 b o1 o2
    subst this
    have hnl : n < l.length := (List.getElem?_eq_some_iff.1 e1).1
    exact (List.getElem?_inj hnl (nodupB_ok hB.2)).1 (e1.trans e2.symm)
  · obtain ⟨j1, e1, o1⟩ := own n b hn
    obtain ⟨j, x, q1, q2, q3⟩ := hget m _ hm (by simp)
    obtain ⟨ob0, rfl, _, k2, _⟩ := leHE_ob q3
    obtain ⟨f0, rfl⟩ := k2 _ _ _ rfl
    exact hr.apart j1 j b o _ _ _ o1 q2 hk (by simpa [at_ q1] using hc)
  · have := firstB_get hB.1 n (hb n x hx)
    simp only [Nat.zero_add] at this
    show ρ (sig h l n) = some x
    rw [at_ this]
    exact hG.sub n x hx
  · obtain ⟨j, _, o1⟩ := own n b ho
    exact hG.made j b o1
end
theorem lpAsk_ok {n0 : Nat} : LpOk P nt n0 (lpAsk n0 : Lp d) := fun c pt hp ρ0 h0 w0 ρ r h a w k Q hb hG hA hk hK => by
  obtain ⟨S, I, m, s, hle, hround⟩ := hk
  obtain ⟨ρ1, hA1, hG1⟩ := le_ok hb hle hA hG
  refine in_inv (fun n a w => ∃ s ρ, m s = n ∧ At ρ nt (I s).1 (I s).2 a w ∧ Grow ρ0 h0 w0 ρ (I s).2 w) ?_ (m s) a w ⟨s, ρ1, rfl, hA1, hG1⟩
  rintro n a w ⟨s, ρ, rfl, hA, hG⟩
  refine hp ρ0 h0 w0 ρ _ _ a w _ _ hb hG hA (hround s) fun e ρ' r' h' a' w' g1 g2 g3 => ?_
  cases e with
  | normal =>
    obtain ⟨s', hlt, hle⟩ := g1
    obtain ⟨ρ2, hA2, hG2⟩ := le_ok hb hle g2 g3
    exact ⟨m s', hlt, s', ρ2, rfl, hA2, hG2⟩
  | exit id => exact hK (.exit id) ρ' r' h' a' w' g1 g2 g3
  | ret => exact hK .ret ρ' r' h' a' w' g1 g2 g3
/-! ### A function -/
theorem den_ptr {ρ : Env} {h : Heap} {t : TypeId} {c : C} {k : T → Prop} (hk : loadK tt h t c k) (hT : TTok P tt) {v : Value} (hc : Den ρ c v) : ∃ ad, v = .pointer (some ad) := by
  obtain ⟨ti, _, hk⟩ := tiK_ok hT hk
  split at hk
  · obtain ⟨b, o, _, rfl⟩ := hc; exact ⟨_, rfl⟩
  · obtain ⟨b, o, _, rfl⟩ := hc; exact ⟨_, rfl⟩
  · exact hk.elim
def resM (tm : Array Value) : ResultVar → Sem Value
  | .tmp t => pure (tm.getD t undef)
  | .cell a t => do loadVar t (← asAddr (tm.getD a undef))
theorem resK_ok {ρ : Env} {r : Tr d} {h : Heap} {tm : Array Value} {w : World} (hT : TTok P tt) (hr : RelR ρ nt r tm) (hh : Rel ρ h w) : ∀ {l : List ResultVar} {k : List R → Prop}, resK tt r h l k →
    ∃ xs vs, k xs ∧ All2 (DenR ρ) xs vs ∧ (l.mapM (resM tm)).run P w = .ok vs w
  | [], k, hk => ⟨[], [], hk, trivial, rfl⟩
  | .tmp t :: l, k, hk => by
    simp only [resK, Tr.getK_eq] at hk
    obtain ⟨xs, vs, h1, h2, h3⟩ := resK_ok hT hr hh hk
    refine ⟨_, _ :: vs, h1, ⟨hr.2 t, h2⟩, ?_⟩
    simp only [List.mapM_cons, resM, pure_bind, Sem.run_bind, h3, Result.andThen_ok]; rfl
  | .cell ad t :: l, k, hk => by
    simp only [resK, Tr.getK_eq] at hk
    obtain ⟨c, h1, h2⟩ := cK_ok hk (hr.2 ad)
    obtain ⟨p, e⟩ := den_ptr h1 hT h2
    obtain ⟨x, u, h3, h4, h5⟩ := loadK_ok (P := P) hT hh h1 h2
    obtain ⟨xs, vs, k1, k2, k3⟩ := resK_ok hT hr hh h3
    refine ⟨_, u :: vs, k1, ⟨h5, k2⟩, ?_⟩
    rw [e] at h4
    simp only [Instr.loadAt, Instr.sureAddr, pure_bind] at h4
    simp only [List.mapM_cons, resM, e, asAddr, pure_bind, Sem.run_bind, h4, k3, Result.andThen_ok]; rfl
theorem tupK_ok {ρ : Env} : ∀ {xs : List R} {k : List T → Prop} {vs : List Value}, tupK xs k → All2 (DenR ρ) xs vs → ∃ ts, k ts ∧ All2 (DenT ρ) ts vs
  | [], k, [], hk, _ => ⟨[], hk, trivial⟩
  | .t x :: l, k, v :: vs, hk, hv => by
    obtain ⟨ts, h1, h2⟩ := tupK_ok (xs := l) hk hv.2
    exact ⟨_, h1, hv.1, h2⟩
  | .junk :: _, _, _, hk, _ => hk.elim
  | .tup _ :: _, _, _, hk, _ => hk.elim
  | [], _, _ :: _, _, hv => hv.elim
  | .t _ :: _, _, [], _, hv => hv.elim
theorem resultK_ok {ρ : Env} {r : Tr d} {h : Heap} {tm : Array Value} {w : World} (hT : TTok P tt) (hr : RelR ρ nt r tm) (hh : Rel ρ h w) {fn : Func} {k : R → Prop} (hk : resultK tt r h fn.results.toList k) :
    ∃ x v, k x ∧ DenR ρ x v ∧ (results fn tm).run P w = .ok v w := by
  obtain ⟨xs, vs, h1, h2, h3⟩ := resK_ok (P := P) hT hr hh hk
  have h4 : (results fn tm).run P w = .ok (if h : vs.toArray.size = 1 then vs.toArray[0] else .tuple vs.toArray) w := by
    have e : results fn tm = (fn.results.mapM (resM tm) >>= fun vs => pure (if h : vs.size = 1 then vs[0] else Value.tuple vs)) := by
      unfold results
      congr 1
    rw [e]
    rw [Array.mapM_eq_mapM_toList]
    simp only [Sem.run_bind, map_eq_pure_bind, h3, Result.andThen_ok]
    rfl
  split at h1
  · match vs, h2, h4 with
    | [v], h2, h4 => exact ⟨_, v, h1, h2.1, h4⟩
    | [], h2, _ => exact h2.elim
    | _ :: _ :: _, h2, _ => exact h2.2.elim
  · rename_i hne
    obtain ⟨ts, k1, k2⟩ := tupK_ok h1 h2
    refine ⟨_, _, k1, ⟨_, rfl, by simpa using k2⟩, ?_⟩
    rw [h4, dif_neg]
    intro e
    have hl := h2.length
    match xs, hne, hl with
    | [x], hne, _ => exact hne x rfl
    | [], _, hl => simp at e hl; omega
    | _ :: _ :: _, _, hl => simp at e hl; omega
theorem argsK_ok {ρ : Env} : ∀ {xs : List R} {vs : List Value} {n : Nat} {r : Tr d} {tm : Array Value} {k : Tr d → Prop}, argsK xs n r k → All2 (DenR ρ) xs vs → n + xs.length ≤ nt → RelR ρ nt r tm →
    ∃ r', k r' ∧ RelR ρ nt r' ((List.range xs.length).foldl (fun tm i => tm.setIfInBounds (n + i) (vs.getD i undef)) tm)
  | [], [], n, r, tm, k, hk, _, _, hr => ⟨r, hk, hr⟩
  | x :: xs, v :: vs, n, r, tm, k, hk, hv, hn, hr => by
    obtain ⟨h1, h2⟩ := (Tr.setK_iff d r n x _).1 hk
    simp only [List.length_cons] at hn
    obtain ⟨r', k1, k2⟩ := argsK_ok (xs := xs) (vs := vs) h2 hv.2 (by omega) (hr.set h1 (by omega) hv.1)
    refine ⟨r', k1, ?_⟩
    rw [List.length_cons, List.range_succ_eq_map, List.foldl_cons, List.foldl_map]
    simpa [Nat.add_assoc, Nat.add_comm 1] using k2
  | [], _ :: _, _, _, _, _, _, hv, _, _ => hv.elim
  | _ :: _, [], _, _, _, _, _, hv, _, _ => hv.elim
theorem foldl_sets (vs : List Value) : ∀ (m : Nat) (tm : Array Value), ((List.range m).foldl (fun tm i => tm.setIfInBounds i (vs.getD i undef)) tm).size = tm.size ∧
    ∀ j, ((List.range m).foldl (fun tm i => tm.setIfInBounds i (vs.getD i undef)) tm)[j]? = if j < m ∧ j < tm.size then some (vs.getD j undef) else tm[j]?
  | 0, tm => ⟨rfl, fun j => by simp⟩
  | m + 1, tm => by
    obtain ⟨h1, h2⟩ := foldl_sets vs m tm
    rw [List.range_succ, List.foldl_append]
    simp only [List.foldl_cons, List.foldl_nil, Array.size_setIfInBounds]
    refine ⟨h1, fun j => ?_⟩
    rw [Array.getElem?_setIfInBounds]
    split
    · rename_i e; subst e
      rw [h1]
      split
      · rw [if_pos ⟨by omega, by assumption⟩]
      · rw [if_neg (by omega), Array.getElem?_eq_none (by omega)]
    · rename_i hne
      rw [h2 j]
      by_cases c : j < m ∧ j < tm.size
      · rw [if_pos c, if_pos ⟨by omega, c.2⟩]
      · rw [if_neg c, if_neg (by omega)]
theorem args_tmps {vs : List Value} (hle : vs.length ≤ nt) : (List.range vs.length).foldl (fun tm i => tm.setIfInBounds (0 + i) (vs.getD i undef)) (Array.replicate nt undef) = vs.toArray ++ Array.replicate (nt - vs.toArray.size) undef := by
  obtain ⟨h1, h2⟩ := foldl_sets vs vs.length (Array.replicate nt undef)
  simp only [Nat.zero_add]
  apply Array.ext
  · rw [h1]; simp; omega
  · intro j hj1 hj2
    have := h2 j
    rw [Array.getElem?_eq_getElem hj1] at this
    have hjn : j < nt := by rw [h1] at hj1; simpa using hj1
    apply Option.some.inj
    rw [this, ← Array.getElem?_eq_getElem hj2]
    by_cases c : j < vs.length
    · rw [if_pos ⟨c, by simpa using hjn⟩, Array.getElem?_append_left (by simpa using c)]
      simp [c]
    · rw [if_neg (by omega), Array.getElem?_append_right (by simpa using c)]
      rw [Array.getElem?_eq_getElem (by simpa using hjn), Array.getElem?_eq_getElem (by simp; omega)]
      simp
/-- A function of the program, as the walk takes it. -/
structure FnOk (P : Program) (cl : Cl) (tt : TT) (d : Nat) (f : FuncId) (fn : Fn) : Prop where
  at_ : ∃ F, P.funcs[f]? = some F ∧ F.body = some fn.code ∧ (F.name == "runtime.NumGoroutine") = false ∧ F.ntmps = fn.nt ∧ F.results.toList = fn.res
  plans : PlansOk P cl tt fn.nt d fn.pl fn.code
theorem evF_ok {cl : Cl} {f : FuncId} {fn : Fn} (hc : ClOk P cl) (hT : TTok P tt) (hf : FnOk P cl tt d f fn) {xs : List R} {h : Heap} {K : R → Heap → Prop} (hk : evF d cl tt fn xs h K) :
    Enters P f ∧ ∀ ρ w vs, Rel ρ h w → All2 (DenR ρ) xs vs → Calls P f vs.toArray w fun e w' => ∃ v, e = .returned v ∧ Post ρ h w K v w' := by
  obtain ⟨⟨F, f1, f2, f3, f4, f5⟩, hp⟩ := hf
  refine ⟨⟨F, f1, by rw [f2]; rfl, f3⟩, fun ρ w vs hh hv => ?_⟩
  unfold evF at hk
  split at hk
  · rename_i hle
    have hle : xs.length ≤ fn.nt := Nat.le_of_ble_eq_true hle
    have hlen := hv.length
    replace hk := hlenK_ok hk
    have hb : ∀ n x, ρ n = some x → n < 0 + h.length := fun n x hx => by
      rcases Nat.lt_or_ge n (0 + h.length) with c | c
      · exact c
      · rw [hh.fresh n (.inr (by omega))] at hx; cases hx
    obtain ⟨r, h1, h2⟩ := argsK_ok (ρ := ρ) (nt := fn.nt) (tm := Array.replicate fn.nt undef) hk hv (by omega) ⟨by simp, fun i => by rw [Tr.get_empty]; trivial⟩
    rw [hlen, args_tmps (by omega)] at h2
    refine calls_of_wp f1 f2 ?_
    refine evC_ok hc hT lpAsk_ok fn.code 0 hp ρ h w ρ r h _ w _ _ hb (Grow.refl _ _ _) ⟨by rw [f4]; exact h2, hh, rfl⟩ h1 fun e ρ' r' h' a' w' g1 g2 g3 => ?_
    have fin : resultK tt r' h' fn.res (fun x => K x h') → a'.defers = [] ∧ ∃ v, (results F a'.tmps).run P w' = .ok v w' ∧ ∃ u, (Ending.returned v) = .returned u ∧ Post ρ h w K u w' := fun g => by
      rw [← f5] at g
      obtain ⟨x, v, k1, k2, k3⟩ := resultK_ok (P := P) hT g2.regs g2.heap g
      exact ⟨g2.calm, v, k3, v, rfl, x, ρ', h', k1, g2.heap, g3, k2⟩
    cases e with
    | normal => exact fin g1
    | ret => exact fin g1
    | exit id => exact g1.elim
  · exact hk.elim
/-- The table of functions that are inlined. -/
theorem clGo_ok {cl : Cl} (hc : ClOk P cl) (hT : TTok P tt) {f : FuncId} {xs : List R} {h : Heap} {K : R → Heap → Prop} : ∀ {tab : List (FuncId × Fn)}, (∀ g fn, (g, fn) ∈ tab → FnOk P cl tt d g fn) → clGo d tt cl f xs h K tab →
    Enters P f ∧ ∀ ρ w vs, Rel ρ h w → All2 (DenR ρ) xs vs → Calls P f vs.toArray w fun e w' => ∃ v, e = .returned v ∧ Post ρ h w K v w'
  | [], _, hk => hk.elim
  | (g, fn) :: tab, ht, hk => by
    unfold clGo at hk
    split at hk
    · rename_i e
      have e := Nat.eq_of_beq_eq_true e
      subst e
      exact evF_ok hc hT (ht _ _ (by simp)) hk
    · exact clGo_ok hc hT (fun g fn hm => ht g fn (by simp [hm])) hk
theorem clRun_ok (hT : TTok P tt) {tab : List (FuncId × Fn)} (ht : ∀ cl, ClOk P cl → ∀ g fn, (g, fn) ∈ tab → FnOk P cl tt d g fn) : ∀ n, ClOk P (clRun d tt tab n)
  | 0 => fun _ _ _ _ _ h => h.elim
  | n + 1 => fun _ _ _ _ _ h => clGo_ok (clRun_ok hT ht n) hT (ht _ (clRun_ok hT ht n)) h
end
end Go.Eng
