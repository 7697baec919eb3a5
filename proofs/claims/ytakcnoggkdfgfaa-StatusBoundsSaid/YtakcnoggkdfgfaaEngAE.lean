/- Regions that draw their order: the theorem. -/
import Derived.Test.YtakcnoggkdfgfaaEngAD
namespace Go.Eng
open Go
variable {d : Nat}
section
variable {P : Program} {tt : TT} {nt : Nat} {ops : Array Oper} {cl : Cl} {C S F : List Nat} {r : Tr d} {h : Heap} {listed : Array Bool} {a : Act} {w : World} {ρ : Env} {k : Tr d → Heap → Prop}
/-! ### How many are left -/
def left (listed : Array Bool) : Nat → Nat
  | 0 => 0
  | n + 1 => left listed n + (if listed.getD n false then 0 else 1)
theorem left_zero : ∀ {n : Nat}, left listed n = 0 → ∀ j, j < n → Dn listed j
  | n + 1, h0, j, hj => by
    simp only [left] at h0
    by_cases e : j = n
    · subst e
      unfold Dn
      by_cases c : listed.getD j false = true
      · exact c
      · rw [if_neg c] at h0; omega
    · exact left_zero (n := n) (by omega) j (by omega)
theorem Dn_set {i j : Nat} (hj : j < listed.size) : Dn (listed.setIfInBounds j true) i ↔ i = j ∨ Dn listed i := by
  unfold Dn
  by_cases e : i = j
  · subst e; simp [hj]
  · simp [Array.getElem?_setIfInBounds_ne (Ne.symm e), e]
theorem left_mono {j : Nat} (hj : j < listed.size) : ∀ n, left (listed.setIfInBounds j true) n ≤ left listed n
  | 0 => Nat.le_refl _
  | n + 1 => by
    simp only [left]
    have h1 := left_mono hj n
    have h2 := Dn_set (i := n) hj
    unfold Dn at h2
    by_cases c : listed.getD n false = true
    · rw [if_pos (h2.2 (.inr c)), if_pos c]; omega
    · rw [if_neg c]; split <;> omega
theorem left_set {j : Nat} (hj : j < listed.size) (hn : ¬ Dn listed j) : ∀ n, j < n → left (listed.setIfInBounds j true) n < left listed n
  | n + 1, h => by
    simp only [left]
    have h2 := Dn_set (i := n) hj
    unfold Dn at h2
    by_cases e : j = n
    · subst e
      have h1 := left_mono hj j
      rw [if_pos (h2.2 (.inl rfl)), if_neg (show ¬ listed.getD j false = true from hn)]; omega
    · have h1 := left_set hj hn n (by omega)
      by_cases c : listed.getD n false = true
      · rw [if_pos (h2.2 (.inr c)), if_pos c]; omega
      · rw [if_neg c]; split <;> omega
/-! ### One real step -/
theorem mem_readyE {j : Nat} (hsz : listed.size = ops.size) : j ∈ Region.ready .any ops listed ↔ ∃ o, ops.toList[j]? = some o ∧ ¬ Dn listed j ∧ ∀ e ∈ preds o, Dn listed e := by
  rw [mem_ready]
  have hd : ∀ o, ops[j]? = some o → (listed.getD j true = false ↔ ¬ Dn listed j) := fun o ho => by
    have hlt : j < listed.size := by rw [hsz]; exact (Array.getElem?_eq_some_iff.1 ho).1
    unfold Dn
    simp [hlt]
  constructor
  · rintro ⟨h1, o, h2, h3⟩
    refine ⟨o, by simpa using h2, (hd o h2).1 h1, fun e he => ?_⟩
    obtain ⟨ed, hed, rfl⟩ := List.mem_map.1 he
    have := List.mem_filter.1 hed
    exact h3 ed (by simpa using this.1) this.2
  · rintro ⟨o, h1, h2, h3⟩
    have h1' : ops[j]? = some o := by simpa using h1
    exact ⟨(hd o h1').2 h2, o, h1', fun e he hb => h3 e.on (List.mem_map.2 ⟨e, List.mem_filter.2 ⟨by simpa using he, hb⟩, rfl⟩)⟩
/-- The temporaries, those that are still to come left out. -/
def waiting (ops : Array Oper) (S : List Nat) (listed : Array Bool) : List Nat := S.filterMap fun i => match listed.getD i false with | true => none | false => (ops.toList[i]?).bind (·.dst)
theorem mem_waiting {t : Nat} : t ∈ waiting ops S listed ↔ ∃ i o, i ∈ S ∧ ¬ Dn listed i ∧ ops.toList[i]? = some o ∧ o.dst = some t := by
  unfold waiting Dn
  rw [List.mem_filterMap]
  constructor
  · rintro ⟨i, hi, e⟩
    split at e
    · cases e
    · rename_i hd
      cases ho : ops.toList[i]? with
      | none => rw [ho] at e; cases e
      | some o => rw [ho] at e; exact ⟨i, o, hi, by rw [hd]; simp, ho, e⟩
  · rintro ⟨i, o, hi, hd, ho, e⟩
    refine ⟨i, hi, ?_⟩
    have : listed.getD i false = false := by simpa using hd
    rw [this]; simp [ho, e]
theorem Inv.regsJ (hI : Inv tt ops nt C S F r h listed a w ρ) : RelR ρ nt (junkL d (waiting ops S listed) r) a.tmps := ⟨hI.tmps, fun t => by
  rw [get_junkL]
  split
  · trivial
  · rename_i hn
    exact hI.regs t fun j o hj hd ho e => hn (mem_waiting.2 ⟨j, o, hj, hd, ho, e⟩)⟩
theorem Inv.seesJ (hI : Inv tt ops nt C S F r h listed a w ρ) {o : Oper} {i : Nat} (hp : ∀ e ∈ preds o, Dn listed e) (hb : ∀ j ∈ S, ∀ oj, ops.toList[j]? = some oj → (∀ t, oj.dst = some t → t ∉ eyes ops.toList o) ∨ (j ≠ i ∧ j ∈ clo ops.toList ops.toList.length (preds o))) :
    ∀ t ∈ eyes ops.toList o, (junkL d (waiting ops S listed) r).get d t = r.get d t := fun t ht => by
  rw [get_junkL, if_neg]
  intro hm
  obtain ⟨j, oj, hj, hd, ho, e⟩ := mem_waiting.1 hm
  rcases hb j hj oj ho with c | ⟨_, c⟩
  · exact c t e ht
  · exact hd (mem_clo hI.closed _ _ hp j c)
theorem Inv.done (hI : Inv tt ops nt C S F r h listed a w ρ) {j : Nat} {o : Oper} (hn : ¬ Dn listed j) (ho : ops.toList[j]? = some o) (hp : ∀ e ∈ preds o, Dn listed e) {C' F' : List Nat} (hC1 : ∀ i ∈ C', i ∈ C ∨ i = j) (hC2 : ∀ i ∈ C, i ∈ C') (hj : j ∈ C' ∨ j ∈ S)
    {r2 : Tr d} {h' : Heap} {w' : World} {ρ' : Env} {v : Value} (hr2 : ∀ t, o.dst ≠ some t → r2.get d t = r.get d t) (hx : ∀ t, o.dst = some t → DenR ρ' (r2.get d t) v ∧ t < nt) (hs : Sub ρ ρ') (hh : Rel ρ' h' w')
    (hF : ∀ i ∈ F', i ∈ S) (hf : ∀ i ∈ F', ¬ Dn (listed.setIfInBounds j true) i → Fact tt ops.toList r2 h' i) : Inv tt ops nt C' S F' r2 h' (listed.setIfInBounds j true) (a.put o.dst v) w' ρ' := by
  have hlt : j < listed.size := by
    rw [hI.size]
    have := (List.getElem?_eq_some_iff.1 ho).1
    simpa using this
  have hD := fun i => Dn_set (i := i) hlt
  exact {
    size := by simpa using hI.size
    sub := fun i hi => by
      rcases (hD i).1 hi with rfl | hi
      · exact hj
      · exact (hI.sub i hi).imp (hC2 i) id
    sup := fun i hi => (hD i).2 ((hC1 i hi).elim (fun h => .inr (hI.sup i h)) .inl)
    closed := fun i oi hi hoi e he => by
      rcases (hD i).1 hi with rfl | hi
      · rw [ho] at hoi; injection hoi with hoi; subst hoi
        exact (hD e).2 (.inr (hp e he))
      · exact (hD e).2 (.inr (hI.closed i oi hi hoi e he))
    topo := hI.topo.mono hC2
    low := hI.low
    blind := hI.blind
    uniq := hI.uniq
    small := hI.small
    tmps := by cases o.dst <;> simp [Act.put, hI.tmps]
    regs := fun t ht => by
      by_cases e : o.dst = some t
      · obtain ⟨h1, h2⟩ := hx t e
        rw [e]
        simpa [Act.put, hI.tmps, h2] using h1
      · have h1 := hI.regs t fun i oi hi hdi hoi => by
          by_cases eij : i = j
          · subst eij; rw [ho] at hoi; injection hoi with hoi; subst hoi; exact e
          · exact ht i oi hi (fun hd => ((hD i).1 hd).elim eij hdi) hoi
        rw [hr2 t e]
        have h2 : (a.put o.dst v).tmps.getD t undef = a.tmps.getD t undef := by
          cases hd : o.dst with
          | none => rfl
          | some u =>
            have : u ≠ t := fun c => e (by rw [hd, c])
            simp [Act.put, Array.getElem?_setIfInBounds_ne this]
        rw [h2]
        exact h1.mono hs
    heap := hh
    calm := by cases o.dst <;> exact hI.calm
    fs := hF
    facts := hf }
theorem fact_fires (hT : TTok P tt) (hI : Inv tt ops nt C S F r h listed a w ρ) {j : Nat} (hj : j ∈ S) (hF : Fact tt ops.toList r h j) (hn : ¬ Dn listed j) {o : Oper} (ho : ops.toList[j]? = some o) (hp : ∀ e ∈ preds o, Dn listed e) {Q : Exit → Act → World → Prop} {Kc : Act → World → Prop}
    (hK : ∀ a', Inv tt ops nt C S F r h (listed.setIfInBounds j true) a' w ρ → Kc a' w) : wpOp P ops Q j Kc a w := by
  obtain ⟨o', ho', q1, q2, hF⟩ := hF
  rw [ho] at ho'; injection ho' with e; subst e
  have hlt : j < listed.size := by
    rw [hI.size]
    have := (List.getElem?_eq_some_iff.1 ho).1
    simpa using this
  have hsee := hI.seesJ (o := o) (i := j) hp fun i hi oi hoi => hI.blind j hj i hi o oi ho hoi
  have next : ∀ v, (∀ t, o.dst = some t → DenR ρ (r.get d t) v) → Kc (a.put o.dst v) w := fun v hv => hK _ (hI.done hn ho hp (fun i hi => .inl hi) (fun i hi => hi) (.inr hj) (fun _ _ => rfl) (fun t ht => ⟨hv t ht, hI.small j hj o ho t ht⟩) (Sub.refl _) hI.heap hI.fs fun i hi hd => hI.facts i hi fun hd' => hd ((Dn_set hlt).2 (.inr hd')))
  unfold wpOp
  have ho'' : ops[j]? = some o := by simpa using ho
  rw [ho'']
  rcases hF with ⟨h1, h2⟩ | ⟨h1, h2⟩
  · simp only [(eyes_says hsee h1).wanted hI.regsJ, if_true]
    refine .inl ?_
    rw [← evX_congr (eyes_op hsee)] at h2
    obtain ⟨x, b, v, w', e1, ⟨rfl, e2⟩, e3, e4⟩ := evX_ok (P := P) hT hI.regsJ hI.heap h2
    unfold Oper.wp
    rw [e1, e3]
    exact next v fun t ht => by rw [← e2 t ht]; exact e4
  · simp only [(eyes_says hsee h1).wanted hI.regsJ, Bool.false_eq_true, if_false]
    exact next undef fun t ht => by rw [h2 t ht]; trivial
theorem branch_fires (hc : ClOk P cl) (hT : TTok P tt) (hI : Inv tt ops nt C S F r h listed a w ρ) {j : Nat} {o : Oper} (hn : ¬ Dn listed j) (ho : ops.toList[j]? = some o) (hp : ∀ e ∈ preds o, Dn listed e) (hB : chB ops.toList C S j = true) {kk : Tr d → Heap → Prop} (hk : stepK cl tt nt ops.toList o r h kk) {Q : Exit → Act → World → Prop} {Kc : Act → World → Prop}
    (hK : ∀ r2 h' a' w' ρ', kk r2 h' → Inv tt ops nt (j :: C) S [] r2 h' (listed.setIfInBounds j true) a' w' ρ' → Grow ρ h w ρ' h' w' → Kc a' w') : wpOp P ops Q j Kc a w := by
  obtain ⟨o', ho', hB⟩ := withOp_iff hB
  rw [ho] at ho'; injection ho' with e; subst e
  simp only [Bool.and_eq_true, List.all_eq_true] at hB
  have hsee := hI.seesJ (o := o) (i := j) hp fun i hi oi hoi => by
    obtain ⟨oj', e1, c1⟩ := withOp_iff (hB.2 i hi)
    rw [hoi] at e1; injection e1 with e; subst e
    simp only [Bool.and_eq_true, Bool.not_eq_true', Bool.or_eq_true] at c1
    rcases c1 with c1 | c1
    · exact .inl fun t ht => dstIn_not c1 ht
    · exact .inr ⟨by simpa using c1.1, by simpa using c1.2⟩
  obtain ⟨r1, c, g1, g2, g3⟩ := guardK_ok hk
  have next : ∀ x v h' w' ρ', putR nt r1 o.dst x (fun r => kk r h') → Rel ρ' h' w' → Grow ρ h w ρ' h' w' → DenR ρ' x v → Kc (a.put o.dst v) w' := fun x v h' w' ρ' k1 k2 k3 k4 => by
    obtain ⟨r2, e1, e2, e3, e4⟩ := putR_get k1
    exact hK r2 h' _ w' ρ' e1 (hI.done hn ho hp (fun i hi => by rcases List.mem_cons.1 hi with e | e; exact .inr e; exact .inl e) (fun i hi => by simp [hi]) (.inl (by simp)) (fun t ht => (e3 t ht).trans (g1 t)) (fun t ht => ⟨by rw [e2 t ht]; exact k4, e4 t ht⟩) k3.sub k2 (fun i hi => by cases hi) fun i hi => by cases hi) k3
  unfold wpOp
  have ho'' : ops[j]? = some o := by simpa using ho
  rw [ho'']
  simp only [(eyes_says hsee g2).wanted hI.regsJ]
  cases c with
  | true =>
    rw [if_pos rfl]
    refine .inl ?_
    have hb : bodyK cl tt (junkL d (waiting ops S listed) r) h o.op fun x h => putR nt r1 o.dst x fun r => kk r h := by
      rw [bodyK_congr (r := r1) (eyes_op fun t ht => (hsee t ht).trans (g1 t).symm)]
      exact g3
    exact (bodyK_ok hc hT hI.regsJ hI.heap hb).wp fun x ρ' h' v w' k1 k2 k3 k4 => next x v h' w' ρ' k1 k2 k3 k4
  | false =>
    rw [if_neg (by simp)]
    exact next .junk undef h w ρ g3 hI.heap (Grow.refl _ _ _) trivial
theorem wpAny_plan (hc : ClOk P cl) (hT : TTok P tt) {Q : Exit → Act → World → Prop} {w0 : World} {ρ0 : Env} {h0 : Heap} (fin : ∀ ρ' r' h' a' w', k r' h' → At ρ' nt r' h' a' w' → Grow ρ0 h0 w0 ρ' h' w' → Q .normal a' w') :
    ∀ (fuel : Nat) (p : Plan) (C S F : List Nat) (r : Tr d) (h : Heap) (listed : Array Bool) (a : Act) (w : World) (ρ : Env), planB ops.toList C S F [] p = true → evPlan cl tt nt ops.toList p r h k →
      Inv tt ops nt C S F r h listed a w ρ → Grow ρ0 h0 w0 ρ h w → left listed ops.size ≤ fuel → wpAny P .any ops Q fuel listed a w := by
  intro fuel
  induction fuel with
  | zero =>
    intro p C S F r h listed a w ρ hB hk hI hG hl
    obtain ⟨p, S, F, r, hh, hB, hk, hI⟩ := virt p S F r hB hk hI
    have hall : ∀ j o, ops.toList[j]? = some o → Dn listed j := fun j o ho => left_zero (n := ops.size) (by omega) j (by have := (List.getElem?_eq_some_iff.1 ho).1; simpa using this)
    refine ⟨?_, ?_⟩
    · refine List.eq_nil_iff_forall_not_mem.2 fun j hj => ?_
      obtain ⟨o, h1, h2, _⟩ := (mem_readyE hI.size).1 hj
      exact h2 (hall j o h1)
    · cases p with
      | stop => exact fin ρ r h a w hk ⟨⟨hI.tmps, fun t => hI.regs t fun j o _ hn ho => absurd (hall j o ho) hn⟩, hI.heap, hI.calm⟩ hG
      | ch i p q =>
        simp only [planB, Bool.and_eq_true] at hB
        obtain ⟨o, ho, hq⟩ := withOp_iff hB.1.1
        simp only [Bool.and_eq_true, Bool.not_eq_true'] at hq
        have := hI.sub i (hall i o ho)
        simp at hq
        rcases this with e | e
        · exact absurd e hq.1.1.1
        · exact absurd e hq.1.1.2
      | _ => exact hh.elim
  | succ fuel ih =>
    intro p C S F r h listed a w ρ hB hk hI hG hl
    obtain ⟨p, S, F, r, hh, hB, hk, hI⟩ := virt p S F r hB hk hI
    obtain ⟨pre, hsat, hbr⟩ := branches p [] (.inl hh) hB hk (fun j hj => by cases hj)
    simp only [satB, Bool.and_eq_true, List.all_eq_true, factsB] at hsat
    obtain ⟨hfacts, hsat⟩ := hsat
    refine ⟨fun hnil => ?_, fun j hj => ?_⟩
    · have hS : ∀ j ∈ S, Dn listed j := fun j hj => Classical.byContradiction fun hn => by
        obtain ⟨i, h1, h2, h3⟩ := hI.topo.first hI.sup ⟨j, hj, hn⟩
        obtain ⟨o, ho, _⟩ := hI.low i h1
        have := (mem_readyE hI.size).2 ⟨o, ho, h2, h3 o ho⟩
        rw [hnil] at this; cases this
      cases p with
      | stop => exact fin ρ r h a w hk ⟨⟨hI.tmps, fun t => hI.regs t fun j o hj hn ho => absurd (hS j hj) hn⟩, hI.heap, hI.calm⟩ hG
      | ch i p q =>
        simp only [planB, Bool.and_eq_true] at hB
        obtain ⟨o, ho, hq⟩ := withOp_iff hB.1.1
        simp only [Bool.and_eq_true, Bool.not_eq_true'] at hq
        have he := hq.1.2
        simp only [edgesIn, List.all_eq_true] at he
        simp at hq
        have hi : ¬ Dn listed i := fun hd => (hI.sub i hd).elim hq.1.1.1 hq.1.1.2
        have := (mem_readyE hI.size).2 ⟨o, ho, hi, fun e hm => by
          have := he e hm
          simp at this
          exact this.elim (hI.sup e) (hS e)⟩
        rw [hnil] at this; cases this
      | _ => exact hh.elim
    · obtain ⟨o, ho, hn, hp⟩ := (mem_readyE hI.size).1 hj
      have hjn : j < ops.size := by have := (List.getElem?_eq_some_iff.1 ho).1; simpa using this
      have hjl : j < listed.size := by rw [hI.size]; exact hjn
      have hleft : left (listed.setIfInBounds j true) ops.size ≤ fuel := by have := left_set hjl hn ops.size hjn; omega
      by_cases hjS : j ∈ S
      · have hF : j ∈ F := by
          have := hfacts j hjS
          simp only [Bool.or_eq_true] at this
          rcases this with h1 | h1
          · simpa using h1
          · exact absurd (mem_clo hI.closed _ _ hI.sup j (by simpa using h1)) hn
        exact fact_fires hT hI hjS (hI.facts j hF hn) hn ho hp fun a' hI' => ih p C S F r h _ a' w ρ hB hk hI' hG hleft
      · have hjC : j ∉ C := fun hc => hn (hI.sup j hc)
        have hjp : j ∈ pre := by
          have := hsat j (by simpa using hjn)
          simp only [Bool.or_eq_true, Bool.not_eq_true'] at this
          rcases this with ((h1 | h1) | h1) | h1
          · exact absurd (by simpa using h1) hjC
          · exact absurd (by simpa using h1) hjS
          · simpa using h1
          · exfalso
            have : withOp ops.toList j (fun o => edgesIn (C ++ S) o) = true := by
              simp only [withOp, ho, edgesIn, List.all_eq_true]
              intro e he
              have := hI.sub e (hp e he)
              simpa using this
            rw [this] at h1; cases h1
        obtain ⟨o', p', ho', b1, b2, b3⟩ := hbr j hjp
        rw [ho] at ho'; injection ho' with e; subst e
        exact branch_fires hc hT hI hn ho hp b1 b3 fun r2 h' a' w' ρ' k1 k2 k3 => ih p' _ _ _ r2 h' _ a' w' ρ' b2 k1 k2 (hG.trans k3) hleft
theorem drew_at (hA : At ρ nt r h a w) : At ρ nt r h a { w with drawn := w.drawn + 1 } := ⟨hA.regs, ⟨hA.heap.fresh, fun n ob hn => (hA.heap.obs n ob hn).keep (Sub.refl _) (Nat.le_refl _) fun _ _ _ _ => rfl, hA.heap.inj, hA.heap.apart⟩, hA.calm⟩
theorem drew_grow : Grow ρ h w ρ h { w with drawn := w.drawn + 1 } := ⟨Sub.refl _, rfl, rfl, rfl, fun _ => rfl, Nat.le_refl _, fun _ _ _ => rfl, fun n _ hb => .inl ⟨n, hb⟩⟩
def plB (pl : Pl) (id : Nat) (ops : List Oper) : Bool := match pl.find? (fun p => Nat.beq id p.1) with | some (_, p) => planB ops [] [] [] [] p | none => false
theorem plK_ok {id : Nat} {kk : Plan → Prop} : ∀ {pl : Pl}, plK pl id kk → ∃ q, pl.find? (fun p => Nat.beq id p.1) = some q ∧ kk q.2
  | [], h => h.elim
  | (j, p) :: l, h => by
    unfold plK at h
    split at h
    · rename_i e; exact ⟨(j, p), by simp [List.find?, e], h⟩
    · rename_i e
      obtain ⟨q, h1, h2⟩ := plK_ok h
      exact ⟨q, by simp only [List.find?, e]; exact h1, h2⟩
def plansB (pl : Pl) : Code → Bool
  | .region id ops draw => match draw with | true => plB pl id ops.toList | false => true
  | .seq a b | .cond _ a b => plansB pl a && plansB pl b
  | .block _ b | .loop b | .scope b => plansB pl b
  | _ => true
theorem plansB_ok (hm : P.follows .mixedOrders = true) (hc : ClOk P cl) (hT : TTok P tt) {pl : Pl} : ∀ {c : Code}, plansB pl c = true → PlansOk P cl tt nt d pl c
  | .region id ops draw, h => fun hd n0 => by
    subst hd
    intro ρ0 h0 w0 ρ r hp a w k Q hb hG hA hk hK
    obtain ⟨q, h1, h2⟩ := plK_ok hk
    have hB : planB ops.toList [] [] [] [] q.2 = true := by
      have := h; simp only [plansB, plB, h1] at this; exact this
    have hA' := drew_at hA
    refine wp_region_any hm (wpAny_plan (ρ0 := ρ0) (h0 := h0) (w0 := w0) hc hT (fun ρ' r' h' a' w' g1 g2 g3 => hK .normal ρ' r' h' a' w' g1 g2 g3) ops.size q.2 [] [] [] r hp _ a _ ρ hB h2 ?_ (hG.trans drew_grow) ?_)
    · have hno : ∀ j, ¬ Dn (Array.replicate ops.size false) j := fun j hj => by
        unfold Dn at hj
        rcases Nat.lt_or_ge j ops.size with c | c <;> simp [c] at hj
      exact {
        size := by simp
        sub := fun j hj => absurd hj (hno j)
        sup := fun j hj => by cases hj
        closed := fun j _ hj => absurd hj (hno j)
        topo := trivial
        low := fun j hj => by cases hj
        blind := fun j hj => by cases hj
        uniq := fun j hj => by cases hj
        small := fun j hj => by cases hj
        tmps := hA'.regs.1
        regs := fun t _ => hA'.regs.2 t
        heap := hA'.heap
        calm := hA'.calm
        fs := fun j hj => by cases hj
        facts := fun j hj => by cases hj }
    · have : ∀ (l : Array Bool) n, left l n ≤ n := fun l n => by
        induction n with
        | zero => exact Nat.le_refl _
        | succ n ih => simp only [left]; split <;> omega
      exact this _ _
  | .seq a b, h => by simp only [plansB, Bool.and_eq_true] at h; exact ⟨plansB_ok hm hc hT h.1, plansB_ok hm hc hT h.2⟩
  | .cond _ a b, h => by simp only [plansB, Bool.and_eq_true] at h; exact ⟨plansB_ok hm hc hT h.1, plansB_ok hm hc hT h.2⟩
  | .block _ b, h => plansB_ok (c := b) hm hc hT h
  | .loop b, h => plansB_ok (c := b) hm hc hT h
  | .scope b, h => plansB_ok (c := b) hm hc hT h
  | .skip, _ => trivial
  | .label _, _ => trivial
  | .exit _, _ => trivial
  | .ret, _ => trivial
  | .rangeFunc _ _ _ _, _ => trivial
  | .goto _, _ => trivial
  | .refuse _, _ => trivial
end
end Go.Eng
