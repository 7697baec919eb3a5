/- Regions that draw their order: one plan serves every order. -/
import Derived.Test.YtakcnoggkdfgfaaEngAA
namespace Go.Eng
open Go
variable {d : Nat}
section
variable {r r' : Tr d}
theorem opK_congr {x : Operand} (h : ∀ t, x = .tmp t → r'.get d t = r.get d t) : opK r' x = opK r x := by
  funext k
  cases x with
  | tmp t => simp only [opK, Tr.getK_eq, h t rfl]
  | _ => rfl
theorem opsK_congr : ∀ {l : List Operand}, (∀ x ∈ l, opK r' x = opK r x) → opsK r' l = opsK r l
  | [], _ => rfl
  | o :: l, h => by
    funext k
    simp only [opsK, h o (by simp), opsK_congr (l := l) fun x hx => h x (by simp [hx])]
theorem optK_congr {o : Option Operand} (h : ∀ x ∈ o.toList, opK r' x = opK r x) : optK r' o = optK r o := by
  funext k
  cases o with
  | none => rfl
  | some o => simp only [optK, h o (by simp)]
theorem partsK_congr : ∀ {l : List (Nat × Operand)}, (∀ x ∈ l.map (·.2), opK r' x = opK r x) → partsK r' l = partsK r l
  | [], _ => rfl
  | (i, o) :: l, h => by
    funext k
    simp only [partsK, h o (by simp), partsK_congr (l := l) fun x hx => h x (by simp at hx ⊢; exact .inr hx)]
theorem evX_congr {tt : TT} {hp : Heap} {nm : Nat} {o : Op} {K : R → Option Ob → Prop} (h : ∀ x ∈ o.operands.toList, opK r' x = opK r x) : evX tt r' hp nm o K = evX tt r hp nm o K := by
  cases o <;> simp only [Op.operands] at h <;> (try rfl)
  case build t ps => simp only [evX, partsK_congr (l := ps.toList) fun x hx => h x (by simpa using hx)]
  case buildSlice t n ps => simp only [evX, partsK_congr (l := ps.toList) fun x hx => h x (by simpa using hx)]
  case makeFunc f first caps => simp only [evX, opsK_congr (l := caps.toList) fun x hx => h x (by simp at hx ⊢; exact .inr hx)]
  case slice t x lo hi mx => simp only [evX, h x (by simp), optK_congr (o := lo) fun x hx => h x (by simp at hx ⊢; simp [hx]), optK_congr (o := hi) fun x hx => h x (by simp at hx ⊢; simp [hx]), optK_congr (o := mx) fun x hx => h x (by simp at hx ⊢; simp [hx])]
  case call c => simp only [evX, opsK_congr (l := c.args.toList) fun x hx => h x (by simp [Call.operands] at hx ⊢; exact .inr hx)]
  all_goals (simp at h; simp only [evX, h])
theorem evW_congr {cl : Cl} {tt : TT} {av : List Nat} {hp : Heap} {o : Op} {K : R → Heap → Prop} (h : ∀ x ∈ o.operands.toList, opK r' x = opK r x) : evW cl tt av r' hp o K = evW cl tt av r hp o K := by
  cases o <;> simp only [Op.operands] at h <;> (try rfl)
  case store t a v => simp at h; simp only [evW, h]
  case call c =>
    have h2 := opsK_congr (l := c.args.toList) fun x hx => h x (by simp [Call.operands] at hx ⊢; exact .inr hx)
    obtain ⟨callee, args, tys⟩ := c
    cases callee with
    | value f => simp only [evW, h2, h f (by simp [Call.operands])]
    | builtin b => cases b <;> simp only [evW, h2]
    | invoke _ _ => rfl
theorem bodyK_congr {cl : Cl} {tt : TT} {hp : Heap} {o : Op} {K : R → Heap → Prop} (h : ∀ x ∈ o.operands.toList, opK r' x = opK r x) : bodyK cl tt r' hp o K = bodyK cl tt r hp o K := by
  simp only [bodyK, evW_congr h, evX_congr h]
end
theorem Tr.get_big : ∀ (d : Nat) (r : Tr d) (t : Nat), 2 ^ d ≤ t → Tr.get d r t = .junk
  | 0, _, 0, h => by simp at h
  | 0, _, _ + 1, _ => rfl
  | d + 1, (a, b), t, h => by
    have hp : 2 ^ (d + 1) = 2 * 2 ^ d := by rw [Nat.pow_succ]; omega
    rcases Nat.mod_two_eq_zero_or_one t with e | e
    · rw [Tr.get_even _ _ e]; exact Tr.get_big d a _ (by omega)
    · rw [Tr.get_odd _ _ e]; exact Tr.get_big d b _ (by omega)
def junkL (d : Nat) : List Nat → Tr d → Tr d
  | [], r => r
  | t :: l, r => if t < 2 ^ d then (junkL d l r).set d t .junk else junkL d l r
theorem get_junkL {r : Tr d} : ∀ (l : List Nat) (t : Nat), (junkL d l r).get d t = if t ∈ l then .junk else r.get d t
  | [], t => by simp [junkL]
  | u :: l, t => by
    unfold junkL
    split
    · rename_i c
      rw [Tr.get_set d _ u _ t c, get_junkL l t]
      by_cases e : t = u <;> simp [e]
    · rename_i c
      rw [get_junkL l t]
      by_cases e : t = u
      · subst e; rw [Tr.get_big d r t (by omega)]; simp
      · simp [e]
theorem kindEq_iff' {a b : IntKind} (h : kindEq a b = true) : a = b := by cases a <;> cases b <;> first | rfl | cases h
theorem sameV_ok {a b : Value} (h : sameV a b = true) : a = b := by
  unfold sameV at h
  split at h <;> (try simp only [Bool.and_eq_true, decide_eq_true_eq, strEq] at h) <;> first
    | rfl
    | (subst h; rfl)
    | (obtain ⟨h1, h2⟩ := h; first | (rw [kindEq_iff' h1, h2]; done) | (rw [Nat.eq_of_beq_eq_true h1, Nat.eq_of_beq_eq_true h2]; done))
    | cases h
theorem sameC_ok {a b : C} (h : sameC a b = true) : a = b := by
  unfold sameC at h
  split at h <;> (try simp only [Bool.and_eq_true, decide_eq_true_eq] at h)
  · rw [sameV_ok h]
  · rw [Nat.eq_of_beq_eq_true h.1, h.2]
  · obtain ⟨h1, h2, h3, h4, h5⟩ := h; rw [Nat.eq_of_beq_eq_true h1, h2, h3, h4, h5]
  · obtain ⟨h1, h2, h3, h4, h5, h6, h7⟩ := h; rw [Nat.eq_of_beq_eq_true h1, h2, h3, h4, h5, h6, h7]
  · rw [Nat.eq_of_beq_eq_true h]
  · rw [Nat.eq_of_beq_eq_true h]
  · rw [Nat.eq_of_beq_eq_true h.1, h.2]
  · cases h
theorem sameSegs_ok : ∀ {l m : List Seg}, sameSegs l m = true → l = m
  | [], [], _ => rfl
  | .c x :: l, .c y :: m, h => by simp only [sameSegs, Bool.and_eq_true] at h; rw [sameC_ok h.1, sameSegs_ok h.2]
  | .arr _ _ :: _, [], h => by cases h
  | .c _ :: _, [], h => by cases h
  | .arr _ _ :: _, .c _ :: _, h => by cases h
  | .arr _ _ :: _, .arr _ _ :: _, h => by cases h
  | .c _ :: _, .arr _ _ :: _, h => by cases h
  | [], .c _ :: _, h => by cases h
  | [], .arr _ _ :: _, h => by cases h
theorem sameT_ok {x y : T} (h : sameT x y = true) : x = y := by
  cases x <;> cases y <;> simp only [sameT] at h <;> first | (rw [sameC_ok h]; done) | (rw [sameSegs_ok h]; done) | cases h
theorem sameTs_ok : ∀ {l m : List T}, sameTs l m = true → l = m
  | [], [], _ => rfl
  | x :: l, y :: m, h => by simp only [sameTs, Bool.and_eq_true] at h; rw [sameT_ok h.1, sameTs_ok h.2]
  | [], _ :: _, h => by cases h
  | _ :: _, [], h => by cases h
theorem sameR_ok {x y : R} (h : sameR x y = true) : x = y := by
  cases x <;> cases y <;> simp only [sameR] at h <;> first | rfl | (rw [sameT_ok h]; done) | (rw [sameTs_ok h]; done) | cases h
/-- What can be compared. -/
def okV : Value → Bool
  | .bool _ | .int _ _ | .string _ | .pointer none | .slice none _ _ | .map none | .chan none | .nilFunc | .nilIface => true
  | _ => false
def okC : C → Bool
  | .v x => okV x
  | .fn (.func _) _ => true
  | .fn _ _ => false
  | _ => true
def okSegs : List Seg → Bool
  | [] => true
  | .c x :: l => okC x && okSegs l
  | _ => false
def okT : T → Bool
  | .one x => okC x
  | .agg l => okSegs l
def okR : R → Bool
  | .junk => true
  | .t x => okT x
  | .tup l => l.all okT
theorem kindEq_refl (k : IntKind) : kindEq k k = true := by cases k <;> rfl
theorem okV_same {v : Value} (h : okV v = true) : sameV v v = true := by
  unfold okV at h
  split at h <;> first | (simp [sameV, kindEq_refl, strEq]; done) | rfl | cases h
theorem okC_same {c : C} (h : okC c = true) : sameC c c = true := by
  unfold okC at h
  split at h
  · exact okV_same h
  · simp [sameC]
  · cases h
  · cases c <;> first | (simp [sameC]; done) | (rename_i h1 h2 h3; first | exact absurd rfl (h1 _) | exact absurd rfl (h3 _ _))
theorem okSegs_same : ∀ {l : List Seg}, okSegs l = true → sameSegs l l = true
  | [], _ => rfl
  | .c x :: l, h => by simp only [okSegs, Bool.and_eq_true] at h; simp [sameSegs, okC_same h.1, okSegs_same h.2]
  | .arr _ _ :: _, h => by cases h
theorem okT_same {x : T} (h : okT x = true) : sameT x x = true := by
  cases x with
  | one c => exact okC_same h
  | agg l => exact okSegs_same h
theorem okTs_same : ∀ {l : List T}, l.all okT = true → sameTs l l = true
  | [], _ => rfl
  | x :: l, h => by simp only [List.all_cons, Bool.and_eq_true] at h; simp [sameTs, okT_same h.1, okTs_same h.2]
/-- The same thing, seen twice. -/
theorem cS {x y : R} {p : Prop} (h1 : x = y) (h2 : okR x = true) (h3 : p) : Cnd (sameR x y) p False := by
  subst h1
  refine cT ?_ h3
  cases x with
  | junk => rfl
  | t x => exact okT_same h2
  | tup l => exact okTs_same h2
end Go.Eng
