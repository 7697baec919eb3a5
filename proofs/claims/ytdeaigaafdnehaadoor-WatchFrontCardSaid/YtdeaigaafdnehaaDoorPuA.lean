/- Plain words: matrices, and what the program and the references tell of them. No program in sight. -/
namespace Go.Pu
structure Msg where
  id : Int
  ow : Int
  ev : Bool
structure Win where
  kind : Int
  st : Int
  en : Int
  cyc : Int
  rep : Int
  msg : Int
structure Trg where
  kind : Int
  at_ : Int
  cyc : Int
  rep : Int
  msg : Int
  til : Int
structure Mat where
  level : Int
  nodes : Int
  cycles : Int
  length : Int
  enable : Int
  unit : Int
  init : Int
  ref : Int
  nM : Nat
  M : Nat → Int
  nG : Nat
  G : Nat → Msg
  nW : Nat
  W : Nat → Win
def I64 (n : Int) : Prop := -9223372036854775808 ≤ n ∧ n ≤ 9223372036854775807
def U32 (n : Int) : Prop := 0 ≤ n ∧ n ≤ 4294967295
structure Mat.Ok (m : Mat) : Prop where
  level : I64 m.level
  nodes : I64 m.nodes
  cycles : I64 m.cycles
  length : I64 m.length
  enable : I64 m.enable
  unit : I64 m.unit
  init : I64 m.init
  ref : U32 m.ref
  nM : m.nM ≤ 9223372036854775807
  nG : m.nG ≤ 9223372036854775807
  nW : m.nW ≤ 9223372036854775807
  M : ∀ i, i < m.nM → I64 (m.M i)
  G : ∀ i, i < m.nG → U32 (m.G i).id ∧ I64 (m.G i).ow
  W : ∀ i, i < m.nW → I64 (m.W i).kind ∧ I64 (m.W i).st ∧ I64 (m.W i).en ∧ I64 (m.W i).cyc ∧ I64 (m.W i).rep ∧ I64 (m.W i).msg
/-! ### Searching -/
/-- The first of k places from i on with p; -1: none. -/
def firstGo (p : Nat → Bool) : Nat → Nat → Int
  | 0, _ => -1
  | k + 1, i => if p i then (i : Int) else firstGo p k (i + 1)
def first (n : Nat) (p : Nat → Bool) : Int := firstGo p n 0
def anyB (n : Nat) (p : Nat → Bool) : Bool := (List.range n).any p
def allB (n : Nat) (p : Nat → Bool) : Bool := (List.range n).all p
theorem anyB_iff {n : Nat} {p : Nat → Bool} : anyB n p = true ↔ ∃ i, i < n ∧ p i = true := by
  simp [anyB, List.any_eq_true]
theorem anyB_false {n : Nat} {p : Nat → Bool} : anyB n p = false ↔ ∀ i, i < n → p i = false := by
  rw [Bool.eq_false_iff, Ne, anyB_iff]
  constructor
  · intro h i hi
    exact Bool.eq_false_iff.2 fun hp => h ⟨i, hi, hp⟩
  · rintro h ⟨i, hi, hp⟩
    rw [h i hi] at hp; cases hp
theorem allB_iff {n : Nat} {p : Nat → Bool} : allB n p = true ↔ ∀ i, i < n → p i = true := by
  simp [allB, List.all_eq_true]
theorem allB_false {n : Nat} {p : Nat → Bool} : allB n p = false ↔ ∃ i, i < n ∧ p i = false := by
  rw [Bool.eq_false_iff, Ne, allB_iff]
  constructor
  · intro h
    refine Classical.byContradiction fun hn => h fun i hi => ?_
    refine Classical.byContradiction fun hp => hn ⟨i, hi, Bool.eq_false_iff.2 hp⟩
  · rintro ⟨i, hi, hp⟩ h
    rw [h i hi] at hp; cases hp
theorem firstGo_none {p : Nat → Bool} : ∀ {k i : Nat}, (∀ j, i ≤ j → j < i + k → p j = false) → firstGo p k i = -1
  | 0, _, _ => rfl
  | k + 1, i, h => by
    rw [firstGo, if_neg (by rw [h i (by omega) (by omega)]; simp)]
    exact firstGo_none fun j h1 h2 => h j (by omega) (by omega)
theorem firstGo_some {p : Nat → Bool} : ∀ {k i j : Nat}, i ≤ j → j < i + k → (∀ q, i ≤ q → q < j → p q = false) → p j = true → firstGo p k i = (j : Int)
  | 0, _, _, h1, h2, _, _ => by omega
  | k + 1, i, j, h1, h2, h3, h4 => by
    by_cases e : i = j
    · subst e; rw [firstGo, if_pos h4]
    · rw [firstGo, if_neg (by rw [h3 i (by omega) (by omega)]; simp)]
      exact firstGo_some (by omega) (by omega) (fun q a b => h3 q (by omega) b) h4
theorem first_none {n : Nat} {p : Nat → Bool} (h : ∀ j, j < n → p j = false) : first n p = -1 := firstGo_none fun j _ h2 => h j (by omega)
theorem first_some {n j : Nat} {p : Nat → Bool} (h1 : j < n) (h2 : ∀ q, q < j → p q = false) (h3 : p j = true) : first n p = (j : Int) := firstGo_some (by omega) (by omega) (fun q _ h => h2 q h) h3
theorem first_cases (n : Nat) (p : Nat → Bool) : (first n p = -1 ∧ ∀ j, j < n → p j = false) ∨ ∃ j, j < n ∧ first n p = (j : Int) ∧ p j = true ∧ ∀ q, q < j → p q = false := by
  suffices h : ∀ k i, (firstGo p k i = -1 ∧ ∀ j, i ≤ j → j < i + k → p j = false) ∨ ∃ j, i ≤ j ∧ j < i + k ∧ firstGo p k i = (j : Int) ∧ p j = true ∧ ∀ q, i ≤ q → q < j → p q = false by
    rcases h n 0 with ⟨h1, h2⟩ | ⟨j, h1, h2, h3, h4, h5⟩
    · exact .inl ⟨h1, fun j hj => h2 j (by omega) (by omega)⟩
    · exact .inr ⟨j, by omega, h3, h4, fun q hq => h5 q (by omega) hq⟩
  intro k
  induction k with
  | zero => intro i; exact .inl ⟨rfl, fun j h1 h2 => by omega⟩
  | succ k ih =>
    intro i
    cases hp : p i with
    | true => exact .inr ⟨i, Nat.le_refl _, by omega, by rw [firstGo, if_pos hp], hp, fun q h1 h2 => by omega⟩
    | false =>
      have e : firstGo p (k + 1) i = firstGo p k (i + 1) := by rw [firstGo, if_neg (by rw [hp]; simp)]
      rw [e]
      rcases ih (i + 1) with ⟨h1, h2⟩ | ⟨j, h1, h2, h3, h4, h5⟩
      · refine .inl ⟨h1, fun j h3 h4 => ?_⟩
        by_cases e : j = i
        · subst e; exact hp
        · exact h2 j (by omega) (by omega)
      · refine .inr ⟨j, by omega, by omega, h3, h4, fun q h6 h7 => ?_⟩
        by_cases e : q = i
        · subst e; exact hp
        · exact h5 q (by omega) h7
/-! ### Matrices -/
def power (n : Int) : Prop := n = 1 ∨ n = 2 ∨ n = 4 ∨ n = 8
instance (n : Int) : Decidable (power n) := by unfold power; infer_instance
def headP (m : Mat) : Prop := 1 ≤ m.level ∧ m.level ≤ 2 ∧ 1 ≤ m.nodes ∧ m.nodes ≤ 8 ∧ power m.cycles ∧ 1 ≤ m.length ∧ m.length ≤ 4000 ∧ 1 ≤ m.enable ∧ m.enable ≤ 16 ∧ 1 ≤ m.unit ∧ m.unit ≤ 64 ∧ 0 ≤ m.init ∧ m.init ≤ 8000 ∧ m.ref < 2048 ∧ m.ref.tmod 8 = 0
instance (m : Mat) : Decidable (headP m) := by unfold headP; infer_instance
def winP (m : Mat) (w : Win) : Prop := 1 ≤ w.kind ∧ w.kind ≤ 3 ∧ 0 ≤ w.st ∧ w.st ≤ m.length ∧ 0 ≤ w.en ∧ w.en ≤ m.length ∧ w.st < w.en ∧ power w.rep ∧ w.rep ≤ m.cycles ∧ 0 ≤ w.cyc ∧ w.cyc ≤ w.rep - 1 ∧ 0 ≤ w.msg ∧ w.msg ≤ 99 ∧ (w.msg = 0 ∨ w.kind = 1)
instance (m : Mat) (w : Win) : Decidable (winP m w) := by unfold winP; infer_instance
def msgP (x : Msg) : Prop := x.id < 2048 ∧ 0 ≤ x.ow ∧ x.ow ≤ 99
instance (x : Msg) : Decidable (msgP x) := by unfold msgP; infer_instance
def whoP (n : Int) : Prop := 0 ≤ n ∧ n ≤ 99
instance (n : Int) : Decidable (whoP n) := by unfold whoP; infer_instance
def sizeP (m : Mat) : Prop := 1 ≤ m.nM ∧ m.nM ≤ 4 ∧ m.nG ≤ 12 ∧ m.nW ≤ 16
instance (m : Mat) : Decidable (sizeP m) := by unfold sizeP; infer_instance
def isM (m : Mat) : Bool := decide (headP m) && (decide (sizeP m) && (allB m.nM (fun i => decide (whoP (m.M i))) && (allB m.nG (fun i => decide (msgP (m.G i))) && allB m.nW fun i => decide (winP m (m.W i)))))
structure Mat.Is (m : Mat) : Prop where
  head : headP m
  size : sizeP m
  M : ∀ i, i < m.nM → whoP (m.M i)
  G : ∀ i, i < m.nG → msgP (m.G i)
  W : ∀ i, i < m.nW → winP m (m.W i)
theorem isM_iff {m : Mat} : isM m = true ↔ m.Is := by
  simp only [isM, Bool.and_eq_true, decide_eq_true_eq, allB_iff]
  exact ⟨fun ⟨a, b, c, d, e⟩ => ⟨a, b, c, d, e⟩, fun ⟨a, b, c, d, e⟩ => ⟨a, b, c, d, e⟩⟩
def comes (cyc rep now : Int) : Bool := decide (0 < rep ∧ 0 ≤ cyc ∧ cyc ≤ now ∧ (now - cyc).tmod rep = 0)
def units (unit bits : Int) : Int :=
  (min (max bits 0) 1000 * 4).tdiv (max unit 1) + (if (min (max bits 0) 1000 * 4).tmod (max unit 1) = 0 then 0 else 1) + 1
def step (m : Mat) : Int := if isM m then units m.unit 140 + m.enable else 0
def meetW (cycles : Int) (x y : Win) : Bool := decide (x.st < y.en ∧ y.st < x.en) && anyB (min (max cycles 0) 8).toNat fun c => comes x.cyc x.rep c && comes y.cyc y.rep c
def meet (m : Mat) (a b : Int) : Bool := decide (0 ≤ a ∧ a < m.nW ∧ 0 ≤ b ∧ b < m.nW) && meetW m.cycles (m.W a.toNat) (m.W b.toNat)
def badM (m : Mat) (i : Nat) : Bool := anyB i fun j => decide (m.M i = m.M j)
def badG (m : Mat) (i : Nat) : Bool := decide (m.ref ≤ (m.G i).id ∧ (m.G i).id - m.ref < 8) || anyB i fun j => decide ((m.G j).id = (m.G i).id)
def winErr (m : Mat) (i : Nat) : Int :=
  if (m.W i).kind = 1 ∧ ((m.nG : Int) ≤ (m.W i).msg ∨ (m.G (m.W i).msg.toNat).ev = true) then 145
  else if (m.W i).st < step m ∨ ((m.W i).kind ≠ 3 ∧ (m.W i).en - (m.W i).st < step m) then 144
  else if anyB i (fun k => meet m i k) then 143 else 0
/-- The place and the number of the first error. -/
def pick (i : Int) (e : Int) (r : Int × Int) : Int × Int := if 0 ≤ i then (i, e) else r
def chkW (m : Mat) : Int × Int := if 0 ≤ first m.nW (fun i => decide (winErr m i ≠ 0)) then (first m.nW (fun i => decide (winErr m i ≠ 0)), winErr m (first m.nW (fun i => decide (winErr m i ≠ 0))).toNat) else (0, 0)
def chkT (m : Mat) : Int × Int := pick (first m.nM (badM m)) 142 (pick (first m.nG (badG m)) 142 (0, 0))
def chkO (m : Mat) : Int × Int := pick (first m.nM fun i => decide (m.nodes ≤ m.M i)) 141 (pick (first m.nG fun i => decide (m.nodes ≤ (m.G i).ow)) 141 (0, 0))
def chk (m : Mat) : Int × Int :=
  if isM m = false then (0, 120) else if m.length < step m then (0, 140)
  else if (chkO m).2 ≠ 0 then chkO m else if (chkT m).2 ≠ 0 then chkT m else if (chkW m).2 ≠ 0 then chkW m else (0, 0)
theorem pick_pos {i e : Int} {r : Int × Int} (h : 0 ≤ i) : Pu.pick i e r = (i, e) := if_pos h
theorem pick_neg {i e : Int} {r : Int × Int} (h : ¬ 0 ≤ i) : Pu.pick i e r = r := if_neg h
/-! ### What follows of it -/
theorem units_bd {unit : Int} (h1 : 1 ≤ unit) (h2 : unit ≤ 64) : 1 ≤ units unit 140 ∧ units unit 140 ≤ 562 := by
  unfold units
  have e : min (max (140 : Int) 0) 1000 * 4 = 560 := by decide
  have e2 : max unit 1 = unit := by omega
  rw [e, e2, Int.tdiv_eq_ediv_of_nonneg (by decide)]
  have h3 : 0 ≤ (560 : Int) / unit := Int.ediv_nonneg (by decide) (by omega)
  have h4 : (560 : Int) / unit ≤ 560 := Int.ediv_le_self _ (by decide)
  split <;> omega
theorem step_of {m : Mat} (h : m.Is) : step m = units m.unit 140 + m.enable := by unfold step; rw [if_pos (isM_iff.2 h)]
theorem step_bd {m : Mat} : 0 ≤ step m ∧ step m ≤ 578 := by
  unfold step
  split
  · rename_i h
    have := (isM_iff.1 h).head
    obtain ⟨_, _, _, _, _, _, _, h8, h9, h10, h11, _⟩ := this
    have := units_bd h10 h11
    omega
  · omega
theorem meetW_comm (c : Int) (x y : Win) : meetW c x y = meetW c y x := by
  unfold meetW
  congr 1
  · exact decide_eq_decide.2 And.comm
  · congr 1; funext c; rw [Bool.and_comm]
theorem meet_comm (m : Mat) (a b : Int) : meet m a b = meet m b a := by
  unfold meet
  rw [meetW_comm]
  congr 1
  exact decide_eq_decide.2 (by omega)
end Go.Pu
