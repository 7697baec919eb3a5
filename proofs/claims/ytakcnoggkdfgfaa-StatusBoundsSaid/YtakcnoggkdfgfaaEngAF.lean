/- The walk's end: what a claim asks; checks by program. -/
import Derived.Test.YtakcnoggkdfgfaaEngAE
import Derived.ProofKit
namespace Go.Eng
open Go
variable {d : Nat}
/-! ### The type table, checked -/
def eqV : Value → Value → Bool
  | .bool a, .bool b => match a, b with | true, true => true | false, false => true | _, _ => false
  | .int k n, .int k' n' => kindEq k k' && decide (n = n')
  | .string a, .string b => a.data.toList.isEmpty && b.data.toList.isEmpty
  | .pointer none, .pointer none => true
  | .slice none l c, .slice none l' c' => Nat.beq l l' && Nat.beq c c'
  | .map none, .map none => true
  | .chan none, .chan none => true
  | .nilFunc, .nilFunc => true
  | .nilIface, .nilIface => true
  | _, _ => false
theorem kindEq_iff {a b : IntKind} (h : kindEq a b = true) : a = b := by cases a <;> cases b <;> first | rfl | cases h
theorem eqV_ok {a b : Value} (h : eqV a b = true) : b = a ∧ solid a := by
  unfold eqV at h
  split at h
  · split at h <;> first | exact ⟨rfl, trivial⟩ | cases h
  · simp only [Bool.and_eq_true, decide_eq_true_eq] at h
    obtain ⟨h1, h2⟩ := h
    exact ⟨by rw [kindEq_iff h1, h2], trivial⟩
  · rename_i x y
    simp only [Bool.and_eq_true, List.isEmpty_iff] at h
    refine ⟨?_, trivial⟩
    obtain ⟨⟨x⟩⟩ := x
    obtain ⟨⟨y⟩⟩ := y
    obtain ⟨h1, h2⟩ := h
    simp only at h1 h2
    rw [h1, h2]
  · exact ⟨rfl, trivial⟩
  · simp only [Bool.and_eq_true] at h
    rw [Nat.eq_of_beq_eq_true h.1, Nat.eq_of_beq_eq_true h.2]
    exact ⟨rfl, trivial⟩
  all_goals first | exact ⟨rfl, trivial⟩ | cases h
def cellB : C → Value → Bool
  | .v x, y => eqV x y
  | _, _ => false
def cellsB : List C → List Value → Bool
  | [], [] => true
  | c :: l, v :: m => cellB c v && cellsB l m
  | _, _ => false
theorem cellB_ok {c : C} {v : Value} (h : cellB c v = true) (ρ : Env) : Den ρ c v := by
  cases c with
  | v x => exact eqV_ok h
  | _ => cases h
theorem cellsB_ok : ∀ {l : List C} {m : List Value}, cellsB l m = true → ∀ ρ, All2 (Den ρ) l m
  | [], [], _, _ => trivial
  | c :: l, v :: m, h, ρ => by simp only [cellsB, Bool.and_eq_true] at h; exact ⟨cellB_ok h.1 ρ, cellsB_ok h.2 ρ⟩
  | [], _ :: _, h, _ => by cases h
  | _ :: _, [], h, _ => by cases h
def denB : T → Value → Bool
  | .one c, v => cellB c v
  | .agg l, .agg vs => cellsB (cells l) vs.toList
  | _, _ => false
theorem denB_ok {x : T} {v : Value} (h : denB x v = true) (ρ : Env) : DenT ρ x v := by
  unfold denB at h
  split at h
  · exact cellB_ok h ρ
  · exact ⟨_, rfl, cellsB_ok h ρ⟩
  · cases h
def fieldsB : List (Nat × TypeId) → List Field → Bool
  | [], [] => true
  | (o, t) :: l, f :: m => Nat.beq o f.offset && Nat.beq t f.type && fieldsB l m
  | _, _ => false
theorem fieldsB_ok : ∀ {l : List (Nat × TypeId)} {m : List Field}, fieldsB l m = true → l = m.map fun f => (f.offset, f.type)
  | [], [], _ => rfl
  | (o, t) :: l, f :: m, h => by
    simp only [fieldsB, Bool.and_eq_true] at h
    have h1 := Nat.eq_of_beq_eq_true h.1.1
    have h2 := Nat.eq_of_beq_eq_true h.1.2
    rw [fieldsB_ok h.2, h1, h2]; rfl
  | [], _ :: _, h => by cases h
  | _ :: _, [], h => by cases h
def descB : K → TypeDesc → Bool
  | .int k, .int k' => kindEq k k'
  | .bool, .bool | .str, .string => true
  | .ptr e, .pointer e' | .slice e, .slice e' | .chan e, .chan _ e' => Nat.beq e e'
  | .arr n e, .array n' e' => Nat.beq n n' && Nat.beq e e'
  | .map k e, .map k' e' => Nat.beq k k' && Nat.beq e e'
  | .struct fs, .struct fields => fieldsB fs fields.toList
  | .other, .struct _ | .other, .array _ _ => false
  | .other, _ => true
  | _, _ => false
theorem descB_ok {k : K} {t : TypeDesc} (h : descB k t = true) : descOk k t := by
  cases k <;> cases t <;> simp only [descB] at h <;> (try cases h) <;> simp only [descOk] <;>
    first
      | trivial
      | exact kindEq_iff h
      | exact Nat.eq_of_beq_eq_true h
      | exact fieldsB_ok h
      | (simp only [Bool.and_eq_true] at h; exact ⟨Nat.eq_of_beq_eq_true h.1, Nat.eq_of_beq_eq_true h.2⟩)
def placesB (P : Program) : TypeDesc → Bool
  | .struct fields => fields.toList.all fun f => (P.info? f.type).isSome
  | _ => true
def tiB (P : Program) (t : TypeId) (ti : TI) : Bool := match P.info? t, P.underlying t with
  | some i, some desc => descB ti.desc desc && Nat.beq i.size ti.size && Nat.beq i.bytes ti.bytes && placesB P desc && match i.zero with | some z => denB ti.zero z | none => false
  | _, _ => false
theorem mapM_some {α β : Type} {f : α → Option β} : ∀ {l : List α}, (∀ x ∈ l, (f x).isSome) → ∃ r, l.mapM f = some r
  | [], _ => ⟨[], rfl⟩
  | x :: l, h => by
    obtain ⟨y, hy⟩ := Option.isSome_iff_exists.1 (h x (by simp))
    obtain ⟨r, hr⟩ := mapM_some (l := l) fun z hz => h z (by simp [hz])
    exact ⟨y :: r, by simp [List.mapM_cons, hy, hr]⟩
theorem tiB_ok {P : Program} {t : TypeId} {ti : TI} (h : tiB P t ti = true) : TIok P t ti := by
  unfold tiB at h
  split at h
  · rename_i i desc h1 h2
    simp only [Bool.and_eq_true] at h
    obtain ⟨⟨⟨⟨g1, g2⟩, g3⟩, g4⟩, g5⟩ := h
    split at g5
    · rename_i z hz
      refine ⟨i, desc, z, h1, h2, descB_ok g1, Nat.eq_of_beq_eq_true g2, Nat.eq_of_beq_eq_true g3, hz, fun ρ => denB_ok g5 ρ, fun fields e => ?_⟩
      subst e
      refine mapM_some fun f hf => ?_
      simp only [placesB, List.all_eq_true] at g4
      have := g4 f hf
      cases e : P.info? f.type with
      | none => rw [e] at this; cases this
      | some x => rfl
    · cases g5
  · cases h
def ttB (P : Program) (tt : TT) : Bool := tt.all fun p => tiB P p.1 p.2
theorem ttB_ok {P : Program} {tt : TT} (h : ttB P tt = true) : TTok P tt := fun t ti hm => tiB_ok (List.all_eq_true.1 h (t, ti) hm)

/-! ### The functions, checked -/
theorem fn_ok {P : Program} {cl : Cl} {tt : TT} {f : FuncId} {F : Func} {fn : Fn} (hm : P.follows .mixedOrders = true) (hc : ClOk P cl) (hT : TTok P tt) (h1 : P.funcs[f]? = some F) (h2 : F.body = some fn.code) (h3 : (F.name == "runtime.NumGoroutine") = false) (h4 : F.ntmps = fn.nt) (h5 : F.results.toList = fn.res)
    (h6 : plansB fn.pl fn.code = true) : FnOk P cl tt d f fn := ⟨⟨F, h1, h2, h3, h4, h5⟩, plansB_ok hm hc hT h6⟩

/-! ### What a claim asks -/
def none' : Env := fun _ => none
theorem rel_none (w : World) : Rel none' [] w := ⟨fun _ _ => rfl, fun n ob hn => by simp at hn, fun n m b ⟨ob, o, h1, _⟩ => by simp at h1, fun n m b o sz k f ⟨ob, o', h1, _⟩ => by simp at h1⟩
theorem grown {w w' : World} {ρ' : Env} {h' : Heap} (hg : Grow none' [] w ρ' h' w') : RowKit.Grown w w' :=
  ⟨⟨hg.os, hg.output, fun i hi => by
    have h1 := (World.keptBut_refl w fun _ => False).2.2 i hi
    rw [hg.keep i hi fun n ⟨ob, o, h1, _⟩ => by simp at h1]
    exact h1⟩, hg.frozen, hg.size⟩
/-- A law's walk: it hands back true, and what was there stays. -/
theorem law_holds {P : Program} {cl : Cl} (hc : ClOk P cl) {f : FuncId} {xs : List R} {vs : List Value} {w : World} (hv : All2 (DenR none') xs vs) (hk : cl f [] xs [] fun x _ => x = bv true) :
    Calls P f vs.toArray w fun e w' => e = .returned (.bool true) ∧ RowKit.Grown w w' := by
  refine ((hc _ _ _ _ _ hk).2 none' w vs (rel_none w) hv).mono fun e w' ⟨v, he, x, ρ', h', h1, h2, h3, h4⟩ => ?_
  subst h1
  exact ⟨by rw [he, show v = .bool true from h4.1], grown h3⟩
end Go.Eng
