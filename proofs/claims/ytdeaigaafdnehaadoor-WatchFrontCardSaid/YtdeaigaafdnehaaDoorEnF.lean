/- The engine, part F: contracts over a local heap; their use at any heap. -/
import Derived.Test.YtdeaigaafdnehaaDoorEnE
namespace Go.Eng
open Go
variable {d : Nat}
def nilB (n : Nat) : C → Bool
  | .slc m _ _ _ 0 0 true => Nat.blt m n
  | _ => false
def leN (n : Nat) (g : Nat → Nat) (x y : C) : Prop := x = renC g y ∨ (x = .v (.slice none 0 0) ∧ nilB n y = true)
def leNs (n : Nat) (g : Nat → Nat) : List Seg → List Seg → Prop
  | [], [] => True
  | .c x :: l, .c y :: m => leN n g x y ∧ leNs n g l m
  | .arr k f :: l, .arr k' f' :: m => (k = k' ∧ ∀ i, i < k' → f i = renC g (f' i)) ∧ leNs n g l m
  | _, _ => False
def leX (n : Nat) (g : Nat → Nat) : R → R → Prop
  | .t (.one x), .t (.one y) => leN n g x y
  | .t (.agg l), .t (.agg m) => leNs n g l m
  | _, _ => False
def leXs (n : Nat) (g : Nat → Nat) : List R → List R → Prop
  | [], [] => True
  | x :: l, y :: m => leX n g x y ∧ leXs n g l m
  | _, _ => False
section
variable {ρ : Env} {g : Nat → Nat} {n : Nat}
theorem den_leN (hn : ∀ i, i < n → ∃ x, ρ (g i) = some x) {x y : C} {v : Value} (hl : leN n g x y) (h : Den ρ x v) : Den (fun i => ρ (g i)) y v := by
  rcases hl with rfl | ⟨rfl, hb⟩
  · exact den_ren h
  · unfold nilB at hb
    split at hb
    · obtain ⟨⟨b, o⟩, hx⟩ := hn _ (Nat.le_of_ble_eq_true hb)
      exact ⟨b, o, none, hx, h.1, fun hlt => absurd hlt (by omega), rfl, Nat.le_refl _⟩
    · cases hb
theorem den_leNs (hn : ∀ i, i < n → ∃ x, ρ (g i) = some x) : ∀ {l m : List Seg} {vs : List Value}, leNs n g l m → All2 (Den ρ) (cells l) vs → All2 (Den fun i => ρ (g i)) (cells m) vs
  | [], [], [], _, _ => trivial
  | [], [], _ :: _, _, h => h.elim
  | .c x :: l, .c y :: m, v :: vs, hl, h => ⟨den_leN hn hl.1 h.1, den_leNs hn hl.2 h.2⟩
  | .c _ :: _, .c _ :: _, [], _, h => h.elim
  | .arr k f :: l, .arr k' f' :: m, vs, hl, h => by
    obtain ⟨⟨rfl, hf⟩, hl⟩ := hl
    have e : (List.range k).map f = ((List.range k).map f').map (renC g) := by
      rw [List.map_map]
      exact List.map_congr_left fun i hi => hf i (by simpa using hi)
    simp only [cells] at h ⊢
    rw [e] at h
    have h1 := h.take k
    have h2 := h.drop k
    rw [List.take_left' (by simp)] at h1
    rw [List.drop_left' (by simp)] at h2
    rw [← List.take_append_drop k vs]
    exact (all2_ren (fun _ _ => den_ren) h1).append (den_leNs hn hl h2)
  | [], _ :: _, _, hl, _ => hl.elim
  | .c _ :: _, [], _, hl, _ => hl.elim
  | .arr _ _ :: _, [], _, hl, _ => hl.elim
  | .c _ :: _, .arr _ _ :: _, _, hl, _ => hl.elim
  | .arr _ _ :: _, .c _ :: _, _, hl, _ => hl.elim
theorem den_leX (hn : ∀ i, i < n → ∃ x, ρ (g i) = some x) {x y : R} {v : Value} (hl : leX n g x y) (h : DenR ρ x v) : DenR (fun i => ρ (g i)) y v := by
  unfold leX at hl
  split at hl
  · exact den_leN hn hl h
  · obtain ⟨vs, h1, h2⟩ := h
    exact ⟨vs, h1, den_leNs hn hl h2⟩
  · exact hl.elim
theorem den_leXs (hn : ∀ i, i < n → ∃ x, ρ (g i) = some x) : ∀ {l m : List R} {vs : List Value}, leXs n g l m → All2 (DenR ρ) l vs → All2 (DenR fun i => ρ (g i)) m vs
  | [], [], [], _, _ => trivial
  | [], [], _ :: _, _, h => h.elim
  | x :: l, y :: m, v :: vs, hl, h => ⟨den_leX hn hl.1 h.1, den_leXs hn hl.2 h.2⟩
  | _ :: _, _ :: _, [], _, h => h.elim
  | [], _ :: _, _, hl, _ => hl.elim
  | _ :: _, [], _, hl, _ => hl.elim
end
/-- A contract: arguments, heap and what follows, over local names. -/
structure Con (α : Type) where
  X : α → List R
  H : α → Heap
  pre : α → Prop
  post : α → R → Heap → Prop
section
variable {α : Type} {P : Program} {f : FuncId}
def ConOk (P : Program) (f : FuncId) (C : Con α) : Prop := Enters P f ∧ ∀ p, C.pre p → ∀ ρ w vs, Rel ρ (C.H p) w → All2 (DenR ρ) (C.X p) vs →
  Calls P f vs.toArray w fun e w' => ∃ v, e = .returned v ∧ Post ρ (C.H p) w (C.post p) v w'
abbrev Cx := List R → Heap → (R → Heap → Prop) → Prop
def CxOk (P : Program) (f : FuncId) (o : Cx) : Prop := ∀ xs h K, o xs h K → Enters P f ∧ ∀ ρ w vs, Rel ρ h w → All2 (DenR ρ) xs vs →
  Calls P f vs.toArray w fun e w' => ∃ v, e = .returned v ∧ Post ρ h w K v w'
/-- A contract's use: local names l for what the call sees. -/
structure AskC (C : Con α) (xs : List R) (h : Heap) (K : R → Heap → Prop) : Prop where
  out : ∃ (p : α) (l : List Nat), C.pre p ∧ ((C.H p).all obB && sepB l (C.H p)) = true ∧ leH (sig h l) h l (C.H p) ∧ leXs (C.H p).length (sig h l) xs (C.X p) ∧
    ∀ x h'', C.post p x h'' → K (renR (back h (C.H p) l) x) (mrg (back h (C.H p) l) h l (C.H p) h'')
theorem ask_ok {C : Con α} (hC : ConOk P f C) : CxOk P f (AskC C) := by
  rintro xs h K ⟨p, l, hpre, hb, hH, hX, hK⟩
  refine ⟨hC.1, fun ρ w vs hr hv => ?_⟩
  simp only [Bool.and_eq_true] at hb
  obtain ⟨h1, h2⟩ := frame_ok hr hH hb.1 hb.2
  have hn : ∀ i, i < (C.H p).length → ∃ x, ρ (sig h l i) = some x := fun i hi => by
    have e : (C.H p)[i]? = some (C.H p)[i] := List.getElem?_eq_getElem hi
    have := List.all_eq_true.1 hb.1 _ (List.getElem_mem hi)
    cases ho : (C.H p)[i] with
    | ob o =>
      rw [ho] at e
      exact relOb_at (ρ := fun i => ρ (sig h l i)) (h1.obs i o e)
    | fresh => rw [ho] at this; cases this
    | dead => rw [ho] at this; cases this
  refine (hC.2 p hpre _ w vs h1 (den_leXs hn hX hv)).mono fun e w' ⟨v, he, x, ρ'', h'', k1, k2, k3, k4⟩ => ?_
  obtain ⟨ρo, q1, q2, q3⟩ := h2 ρ'' h'' w' k2 k3
  exact ⟨v, he, _, ρo, _, hK x h'' k1, q1, q2, denR_back q3 k4⟩
/-- The end of a contract's run: other names for what stays. -/
structure Trim (n : Nat) (x : R) (h : Heap) (Q : R → Heap → Prop) : Prop where
  out : ∃ (y : R) (h' : Heap), Le (d := 0) n x h y h' ∧ Q y h'
theorem trim_ok {ρ ρ0 : Env} {h h0 : Heap} {w w0 : World} {x : R} {v : Value} {Q : R → Heap → Prop} {n : Nat} (hb : ∀ m y, ρ0 m = some y → m < n) (hr : Rel ρ h w) (hG : Grow ρ0 h0 w0 ρ h w) (hx : DenR ρ x v) (ht : Trim n x h Q) : Post ρ0 h0 w0 Q v w := by
  obtain ⟨⟨y, h', hle, hq⟩⟩ := ht
  have hA : At (d := 0) ρ 1 x h ⟨#[v], []⟩ w := ⟨⟨rfl, fun i => by
    cases i with
    | zero => exact hx
    | succ i => trivial⟩, hr, rfl⟩
  obtain ⟨ρ', k1, k2⟩ := le_ok hb hle hA hG
  exact ⟨y, ρ', h', hq, k1.heap, k2, k1.regs.2 0⟩
theorem con_of_run {cl : Cl} (hc : ClOk P cl) {C : Con α} (hE : Enters P f) (hr : ∀ p, C.pre p → cl f [] (C.X p) (C.H p) fun x h' => Trim (C.H p).length x h' (C.post p)) : ConOk P f C := by
  refine ⟨hE, fun p hp ρ w vs h1 h2 => ((hc _ _ _ _ _ (hr p hp)).2 ρ w vs h1 h2).mono fun e w' ⟨v, he, x, ρ', h', k1, k2, k3, k4⟩ => ⟨v, he, trim_ok (fun m y hy => ?_) k2 k3 k4 k1⟩⟩
  exact Nat.lt_of_not_le fun hge => by rw [h1.fresh m (.inr hge)] at hy; cases hy
theorem fn_enters {cl : Cl} {tt : TT} {fn : Fn} (h : FnOk P cl tt d f fn) : Enters P f := by
  obtain ⟨⟨F, f1, f2, f3, _⟩, _⟩ := h
  exact ⟨F, f1, by rw [f2]; rfl, f3⟩
end
/-! ### The table of contracts -/
def clConGo (cl : Cl) (f : FuncId) (av : List Nat) (xs : List R) (h : Heap) (K : R → Heap → Prop) : List (FuncId × Cx) → Prop
  | [] => cl f av xs h K
  | (g, o) :: l => match Nat.beq f g with
    | true => o xs h K
    | false => clConGo cl f av xs h K l
def clCon (outs : List (FuncId × Cx)) (cl : Cl) : Cl := fun f av xs h K => clConGo cl f av xs h K outs
def clRunC (d : Nat) (tt : TT) (outs : List (FuncId × Cx)) (tab : List (FuncId × Fn)) : Nat → Cl
  | 0 => fun _ _ _ _ _ => False
  | n + 1 => clCon outs fun f _ xs h K => clGo d tt (clRunC d tt outs tab n) f xs h K tab
section
variable {P : Program} {tt : TT}
def OutsOk (P : Program) (outs : List (FuncId × Cx)) : Prop := ∀ g o, (g, o) ∈ outs → CxOk P g o
theorem OutsOk.nil : OutsOk P [] := fun _ _ h => by cases h
theorem OutsOk.cons {g : FuncId} {o : Cx} {l : List (FuncId × Cx)} (h : CxOk P g o) (hl : OutsOk P l) : OutsOk P ((g, o) :: l) := fun g' o' hm => by
  rcases List.mem_cons.1 hm with e | hm
  · cases e; exact h
  · exact hl g' o' hm
theorem OutsOk.append {l m : List (FuncId × Cx)} (hl : OutsOk P l) (hm : OutsOk P m) : OutsOk P (l ++ m) := fun g o h => (List.mem_append.1 h).elim (hl g o) (hm g o)
theorem clConGo_ok {cl : Cl} (hc : ClOk P cl) {f : FuncId} {av : List Nat} {xs : List R} {h : Heap} {K : R → Heap → Prop} : ∀ {outs : List (FuncId × Cx)}, OutsOk P outs → clConGo cl f av xs h K outs →
    Enters P f ∧ ∀ ρ w vs, Rel ρ h w → All2 (DenR ρ) xs vs → Calls P f vs.toArray w fun e w' => ∃ v, e = .returned v ∧ Post ρ h w K v w'
  | [], _, hk => hc _ _ _ _ _ hk
  | (g, o) :: l, ho, hk => by
    unfold clConGo at hk
    split at hk
    · rename_i e
      have e := Nat.eq_of_beq_eq_true e
      subst e
      exact ho f o (by simp) _ _ _ hk
    · exact clConGo_ok hc (fun g o hm => ho g o (by simp [hm])) hk
theorem clRunC_ok (hT : TTok P tt) {outs : List (FuncId × Cx)} (ho : OutsOk P outs) {tab : List (FuncId × Fn)} (ht : ∀ cl, ClOk P cl → ∀ g fn, (g, fn) ∈ tab → FnOk P cl tt d g fn) : ∀ n, ClOk P (clRunC d tt outs tab n)
  | 0 => fun _ _ _ _ _ h => h.elim
  | n + 1 => fun _ _ _ _ _ h => clConGo_ok (fun _ _ _ _ _ h => clGo_ok (clRunC_ok hT ho ht n) hT (ht _ (clRunC_ok hT ho ht n)) h) ho h
end
/-! ### Tests -/
theorem cD {p : Prop} [Decidable p] {a b : Prop} (h1 : p → a) (h2 : ¬ p → b) : Cnd (decide p) a b := by
  by_cases h : p
  · rw [decide_eq_true h]; exact h1 h
  · rw [decide_eq_false h]; exact h2 h
theorem cN {p : Prop} [Decidable p] {a b : Prop} (h1 : ¬ p → a) (h2 : p → b) : Cnd (!decide p) a b := by
  by_cases h : p
  · rw [decide_eq_true h]; exact h2 h
  · rw [decide_eq_false h]; exact h1 h
theorem cDT {p : Prop} [Decidable p] {a b : Prop} (h : p) (h1 : a) : Cnd (decide p) a b := by rw [decide_eq_true h]; exact h1
theorem cDF {p : Prop} [Decidable p] {a b : Prop} (h : ¬ p) (h1 : b) : Cnd (decide p) a b := by rw [decide_eq_false h]; exact h1
theorem cNT {p : Prop} [Decidable p] {a b : Prop} (h : ¬ p) (h1 : a) : Cnd (!decide p) a b := by rw [decide_eq_false h]; exact h1
theorem cNF {p : Prop} [Decidable p] {a b : Prop} (h : p) (h1 : b) : Cnd (!decide p) a b := by rw [decide_eq_true h]; exact h1
theorem inR_i64 {n : Int} (h : -9223372036854775808 ≤ n ∧ n ≤ 9223372036854775807) : inR .i64 n = true := inR_iff.2 h
theorem inR_u8 {n : Int} (h : 0 ≤ n ∧ n ≤ 255) : inR .u8 n = true := inR_iff.2 h
theorem inR_u16 {n : Int} (h : 0 ≤ n ∧ n ≤ 65535) : inR .u16 n = true := inR_iff.2 h
theorem inR_u32 {n : Int} (h : 0 ≤ n ∧ n ≤ 4294967295) : inR .u32 n = true := inR_iff.2 h
theorem inR_u64 {n : Int} (h : 0 ≤ n ∧ n ≤ 18446744073709551615) : inR .u64 n = true := inR_iff.2 h
theorem inR_i32 {n : Int} (h : -2147483648 ≤ n ∧ n ≤ 2147483647) : inR .i32 n = true := inR_iff.2 h
theorem bI {n : Int} {a b : Prop} (h : -9223372036854775808 ≤ n ∧ n ≤ 9223372036854775807) (h1 : a) : Cnd (inR .i64 n) a b := cT (inR_i64 h) h1
theorem bU8 {n : Int} {a b : Prop} (h : 0 ≤ n ∧ n ≤ 255) (h1 : a) : Cnd (inR .u8 n) a b := cT (inR_u8 h) h1
theorem bU16 {n : Int} {a b : Prop} (h : 0 ≤ n ∧ n ≤ 65535) (h1 : a) : Cnd (inR .u16 n) a b := cT (inR_u16 h) h1
theorem bU64 {n : Int} {a b : Prop} (h : 0 ≤ n ∧ n ≤ 18446744073709551615) (h1 : a) : Cnd (inR .u64 n) a b := cT (inR_u64 h) h1
theorem bU32 {n : Int} {a b : Prop} (h : 0 ≤ n ∧ n ≤ 4294967295) (h1 : a) : Cnd (inR .u32 n) a b := cT (inR_u32 h) h1
/-! ### Contracts that write nothing -/
def plT : T → Bool
  | .one (.v _) => true
  | .agg l => isPlain l
  | _ => false
def plR : R → Bool
  | .junk => true
  | .t x => plT x
  | .tup l => l.all plT
theorem isPlain_ren {g : Nat → Nat} : ∀ {l : List Seg}, isPlain l = true → l.map (renSeg g) = l
  | [], _ => rfl
  | .c (.v x) :: l, h => by simp only [isPlain] at h; simp [renSeg, renC, isPlain_ren h]
  | .c (.ptr _ _) :: _, h => by cases h
  | .c (.ept _ _ _ _ _) :: _, h => by cases h
  | .c (.slc _ _ _ _ _ _ _) :: _, h => by cases h
  | .c (.mp _) :: _, h => by cases h
  | .c (.ch _) :: _, h => by cases h
  | .c (.fn _ _) :: _, h => by cases h
  | .arr _ _ :: _, h => by cases h
theorem plT_ren {g : Nat → Nat} {x : T} (h : plT x = true) : renT g x = x := by
  unfold plT at h
  split at h
  · rfl
  · simp only [renT, isPlain_ren h]
  · cases h
theorem plR_ren {g : Nat → Nat} {x : R} (h : plR x = true) : renR g x = x := by
  unfold plR at h
  split at h
  · rfl
  · simp only [renR, plT_ren h]
  · rename_i l
    simp only [renR, R.tup.injEq]
    induction l with
    | nil => rfl
    | cons a l ih =>
      simp only [List.all_cons, Bool.and_eq_true] at h
      simp [plT_ren h.1, ih h.2]
theorem pick_ro {g : Nat → Nat} {e : HE} {n : Nat} : ∀ {l : List Nat} {h' h'' : Heap}, h'.all roB = true → pickHE g e n l h' h'' = e
  | [], _, _, _ => by unfold pickHE; rfl
  | _ :: _, [], _, _ => by unfold pickHE; rfl
  | _ :: _, _ :: _, [], _ => by unfold pickHE; rfl
  | j :: l, a :: h', b :: h'', h => by
    simp only [List.all_cons, Bool.and_eq_true] at h
    unfold pickHE
    rw [h.1]
    simp only [Bool.not_true, Bool.and_false]
    exact pick_ro h.2
theorem mrgGo_ro {g : Nat → Nat} {l : List Nat} {h' h'' : Heap} (hr : h'.all roB = true) : ∀ (h : Heap) (n : Nat), mrgGo g l h' h'' n h = h
  | [], _ => rfl
  | e :: h, n => by simp only [mrgGo, pick_ro hr, mrgGo_ro hr h]
theorem mrg_ro {g : Nat → Nat} {h : Heap} {l : List Nat} {h' : Heap} (hr : h'.all roB = true) (new : Heap) : mrg g h l h' (h' ++ new) = h ++ new.map (renHE g) := by
  simp only [mrg, mrgGo_ro hr, List.drop_left]
theorem ro_ob {h : Heap} (hr : h.all roB = true) : h.all obB = true := by
  rw [List.all_eq_true] at hr ⊢
  intro e he
  have := hr e he
  cases e with
  | ob o => rfl
  | _ => cases this
section
variable {α : Type}
/-- It reads, and hands back plain values. -/
def RoCon (X : α → List R) (H : α → Heap) (pre : α → Prop) (F : α → R) : Con α := ⟨X, H, pre, fun p x h => x = F p ∧ h = H p⟩
theorem AskC.use {X : α → List R} {H : α → Heap} {pre : α → Prop} {F : α → R} {xs : List R} {h : Heap} {K : R → Heap → Prop} (p : α) (l : List Nat) (hp : pre p)
    (hs : ((H p).all roB && (sepB l (H p) && plR (F p))) = true) (hH : leH (sig h l) h l (H p)) (hX : leXs (H p).length (sig h l) xs (X p)) (hk : K (F p) h) : AskC (RoCon X H pre F) xs h K := by
  simp only [Bool.and_eq_true] at hs
  refine ⟨p, l, hp, by simp only [RoCon, Bool.and_eq_true]; exact ⟨ro_ob hs.1, hs.2.1⟩, hH, hX, fun x h'' ⟨e1, e2⟩ => ?_⟩
  subst e1; subst e2
  have := mrg_ro (g := back h (H p) l) (h := h) (l := l) hs.1 []
  simp only [List.append_nil, List.map_nil] at this
  show K (renR (back h (H p) l) (F p)) (mrg (back h (H p) l) h l (H p) (H p))
  rw [this, plR_ren hs.2.2]
  exact hk
theorem Trim.ro {n : Nat} {x : R} {h h' : Heap} {Q : R → Heap → Prop} (hle : Le (d := 0) n x h x h') (hq : Q x h') : Trim n x h Q := ⟨⟨x, h', hle, hq⟩⟩
/-- It reads, and hands back a new row of plain cells. -/
def RowCon (X : α → List R) (H : α → Heap) (pre : α → Prop) (sz n : α → Nat) (f : α → Nat → List C) (nl : α → Bool) : Con α :=
  ⟨X, H, pre, fun p x h => ∃ cap, n p ≤ cap ∧ x = .t (.one (.slc (H p).length 0 (sz p) 0 (n p) cap (nl p))) ∧ h = H p ++ [.ob (.row (sz p) (n p) (f p) cap)]⟩
theorem happK_of {h : Heap} {e : HE} {k : Heap → Prop} (hk : happK h e k) : k (h ++ [e]) := happK_ok hk
theorem AskC.row {X : α → List R} {H : α → Heap} {pre : α → Prop} {sz n : α → Nat} {f : α → Nat → List C} {nl : α → Bool} {xs : List R} {h : Heap} {K : R → Heap → Prop} (p : α) (l : List Nat) (hp : pre p)
    (hs : ((H p).all roB && sepB l (H p)) = true) (hl : l.length = (H p).length) (hH : leH (sig h l) h l (H p)) (hX : leXs (H p).length (sig h l) xs (X p)) (hf : ∀ i g, (f p i).map (renC g) = f p i)
    (hk : ∀ cap, n p ≤ cap → hlenK h 0 fun nm => happK h (.ob (.row (sz p) (n p) (f p) cap)) fun h => K (.t (.one (.slc nm 0 (sz p) 0 (n p) cap (nl p)))) h) : AskC (RowCon X H pre sz n f nl) xs h K := by
  simp only [Bool.and_eq_true] at hs
  refine ⟨p, l, hp, by simp only [RowCon, Bool.and_eq_true]; exact ⟨ro_ob hs.1, hs.2⟩, hH, hX, fun x h'' ⟨cap, hc, e1, e2⟩ => ?_⟩
  subst e1; subst e2
  have h1 := happK_ok (hlenK_ok (hk cap hc))
  show K (renR (back h (H p) l) _) (mrg (back h (H p) l) h l (H p) (H p ++ _))
  rw [mrg_ro hs.1]
  have e : back h (H p) l (H p).length = 0 + h.length := by
    have : l[(H p).length]? = none := List.getElem?_eq_none (by omega)
    simp only [back, this]; omega
  simp only [renR, renT, renC, e, List.map_cons, List.map_nil, renHE, renOb, hf]
  exact h1
end
end Go.Eng
