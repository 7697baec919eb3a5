/- Contracts: bits laid between, the other way. -/
import Derived.Test.YtdeaigaafdnehaaDoorCbB
namespace Go.Proofs.YtdeaigaafdnehaaDoor.Co
open Go Go.Eng Go.Proofs Go.Proofs.YtdeaigaafdnehaaDoor.Tb Go.Pu
set_option maxRecDepth 100000
set_option maxHeartbeats 8000000
def rlI (r : Run) : Int := if r.n = 0 then 0 else cI r.last
abbrev runL (r : Run) : List Seg := [.c (.v (.int .i64 (r.n : Int))), .c (.v (.int .u8 (rlI r)))]
abbrev runT (r : Run) : R := .t (.agg (runL r))
abbrev wthC : Con (Run × Int) := RoCon (fun p => [runT p.1, iv .u8 p.2]) (fun _ => []) (fun p => p.1.n ≤ 10) fun p => runT (p.1.add (decide (p.2 = 49)))
theorem wth_use {r : Run} {c : Int} {h : Heap} {K : R → Heap → Prop} (hr : r.n ≤ 10) (hk : K (runT (r.add (decide (c = 49)))) h) : AskC wthC [runT r, iv .u8 c] h K :=
  .use (r, c) [] hr rfl trivial ⟨⟨.inl rfl, .inl rfl, trivial⟩, .inl rfl, trivial⟩ hk
theorem wth_eq {r : Run} {b : Bool} {n c : Int} (h1 : ((r.add b).n : Int) = n) (h2 : rlI (r.add b) = c) : R.t (.agg [.c (.v (.int .i64 n)), .c (.v (.int .u8 c))]) = runT (r.add b) := by rw [← h1, ← h2]
theorem add_same {r : Run} {b : Bool} (h : 0 < r.n) (hb : b = r.last) : r.add b = ⟨r.last, r.n + 1⟩ := if_pos ⟨h, hb⟩
theorem add_un {r : Run} {b : Bool} (h : ¬ (0 < r.n ∧ b = r.last)) : r.add b = ⟨b, 1⟩ := if_neg h
noncomputable abbrev tabWth : List (FuncId × Eng.Fn) := [(F.ref1_run_with, fn.ref1_run_with u0)]
theorem tabWth_ok {d : Nat} : TabOk d tabWth tt := .cons (ok.ref1_run_with u0) (TabOk.nil)
theorem wth_run (r : Run) (c : Int) (hr : r.n ≤ 10) : clRunX 5 tt outs0b tabWth 2 F.ref1_run_with [] [runT r, iv .u8 c] ([]) (fun x h => Trim 0 x h fun x h => x = runT (r.add (decide (c = 49))) ∧ h = []) := by
  by_cases hc : c = 49
  · by_cases hn : 0 < r.n
    · cases hl : r.last
      · have e := add_un (r := r) (b := decide (c = 49)) (by rw [decide_eq_true hc, hl]; simp)
        have hz : rlI r = 48 := by unfold rlI; rw [if_neg (by omega), hl]; rfl
        repeat((conv=>whnf);first|((with_reducible refine qS ?_ ?_ ?_);exact rfl;exact rfl)|with_reducible refine qB ?_|((with_reducible refine qI ?_ ?_);omega)|((with_reducible refine qDT ?_ ?_);omega)|((with_reducible refine qDF ?_ ?_);omega)|((with_reducible refine qNT ?_ ?_);omega)|((with_reducible refine qNF ?_ ?_);omega)|((with_reducible refine qU8 ?_ ?_);omega)|((with_reducible refine qU32 ?_ ?_);omega)|((with_reducible refine qU64 ?_ ?_);omega)|((with_reducible refine qU16 ?_ ?_);omega))
        conv => whnf
        refine trim0 rfl ?_
        rw [e, decide_eq_true hc, hc]; rfl
      · have e := add_same (r := r) (b := decide (c = 49)) hn (by rw [decide_eq_true hc, hl])
        have hz : rlI r = 49 := by unfold rlI; rw [if_neg (by omega), hl]; rfl
        repeat((conv=>whnf);first|((with_reducible refine qS ?_ ?_ ?_);exact rfl;exact rfl)|with_reducible refine qB ?_|((with_reducible refine qI ?_ ?_);omega)|((with_reducible refine qDT ?_ ?_);omega)|((with_reducible refine qDF ?_ ?_);omega)|((with_reducible refine qNT ?_ ?_);omega)|((with_reducible refine qNF ?_ ?_);omega)|((with_reducible refine qU8 ?_ ?_);omega)|((with_reducible refine qU32 ?_ ?_);omega)|((with_reducible refine qU64 ?_ ?_);omega)|((with_reducible refine qU16 ?_ ?_);omega))
        conv => whnf
        refine trim0 rfl ?_
        rw [e, hl, hc]; rfl
    · have e := add_un (r := r) (b := decide (c = 49)) (fun h => hn h.1)
      repeat((conv=>whnf);first|((with_reducible refine qS ?_ ?_ ?_);exact rfl;exact rfl)|with_reducible refine qB ?_|((with_reducible refine qI ?_ ?_);omega)|((with_reducible refine qDT ?_ ?_);omega)|((with_reducible refine qDF ?_ ?_);omega)|((with_reducible refine qNT ?_ ?_);omega)|((with_reducible refine qNF ?_ ?_);omega)|((with_reducible refine qU8 ?_ ?_);omega)|((with_reducible refine qU32 ?_ ?_);omega)|((with_reducible refine qU64 ?_ ?_);omega)|((with_reducible refine qU16 ?_ ?_);omega))
      conv => whnf
      refine trim0 rfl ?_
      rw [e, decide_eq_true hc, hc]; rfl
  · by_cases hn : 0 < r.n
    · cases hl : r.last
      · have e := add_same (r := r) (b := decide (c = 49)) hn (by rw [decide_eq_false hc, hl])
        have hz : rlI r = 48 := by unfold rlI; rw [if_neg (by omega), hl]; rfl
        repeat((conv=>whnf);first|((with_reducible refine qS ?_ ?_ ?_);exact rfl;exact rfl)|with_reducible refine qB ?_|((with_reducible refine qI ?_ ?_);omega)|((with_reducible refine qDT ?_ ?_);omega)|((with_reducible refine qDF ?_ ?_);omega)|((with_reducible refine qNT ?_ ?_);omega)|((with_reducible refine qNF ?_ ?_);omega)|((with_reducible refine qU8 ?_ ?_);omega)|((with_reducible refine qU32 ?_ ?_);omega)|((with_reducible refine qU64 ?_ ?_);omega)|((with_reducible refine qU16 ?_ ?_);omega))
        conv => whnf
        refine trim0 rfl ?_
        rw [e, hl]; rfl
      · have e := add_un (r := r) (b := decide (c = 49)) (by rw [decide_eq_false hc, hl]; simp)
        have hz : rlI r = 49 := by unfold rlI; rw [if_neg (by omega), hl]; rfl
        repeat((conv=>whnf);first|((with_reducible refine qS ?_ ?_ ?_);exact rfl;exact rfl)|with_reducible refine qB ?_|((with_reducible refine qI ?_ ?_);omega)|((with_reducible refine qDT ?_ ?_);omega)|((with_reducible refine qDF ?_ ?_);omega)|((with_reducible refine qNT ?_ ?_);omega)|((with_reducible refine qNF ?_ ?_);omega)|((with_reducible refine qU8 ?_ ?_);omega)|((with_reducible refine qU32 ?_ ?_);omega)|((with_reducible refine qU64 ?_ ?_);omega)|((with_reducible refine qU16 ?_ ?_);omega))
        conv => whnf
        refine trim0 rfl ?_
        rw [e, decide_eq_false hc]; rfl
    · have e := add_un (r := r) (b := decide (c = 49)) (fun h => hn h.1)
      repeat((conv=>whnf);first|((with_reducible refine qS ?_ ?_ ?_);exact rfl;exact rfl)|with_reducible refine qB ?_|((with_reducible refine qI ?_ ?_);omega)|((with_reducible refine qDT ?_ ?_);omega)|((with_reducible refine qDF ?_ ?_);omega)|((with_reducible refine qNT ?_ ?_);omega)|((with_reducible refine qNF ?_ ?_);omega)|((with_reducible refine qU8 ?_ ?_);omega)|((with_reducible refine qU32 ?_ ?_);omega)|((with_reducible refine qU64 ?_ ?_);omega)|((with_reducible refine qU16 ?_ ?_);omega))
      conv => whnf
      refine trim0 rfl ?_
      rw [e, decide_eq_false hc]; rfl
theorem wth_ok : ConOk Tryd.prog F.ref1_run_with wthC := con_of_run (clRunX_ok (d := 5) ttOk outs0b_ok tabWth_ok 2) (fn_enters (ok.ref1_run_with (D := 5) u0 _ (clRunX_ok (d := 5) ttOk .nil TabOk.nil 1))) fun p hp => wth_run p.1 p.2 hp
/-! ### Bits laid between -/
abbrev stuC : Con ByteArray := RoCon (fun p => [sv p]) (fun _ => []) (fun p => p.size ≤ 1000) fun p => sv (bs (stuff (rd p)))
theorem stu_use {s : ByteArray} {h : Heap} {K : R → Heap → Prop} (hs : s.size ≤ 1000) (hk : K (sv (bs (stuff (rd s)))) h) : AskC stuC [sv s] h K :=
  .use s [] hs rfl trivial ⟨.inl rfl, trivial⟩ hk
abbrev outsStu : List (FuncId × Cx) := [(F.ref1_run_with, AskC wthC)]
theorem outsStu_ok : OutsOk Tryd.prog outsStu := .cons (ask_ok wth_ok) .nil
noncomputable abbrev tabStu : List (FuncId × Eng.Fn) := [(F.ref1_Stuff, fn.ref1_Stuff u0), (F.ref1_other, fn.ref1_other u0)]
theorem tabStu_ok {d : Nat} : TabOk d tabStu tt := .cons (ok.ref1_Stuff u0) (.cons (ok.ref1_other u0) (TabOk.nil))
abbrev runO (r : Run) : HE := .ob (.own (runL r))
abbrev rowO (O : List Bool) (k cap : Nat) : HE := .ob (.row 1 k (fun q => [cC (gb O q)]) cap)
abbrev outO (b k cap : Nat) : R := match k with
  | 0 => .t (.one (.v (.slice none 0 0)))
  | k + 1 => .t (.one (.slc b 0 1 0 (k + 1) cap false))
abbrev rowsO (O : List Bool) (k cap : Nat) : Heap := match k with
  | 0 => []
  | k + 1 => [rowO O (k + 1) cap]
theorem app0b {O : List Bool} {c : Bool} {q : Nat} (hO : O.length = 0) (hq : q < 0 + 1) : nthD [] [[cC c]] (0 + q) = [cC (gb (O ++ [c]) q)] := by
  have : O = [] := List.eq_nil_of_length_eq_zero hO
  subst this
  obtain rfl : q = 0 := by omega
  rfl
theorem appb {O : List Bool} {c : Bool} {n q : Nat} (hn : O.length = n) (hq : q < n + 1) : (if q < n then [cC (gb O (0 + q))] else nthD [] [[cC c]] (0 + (q - n))) = [cC (gb (O ++ [c]) q)] := by
  rw [gb_snoc (by omega), hn]
  by_cases h : q < n
  · rw [if_pos h, if_pos h, Nat.zero_add]
  · rw [if_neg h, if_neg h, show 0 + (q - n) = 0 by omega]; rfl
theorem appb2 {O : List Bool} {c e : Bool} {n q : Nat} (hn : O.length = n) (hq : q < n + 1 + 1) : (if q < n + 1 then (if 0 + q < n then [cC (gb O (0 + (0 + q)))] else nthD [] [[cC c]] (0 + (0 + q - n))) else nthD [] [[cC e]] (0 + (q - (n + 1)))) = [cC (gb (O ++ [c, e]) q)] := by
  have h2 : O ++ [c, e] = (O ++ [c]) ++ [e] := by simp
  rw [h2, ← appb (O := O ++ [c]) (c := e) (n := n + 1) (by rw [List.length_append, hn]; rfl) hq]
  by_cases h : q < n + 1
  · rw [if_pos h, if_pos h, Nat.zero_add, ← appb hn h, Nat.zero_add]
  · rw [if_neg h, if_neg h]
theorem add_rl (r : Run) (c : Bool) : rlI (r.add c) = cI c ∧ 1 ≤ (r.add c).n ∧ (r.add c).n ≤ r.n + 1 := by
  unfold rlI Run.add
  by_cases h : 0 < r.n ∧ c = r.last
  · rw [if_pos h]; rw [h.2]
    exact ⟨if_neg (by show ¬ r.n + 1 = 0; omega), by show 1 ≤ r.n + 1; omega, Nat.le_refl _⟩
  · rw [if_neg h]; exact ⟨if_neg (by show ¬ 1 = 0; decide), Nat.le_refl _, by show 1 ≤ r.n + 1; omega⟩
theorem stu_run (s : ByteArray) (hs : s.size ≤ 1000) : clRunX 6 tt outsStu tabStu 2 F.ref1_Stuff [] [sv s] ([]) (fun x h => Trim 0 x h fun x h => x = sv (bs (stuff (rd s))) ∧ h = []) := by
  repeat((conv=>whnf);first|((with_reducible refine qS ?_ ?_ ?_);exact rfl;exact rfl)|with_reducible refine qB ?_|((with_reducible refine qI ?_ ?_);omega)|((with_reducible refine qDT ?_ ?_);omega)|((with_reducible refine qDF ?_ ?_);omega)|((with_reducible refine qNT ?_ ?_);omega)|((with_reducible refine qNF ?_ ?_);omega)|((with_reducible refine qU8 ?_ ?_);omega)|((with_reducible refine qU32 ?_ ?_);omega)|((with_reducible refine qU64 ?_ ?_);omega)|((with_reducible refine qU16 ?_ ?_);omega))
  conv => whnf
  refine .inv (fun p : Nat × Nat => p.1 ≤ s.size ∧ (stO (rd s) p.1).length ≤ p.2) (fun p => [(3, outO 1 (stO (rd s) p.1).length p.2), (5, iv .i64 p.1)]) (fun p => runO (stR (rd s) p.1) :: rowsO (stO (rd s) p.1) (stO (rd s) p.1).length p.2) (fun p => s.size - p.1) (0, 0) ⟨Nat.zero_le _, Nat.le_refl _⟩ ?_ (fun p ⟨hj, hl⟩ => ?_)
  · conv => whnf
    refine Le.id rfl ?_ ?_
    all_goals(repeat'(first|exact leT_empty|exact trivial|exact rfl|exact .inl rfl|exact .inr rfl|exact .inr ⟨rfl,rfl⟩|exact Nat.le_refl _|exact Nat.zero_le _|exact fun _ _=>rfl|assumption|refine And.intro ?_ ?_|exact ul0|exact ul1 rfl|exact ul2 rfl rfl|exact ul3 rfl rfl rfl))
  generalize p.1 = j at *
  generalize p.2 = cap at *
  have hr := stR_bd (rd s) j
  have hle := stO_len (rd s) j
  have hge := stO_ge (l := rd s) (j := j) (by rw [rd_len]; exact hj)
  have h5 := fun a b => stO_5 (l := rd s) (j := j) a b
  have hn := fun a b => stO_n (l := rd s) (j := j) a b
  have he : j = s.size → stO (rd s) j = stuff (rd s) := fun e => by rw [e, ← rd_len]; exact stO_all _
  have h0 : j = 0 → stR (rd s) j = run0 := fun e => by rw [e]; rfl
  generalize hO : stO (rd s) j = O at *
  generalize hR : stR (rd s) j = r at *
  obtain ⟨k, hk⟩ : ∃ k, O.length = k := ⟨_, rfl⟩
  rw [hk] at hl hle hge ⊢
  rcases k with _ | k
  · conv => whnf
    refine cD (fun h6 => ?_) (fun h6 => ?_)
    · have hj' : j < (rd s).length := by rw [rd_len]; omega
      repeat((conv=>whnf);first|((with_reducible refine qS ?_ ?_ ?_);exact rfl;exact rfl)|with_reducible refine qB ?_|((with_reducible refine qI ?_ ?_);omega)|((with_reducible refine qDT ?_ ?_);omega)|((with_reducible refine qDF ?_ ?_);omega)|((with_reducible refine qNT ?_ ?_);omega)|((with_reducible refine qNF ?_ ?_);omega)|((with_reducible refine qU8 ?_ ?_);omega)|((with_reducible refine qU32 ?_ ?_);omega)|((with_reducible refine qU64 ?_ ?_);omega)|((with_reducible refine qU16 ?_ ?_);omega))
      conv => whnf
      refine wth_use (by omega) ?_
      rw [tn, dec49 (by omega)]
      have hr0 := h0 (by omega)
      obtain ⟨e1, e2⟩ := hn hj' (by rw [hr0]; show ¬ (1 = 5); decide)
      generalize gb (rd s) j = c at *
      have ea : r.add c = ⟨c, 1⟩ := by rw [hr0]; rfl
      rw [ea] at e2 ⊢
      repeat((conv=>whnf);first|((with_reducible refine qS ?_ ?_ ?_);exact rfl;exact rfl)|with_reducible refine qB ?_|((with_reducible refine qI ?_ ?_);omega)|((with_reducible refine qDT ?_ ?_);omega)|((with_reducible refine qDF ?_ ?_);omega)|((with_reducible refine qNT ?_ ?_);omega)|((with_reducible refine qNF ?_ ?_);omega)|((with_reducible refine qU8 ?_ ?_);omega)|((with_reducible refine qU32 ?_ ?_);omega)|((with_reducible refine qU64 ?_ ?_);omega)|((with_reducible refine qU16 ?_ ?_);omega))
      conv => whnf
      intro cap' hc'
      repeat((conv=>whnf);first|((with_reducible refine qS ?_ ?_ ?_);exact rfl;exact rfl)|with_reducible refine qB ?_|((with_reducible refine qI ?_ ?_);omega)|((with_reducible refine qDT ?_ ?_);omega)|((with_reducible refine qDF ?_ ?_);omega)|((with_reducible refine qNT ?_ ?_);omega)|((with_reducible refine qNF ?_ ?_);omega)|((with_reducible refine qU8 ?_ ?_);omega)|((with_reducible refine qU32 ?_ ?_);omega)|((with_reducible refine qU64 ?_ ?_);omega)|((with_reducible refine qU16 ?_ ?_);omega))
      conv => whnf
      refine ⟨(j + 1, cap'), ⟨⟨by show j + 1 ≤ s.size; omega, by rw [e1, List.length_append, hk]; exact hc'⟩, by show s.size - (j + 1) < s.size - j; omega⟩, ?_⟩
      rw [e2, show (stO (rd s) (j + 1)).length = 0 + 1 by rw [e1, List.length_append, hk]; rfl]
      conv => whnf
      refine Le.nm [0, 2] rfl ?_ ?_
      · refine ⟨⟨rfl, rfl, trivial⟩, ⟨rfl, rfl, rfl, fun q hq => ?_⟩, trivial⟩
        rw [e1]
        exact app0b hk hq
      · repeat'(first|exact leT_empty|exact trivial|exact rfl|exact .inl rfl|exact .inr rfl|exact .inr ⟨rfl,rfl⟩|exact Nat.le_refl _|exact Nat.zero_le _|exact fun _ _=>rfl|assumption|refine And.intro ?_ ?_|exact ul0|exact ul1 rfl|exact ul2 rfl rfl|exact ul3 rfl rfl rfl)
    repeat((conv=>whnf);first|((with_reducible refine qS ?_ ?_ ?_);exact rfl;exact rfl)|with_reducible refine qB ?_|((with_reducible refine qI ?_ ?_);omega)|((with_reducible refine qDT ?_ ?_);omega)|((with_reducible refine qDF ?_ ?_);omega)|((with_reducible refine qNT ?_ ?_);omega)|((with_reducible refine qNF ?_ ?_);omega)|((with_reducible refine qU8 ?_ ?_);omega)|((with_reducible refine qU32 ?_ ?_);omega)|((with_reducible refine qU64 ?_ ?_);omega)|((with_reducible refine qU16 ?_ ?_);omega))
    conv => whnf
    have e9 := he (by omega)
    rw [show O = [] from List.eq_nil_of_length_eq_zero hk] at e9
    refine trim0 rfl ?_
    rw [← e9]; rfl
  · conv => whnf
    refine cD (fun h6 => ?_) (fun h6 => ?_)
    · have hj' : j < (rd s).length := by rw [rd_len]; omega
      repeat((conv=>whnf);first|((with_reducible refine qS ?_ ?_ ?_);exact rfl;exact rfl)|with_reducible refine qB ?_|((with_reducible refine qI ?_ ?_);omega)|((with_reducible refine qDT ?_ ?_);omega)|((with_reducible refine qDF ?_ ?_);omega)|((with_reducible refine qNT ?_ ?_);omega)|((with_reducible refine qNF ?_ ?_);omega)|((with_reducible refine qU8 ?_ ?_);omega)|((with_reducible refine qU32 ?_ ?_);omega)|((with_reducible refine qU64 ?_ ?_);omega)|((with_reducible refine qU16 ?_ ?_);omega))
      conv => whnf
      refine wth_use (by omega) ?_
      rw [tn, dec49 (by omega)]
      have ha := add_rl r (gb (rd s) j)
      have h5 := h5 hj'
      have hn := hn hj'
      generalize gb (rd s) j = c at *
      generalize r.add c = r1 at *
      obtain ⟨ha1, ha2, ha3⟩ := ha
      repeat((conv=>whnf);first|((with_reducible refine qS ?_ ?_ ?_);exact rfl;exact rfl)|with_reducible refine qB ?_|((with_reducible refine qI ?_ ?_);omega)|((with_reducible refine qDT ?_ ?_);omega)|((with_reducible refine qDF ?_ ?_);omega)|((with_reducible refine qNT ?_ ?_);omega)|((with_reducible refine qNF ?_ ?_);omega)|((with_reducible refine qU8 ?_ ?_);omega)|((with_reducible refine qU32 ?_ ?_);omega)|((with_reducible refine qU64 ?_ ?_);omega)|((with_reducible refine qU16 ?_ ?_);omega))
      conv => whnf
      rw [ha1]
      repeat((conv=>whnf);first|((with_reducible refine qS ?_ ?_ ?_);exact rfl;exact rfl)|with_reducible refine qB ?_|((with_reducible refine qI ?_ ?_);omega)|((with_reducible refine qDT ?_ ?_);omega)|((with_reducible refine qDF ?_ ?_);omega)|((with_reducible refine qNT ?_ ?_);omega)|((with_reducible refine qNF ?_ ?_);omega)|((with_reducible refine qU8 ?_ ?_);omega)|((with_reducible refine qU32 ?_ ?_);omega)|((with_reducible refine qU64 ?_ ?_);omega)|((with_reducible refine qU16 ?_ ?_);omega))
      conv => whnf
      refine cT (decide_eq_true (by show (k + 1 + 1) * 1 ≤ 1099511627776; omega)) ?_
      repeat((conv=>whnf);first|((with_reducible refine qS ?_ ?_ ?_);exact rfl;exact rfl)|with_reducible refine qB ?_|((with_reducible refine qI ?_ ?_);omega)|((with_reducible refine qDT ?_ ?_);omega)|((with_reducible refine qDF ?_ ?_);omega)|((with_reducible refine qNT ?_ ?_);omega)|((with_reducible refine qNF ?_ ?_);omega)|((with_reducible refine qU8 ?_ ?_);omega)|((with_reducible refine qU32 ?_ ?_);omega)|((with_reducible refine qU64 ?_ ?_);omega)|((with_reducible refine qU16 ?_ ?_);omega))
      conv => whnf
      intro c1 hc1
      repeat((conv=>whnf);first|((with_reducible refine qS ?_ ?_ ?_);exact rfl;exact rfl)|with_reducible refine qB ?_|((with_reducible refine qI ?_ ?_);omega)|((with_reducible refine qDT ?_ ?_);omega)|((with_reducible refine qDF ?_ ?_);omega)|((with_reducible refine qNT ?_ ?_);omega)|((with_reducible refine qNF ?_ ?_);omega)|((with_reducible refine qU8 ?_ ?_);omega)|((with_reducible refine qU32 ?_ ?_);omega)|((with_reducible refine qU64 ?_ ?_);omega)|((with_reducible refine qU16 ?_ ?_);omega))
      conv => whnf
      by_cases h7 : r1.n = 5
      · obtain ⟨e1, e2⟩ := h5 h7
        have el : (stO (rd s) (j + 1)).length = k + 1 + 1 + 1 := by rw [e1, List.length_append, hk]; rfl
        cases c
        · repeat((conv=>whnf);first|((with_reducible refine qS ?_ ?_ ?_);exact rfl;exact rfl)|with_reducible refine qB ?_|((with_reducible refine qI ?_ ?_);omega)|((with_reducible refine qDT ?_ ?_);omega)|((with_reducible refine qDF ?_ ?_);omega)|((with_reducible refine qNT ?_ ?_);omega)|((with_reducible refine qNF ?_ ?_);omega)|((with_reducible refine qU8 ?_ ?_);omega)|((with_reducible refine qU32 ?_ ?_);omega)|((with_reducible refine qU64 ?_ ?_);omega)|((with_reducible refine qU16 ?_ ?_);omega))
          conv => whnf
          refine cT (decide_eq_true (by show (k + 1 + 1 + 1) * 1 ≤ 1099511627776; omega)) ?_
          repeat((conv=>whnf);first|((with_reducible refine qS ?_ ?_ ?_);exact rfl;exact rfl)|with_reducible refine qB ?_|((with_reducible refine qI ?_ ?_);omega)|((with_reducible refine qDT ?_ ?_);omega)|((with_reducible refine qDF ?_ ?_);omega)|((with_reducible refine qNT ?_ ?_);omega)|((with_reducible refine qNF ?_ ?_);omega)|((with_reducible refine qU8 ?_ ?_);omega)|((with_reducible refine qU32 ?_ ?_);omega)|((with_reducible refine qU64 ?_ ?_);omega)|((with_reducible refine qU16 ?_ ?_);omega))
          conv => whnf
          intro c2 hc2
          repeat((conv=>whnf);first|((with_reducible refine qS ?_ ?_ ?_);exact rfl;exact rfl)|with_reducible refine qB ?_|((with_reducible refine qI ?_ ?_);omega)|((with_reducible refine qDT ?_ ?_);omega)|((with_reducible refine qDF ?_ ?_);omega)|((with_reducible refine qNT ?_ ?_);omega)|((with_reducible refine qNF ?_ ?_);omega)|((with_reducible refine qU8 ?_ ?_);omega)|((with_reducible refine qU32 ?_ ?_);omega)|((with_reducible refine qU64 ?_ ?_);omega)|((with_reducible refine qU16 ?_ ?_);omega))
          conv => whnf
          refine ⟨(j + 1, c2), ⟨⟨by show j + 1 ≤ s.size; omega, by rw [el]; exact hc2⟩, by show s.size - (j + 1) < s.size - j; omega⟩, ?_⟩
          rw [e2, el]
          conv => whnf
          refine Le.nm [0, 5] rfl ?_ ?_
          · refine ⟨⟨rfl, rfl, trivial⟩, ⟨rfl, rfl, rfl, fun q hq => ?_⟩, trivial⟩
            rw [e1]
            exact appb2 (c := false) (e := true) hk hq
          · repeat'(first|exact leT_empty|exact trivial|exact rfl|exact .inl rfl|exact .inr rfl|exact .inr ⟨rfl,rfl⟩|exact Nat.le_refl _|exact Nat.zero_le _|exact fun _ _=>rfl|assumption|refine And.intro ?_ ?_|exact ul0|exact ul1 rfl|exact ul2 rfl rfl|exact ul3 rfl rfl rfl)
        · repeat((conv=>whnf);first|((with_reducible refine qS ?_ ?_ ?_);exact rfl;exact rfl)|with_reducible refine qB ?_|((with_reducible refine qI ?_ ?_);omega)|((with_reducible refine qDT ?_ ?_);omega)|((with_reducible refine qDF ?_ ?_);omega)|((with_reducible refine qNT ?_ ?_);omega)|((with_reducible refine qNF ?_ ?_);omega)|((with_reducible refine qU8 ?_ ?_);omega)|((with_reducible refine qU32 ?_ ?_);omega)|((with_reducible refine qU64 ?_ ?_);omega)|((with_reducible refine qU16 ?_ ?_);omega))
          conv => whnf
          refine cT (decide_eq_true (by show (k + 1 + 1 + 1) * 1 ≤ 1099511627776; omega)) ?_
          repeat((conv=>whnf);first|((with_reducible refine qS ?_ ?_ ?_);exact rfl;exact rfl)|with_reducible refine qB ?_|((with_reducible refine qI ?_ ?_);omega)|((with_reducible refine qDT ?_ ?_);omega)|((with_reducible refine qDF ?_ ?_);omega)|((with_reducible refine qNT ?_ ?_);omega)|((with_reducible refine qNF ?_ ?_);omega)|((with_reducible refine qU8 ?_ ?_);omega)|((with_reducible refine qU32 ?_ ?_);omega)|((with_reducible refine qU64 ?_ ?_);omega)|((with_reducible refine qU16 ?_ ?_);omega))
          conv => whnf
          intro c2 hc2
          repeat((conv=>whnf);first|((with_reducible refine qS ?_ ?_ ?_);exact rfl;exact rfl)|with_reducible refine qB ?_|((with_reducible refine qI ?_ ?_);omega)|((with_reducible refine qDT ?_ ?_);omega)|((with_reducible refine qDF ?_ ?_);omega)|((with_reducible refine qNT ?_ ?_);omega)|((with_reducible refine qNF ?_ ?_);omega)|((with_reducible refine qU8 ?_ ?_);omega)|((with_reducible refine qU32 ?_ ?_);omega)|((with_reducible refine qU64 ?_ ?_);omega)|((with_reducible refine qU16 ?_ ?_);omega))
          conv => whnf
          refine ⟨(j + 1, c2), ⟨⟨by show j + 1 ≤ s.size; omega, by rw [el]; exact hc2⟩, by show s.size - (j + 1) < s.size - j; omega⟩, ?_⟩
          rw [e2, el]
          conv => whnf
          refine Le.nm [0, 5] rfl ?_ ?_
          · refine ⟨⟨rfl, rfl, trivial⟩, ⟨rfl, rfl, rfl, fun q hq => ?_⟩, trivial⟩
            rw [e1]
            exact appb2 (c := true) (e := false) hk hq
          · repeat'(first|exact leT_empty|exact trivial|exact rfl|exact .inl rfl|exact .inr rfl|exact .inr ⟨rfl,rfl⟩|exact Nat.le_refl _|exact Nat.zero_le _|exact fun _ _=>rfl|assumption|refine And.intro ?_ ?_|exact ul0|exact ul1 rfl|exact ul2 rfl rfl|exact ul3 rfl rfl rfl)
      · obtain ⟨e1, e2⟩ := hn h7
        have el : (stO (rd s) (j + 1)).length = k + 1 + 1 := by rw [e1, List.length_append, hk]; rfl
        repeat((conv=>whnf);first|((with_reducible refine qS ?_ ?_ ?_);exact rfl;exact rfl)|with_reducible refine qB ?_|((with_reducible refine qI ?_ ?_);omega)|((with_reducible refine qDT ?_ ?_);omega)|((with_reducible refine qDF ?_ ?_);omega)|((with_reducible refine qNT ?_ ?_);omega)|((with_reducible refine qNF ?_ ?_);omega)|((with_reducible refine qU8 ?_ ?_);omega)|((with_reducible refine qU32 ?_ ?_);omega)|((with_reducible refine qU64 ?_ ?_);omega)|((with_reducible refine qU16 ?_ ?_);omega))
        conv => whnf
        refine ⟨(j + 1, c1), ⟨⟨by show j + 1 ≤ s.size; omega, by rw [el]; exact hc1⟩, by show s.size - (j + 1) < s.size - j; omega⟩, ?_⟩
        rw [e2, el]
        conv => whnf
        refine Le.nm [0, 3] rfl ?_ ?_
        · refine ⟨⟨rfl, congrArg (fun n => C.v (.int .u8 n)) ha1.symm, trivial⟩, ⟨rfl, rfl, rfl, fun q hq => ?_⟩, trivial⟩
          rw [e1]
          exact appb hk hq
        · repeat'(first|exact leT_empty|exact trivial|exact rfl|exact .inl rfl|exact .inr rfl|exact .inr ⟨rfl,rfl⟩|exact Nat.le_refl _|exact Nat.zero_le _|exact fun _ _=>rfl|assumption|refine And.intro ?_ ?_|exact ul0|exact ul1 rfl|exact ul2 rfl rfl|exact ul3 rfl rfl rfl)
    repeat((conv=>whnf);first|((with_reducible refine qS ?_ ?_ ?_);exact rfl;exact rfl)|with_reducible refine qB ?_|((with_reducible refine qI ?_ ?_);omega)|((with_reducible refine qDT ?_ ?_);omega)|((with_reducible refine qDF ?_ ?_);omega)|((with_reducible refine qNT ?_ ?_);omega)|((with_reducible refine qNF ?_ ?_);omega)|((with_reducible refine qU8 ?_ ?_);omega)|((with_reducible refine qU32 ?_ ?_);omega)|((with_reducible refine qU64 ?_ ?_);omega)|((with_reducible refine qU16 ?_ ?_);omega))
    conv => whnf
    refine cT (bytesB_mk fun q hq => ⟨_, rfl⟩) ?_
    repeat((conv=>whnf);first|((with_reducible refine qS ?_ ?_ ?_);exact rfl;exact rfl)|with_reducible refine qB ?_|((with_reducible refine qI ?_ ?_);omega)|((with_reducible refine qDT ?_ ?_);omega)|((with_reducible refine qDF ?_ ?_);omega)|((with_reducible refine qNT ?_ ?_);omega)|((with_reducible refine qNF ?_ ?_);omega)|((with_reducible refine qU8 ?_ ?_);omega)|((with_reducible refine qU32 ?_ ?_);omega)|((with_reducible refine qU64 ?_ ?_);omega)|((with_reducible refine qU16 ?_ ?_);omega))
    conv => whnf
    refine trim0 rfl (congrArg sv ?_)
    rw [← he (by omega)]
    exact mkStr_bs hk fun q hq => by show [cC (gb O (0 + q))] = _; rw [Nat.zero_add]
theorem stu_ok : ConOk Tryd.prog F.ref1_Stuff stuC := con_of_run (clRunX_ok (d := 6) ttOk outsStu_ok tabStu_ok 2) (fn_enters (ok.ref1_Stuff (D := 6) u0 _ (clRunX_ok (d := 6) ttOk .nil TabOk.nil 1))) fun p hp => stu_run p hp
end Go.Proofs.YtdeaigaafdnehaaDoor.Co
