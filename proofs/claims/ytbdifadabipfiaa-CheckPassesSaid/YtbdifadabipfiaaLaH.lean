/- CheckPasses: of what passes no two windows have a unit of a cycle together, each has room, and its message is there: true at every input; no conditions. -/
import Derived.Test.YtbdifadabipfiaaLaB
namespace Go.Proofs.Ytbdifadabipfiaa.checkPasses
open Go Go.Eng Go.Proofs Go.Proofs.Ytbdifadabipfiaa.Tb Go.Proofs.Ytbdifadabipfiaa.Co Go.Proofs.Ytbdifadabipfiaa.La Go.Pu
set_option maxRecDepth 100000
set_option maxHeartbeats 16000000
structure Pass (m : Mat) : Prop where
  is : m.Is
  len : Pu.step m ≤ m.length
  who : (chkO m).2 = 0
  two : (chkT m).2 = 0
  win : ∀ i, i < m.nW → winErr m i = 0
theorem pass_of {m : Mat} (h : (chk m).2 = 0) : Pass m := by
  unfold chk at h
  by_cases h1 : isM m = false
  · rw [if_pos h1] at h; cases h
  rw [if_neg h1] at h
  by_cases h2 : m.length < Pu.step m
  · rw [if_pos h2] at h; cases h
  rw [if_neg h2] at h
  by_cases h3 : (chkO m).2 = 0
  · rw [if_neg (by simp [h3])] at h
    by_cases h4 : (chkT m).2 = 0
    · rw [if_neg (by simp [h4])] at h
      by_cases h5 : (chkW m).2 = 0
      · refine ⟨isM_iff.1 (by simpa using h1), by omega, h3, h4, fun i hi => ?_⟩
        rcases first_cases m.nW (fun i => decide (winErr m i ≠ 0)) with ⟨_, q⟩ | ⟨j, q1, q2, q3, _⟩
        · have := q i hi
          simpa using this
        · exfalso
          unfold chkW at h5
          rw [q2, if_pos (by omega), Int.toNat_natCast] at h5
          have q3 := of_decide_eq_true q3
          exact q3 h5
      · rw [if_pos h5] at h; exact absurd h h5
    · rw [if_pos h4] at h; exact absurd h h4
  · rw [if_pos h3] at h; exact absurd h h3
theorem err_no {m : Mat} {i : Nat} (h : winErr m i = 0) : ¬ ((m.W i).kind = 1 ∧ ((m.nG : Int) ≤ (m.W i).msg ∨ (m.G (m.W i).msg.toNat).ev = true)) ∧ ¬ ((m.W i).st < Pu.step m ∨ ((m.W i).kind ≠ 3 ∧ (m.W i).en - (m.W i).st < Pu.step m)) ∧ anyB i (fun k => meet m i k) = false := by
  unfold winErr at h
  split at h
  · cases h
  · rename_i h1
    split at h
    · cases h
    · rename_i h2
      split at h
      · cases h
      · rename_i h3
        exact ⟨h1, h2, by simpa using h3⟩
theorem comes_mod {c r n : Int} (hr : 0 < r) (hn : 0 ≤ n) (h : n.tmod r = c) : comes c r n = true := by
  have h0 : 0 ≤ n.tmod r := Int.tmod_nonneg r hn
  have h1 : n.tmod r ≤ n := by rw [Int.tmod_eq_emod_of_nonneg hn]; have q1 := Int.emod_def n r; have q2 : 0 ≤ r * (n / r) := Int.mul_nonneg (by omega) (Int.ediv_nonneg hn (by omega)); omega
  have h2 : (n - n.tmod r).tmod r = 0 := by
    rw [Int.tmod_eq_emod_of_nonneg (by omega), Int.tmod_eq_emod_of_nonneg hn]
    have q1 := Int.emod_def n r
    rw [show n - n % r = r * (n / r) by omega]
    exact Int.mul_emod_right r (n / r)
  subst h
  unfold comes
  exact decide_eq_true ⟨hr, h0, h1, h2⟩
theorem meets {m : Mat} {n i k : Nat} (hn : (n : Int) < m.cycles) (h8 : m.cycles ≤ 8) (hi : i < m.nW) (hk : k < m.nW) (r1 : 0 < (m.W i).rep) (r2 : 0 < (m.W k).rep) (e1 : (n : Int).tmod (m.W i).rep = (m.W i).cyc) (e2 : (n : Int).tmod (m.W k).rep = (m.W k).cyc) (h1 : (m.W k).st < (m.W i).en) (h2 : (m.W i).st < (m.W k).en) : meet m i k = true := by
  rw [meet_in ⟨by omega, by omega, by omega, by omega⟩, Int.toNat_natCast, Int.toNat_natCast]
  exact meetW_yes ⟨h2, h1⟩ (i := n) (by omega) (comes_mod r1 (by omega) e1) (comes_mod r2 (by omega) e2)
noncomputable abbrev tabL : List (FuncId × Eng.Fn) := [(F.law14_CheckPasses, fn.law14_CheckPasses u0), (F.law14_few, fn.law14_few u0)]
theorem tabL_ok {d : Nat} : TabOk d tabL tt := .cons (ok.law14_CheckPasses u0) (.cons (ok.law14_few u0) (TabOk.nil))
abbrev pas : List Pa := [.agg matSh]
theorem walk (m : Mat) (c : Caps) (hm : m.Ok) (hc : capsOk m c) : clRunC 8 tt outsL14 tabL 3 F.law14_CheckPasses [] [matT m c 0 1 2] (matH m []) (fun x _ => x = bv true) := by
  have hnW := hm.nW
  have hsb := step_bd (m := m)
  conv => whnf
  refine true_use ?_
  conv => whnf
  refine cD (fun h1 => ?_) (fun h1 => ?_)
  rotate_left
  · conv => whnf
    exact rfl
  conv => whnf
  refine cD (fun h2 => ?_) (fun h2 => ?_)
  rotate_left
  · conv => whnf
    exact rfl
  conv => whnf
  refine cN (fun h3 => ?_) (fun h3 => ?_)
  · conv => whnf
    exact rfl
  conv => whnf
  refine check_use (m := m) (c := c) hm hc ?_
  conv => whnf
  refine cN (fun h4 => ?_) (fun h4 => ?_)
  · conv => whnf
    exact rfl
  obtain ⟨his, hlen, -, -, hwin⟩ := pass_of h4
  have hL := his.head
  have hS := his.size
  unfold headP power at hL
  unfold sizeP at hS
  conv => whnf
  refine .rd (fun n : Nat => (n : Int) ≤ m.cycles) (fun n => [(5, iv .i64 n)]) (fun n => m.cycles.toNat - n) 0 (by show (0 : Int) ≤ m.cycles; omega) ?_ (fun n hn => ?_)
  · conv => whnf
    refine Le.id rfl ?_ ?_ <;> repeat' (first | exact leT_empty | exact trivial | exact rfl | exact (fun _ _ => rfl) | exact .inl rfl | exact Nat.le_refl _ | refine And.intro ?_ ?_)
  conv => whnf
  refine cD (fun h5 => ?_) (fun h5 => ?_)
  · conv => whnf
    refine .rd (fun p : Nat × Int => p.1 ≤ m.nW ∧ 0 ≤ p.2 ∧ p.2 ≤ m.length) (fun p => [(6, iv .i64 p.2), (7, iv .i64 p.1)]) (fun p => m.nW - p.1) (0, 0) ⟨Nat.zero_le _, Int.le_refl _, by omega⟩ ?_ (fun p ⟨hi, hl0, hl1⟩ => ?_)
    · conv => whnf
      refine Le.id rfl ?_ ?_ <;> repeat' (first | exact leT_empty | exact trivial | exact rfl | exact (fun _ _ => rfl) | exact .inl rfl | exact Nat.le_refl _ | refine And.intro ?_ ?_)
    generalize p.1 = i at *
    generalize p.2 = last at *
    conv => whnf
    refine cD (fun h6 => ?_) (fun h6 => ?_)
    · have hWi := his.W i (by omega)
      obtain ⟨n1, n2, n3⟩ := err_no (hwin i (by omega))
      unfold winP power at hWi
      repeat
        conv => whnf
        first
          | refine cS rfl rfl ?_
          | refine cT (beq_self_eq_true _) ?_
          | refine bI (by omega) ?_
          | refine cDT (by omega) ?_
          | refine cDF (by omega) ?_
          | refine cNT (by omega) ?_
          | refine cNF (by omega) ?_
          | refine bU8 (by omega) ?_
          | refine bU32 (by omega) ?_
      conv => whnf
      rw [zi i]
      repeat
        conv => whnf
        first
          | refine cS rfl rfl ?_
          | refine cT (beq_self_eq_true _) ?_
          | refine bI (by omega) ?_
          | refine cDT (by omega) ?_
          | refine cDF (by omega) ?_
          | refine cNT (by omega) ?_
          | refine cNF (by omega) ?_
          | refine bU8 (by omega) ?_
          | refine bU32 (by omega) ?_
      conv => whnf
      refine cN (fun h7 => ?_) (fun h7 => ?_)
      · repeat
          conv => whnf
          first
            | refine cS rfl rfl ?_
            | refine cT (beq_self_eq_true _) ?_
            | refine bI (by omega) ?_
            | refine cDT (by omega) ?_
            | refine cDF (by omega) ?_
            | refine cNT (by omega) ?_
            | refine cNF (by omega) ?_
            | refine bU8 (by omega) ?_
            | refine bU32 (by omega) ?_
        conv => whnf
        refine ⟨(i + 1, last), ⟨⟨by show i + 1 ≤ m.nW; omega, hl0, hl1⟩, by show m.nW - (i + 1) < m.nW - i; omega⟩, ?_⟩
        conv => whnf
        refine Le.id rfl ?_ ?_ <;> repeat' (first | exact leT_empty | exact trivial | exact rfl | exact (fun _ _ => rfl) | exact .inl rfl | exact Nat.le_refl _ | refine And.intro ?_ ?_)
      repeat
        conv => whnf
        first
          | refine cS rfl rfl ?_
          | refine cT (beq_self_eq_true _) ?_
          | refine bI (by omega) ?_
          | refine cDT (by omega) ?_
          | refine cDF (by omega) ?_
          | refine cNT (by omega) ?_
          | refine cNF (by omega) ?_
          | refine bU8 (by omega) ?_
          | refine bU32 (by omega) ?_
      conv => whnf
      refine step_use (m := m) (c := c) hm ?_
      have hcase : (m.W i).kind = 3 ∨ ((m.W i).kind ≠ 3 ∧ (m.W i).kind ≠ 1) ∨ ((m.W i).kind = 1 ∧ (m.W i).msg < m.nG ∧ (m.G (m.W i).msg.toNat).ev = false) := by
        by_cases hk1 : (m.W i).kind = 1
        · refine .inr (.inr ⟨hk1, by omega, ?_⟩)
          cases hev : (m.G (m.W i).msg.toNat).ev with
          | false => rfl
          | true => exact absurd ⟨hk1, .inr hev⟩ n1
        · omega
      rcases hcase with hk | ⟨hk, hk'⟩ | ⟨hk, hk', hev⟩
      all_goals
        repeat
          conv => whnf
          first
            | refine cS rfl rfl ?_
            | refine cT (beq_self_eq_true _) ?_
            | refine bI (by omega) ?_
            | refine cDT (by omega) ?_
            | refine cDF (by omega) ?_
            | refine cNT (by omega) ?_
            | refine cNF (by omega) ?_
            | refine bU8 (by omega) ?_
            | refine bU32 (by omega) ?_
        conv => whnf
        try refine step_use (m := m) (c := c) hm ?_
        repeat
          conv => whnf
          first
            | refine cS rfl rfl ?_
            | refine cT (beq_self_eq_true _) ?_
            | refine bI (by omega) ?_
            | refine cDT (by omega) ?_
            | refine cDF (by omega) ?_
            | refine cNT (by omega) ?_
            | refine cNF (by omega) ?_
            | refine bU8 (by omega) ?_
            | refine bU32 (by omega) ?_
        conv => whnf
        try rw [za, hev]
        repeat
          conv => whnf
          first
            | refine cS rfl rfl ?_
            | refine cT (beq_self_eq_true _) ?_
            | refine bI (by omega) ?_
            | refine cDT (by omega) ?_
            | refine cDF (by omega) ?_
            | refine cNT (by omega) ?_
            | refine cNF (by omega) ?_
            | refine bU8 (by omega) ?_
            | refine bU32 (by omega) ?_
        conv => whnf
        refine .rd (fun k : Nat => k ≤ i) (fun k => [(9, iv .i64 k)]) (fun k => i - k) 0 (Nat.zero_le _) ?_ (fun k hk2 => ?_)
        · conv => whnf
          refine Le.id rfl ?_ ?_ <;> repeat' (first | exact leT_empty | exact trivial | exact rfl | exact (fun _ _ => rfl) | exact .inl rfl | exact Nat.le_refl _ | refine And.intro ?_ ?_)
        conv => whnf
        refine cD (fun h8 => ?_) (fun h8 => ?_)
        · have hWk := his.W k (by omega)
          unfold winP power at hWk
          have hmt : meet m i k = false := anyB_false.1 n3 k (by omega)
          have hno : ¬ ((n : Int).tmod (m.W k).rep = (m.W k).cyc ∧ (m.W k).st < (m.W i).en ∧ (m.W i).st < (m.W k).en) := by
            rintro ⟨e2, e3, e4⟩
            rw [meets (by omega) (by omega) (by omega) (by omega) (by omega) (by omega) h7 e2 e3 e4] at hmt
            cases hmt
          repeat
            conv => whnf
            first
              | refine cS rfl rfl ?_
              | refine cT (beq_self_eq_true _) ?_
              | refine bI (by omega) ?_
              | refine cDT (by omega) ?_
              | refine cDF (by omega) ?_
              | refine cNT (by omega) ?_
              | refine cNF (by omega) ?_
              | refine bU8 (by omega) ?_
              | refine bU32 (by omega) ?_
          conv => whnf
          rw [zi k]
          have hcut : ¬ (n : Int).tmod (m.W k).rep = (m.W k).cyc ∨ ((n : Int).tmod (m.W k).rep = (m.W k).cyc ∧ ¬ (m.W k).st < (m.W i).en) ∨ ((n : Int).tmod (m.W k).rep = (m.W k).cyc ∧ (m.W k).st < (m.W i).en ∧ ¬ (m.W i).st < (m.W k).en) := by omega
          rcases hcut with g1 | ⟨g1, g2⟩ | ⟨g1, g2, g3⟩
          all_goals
            repeat
              conv => whnf
              first
                | refine cS rfl rfl ?_
                | refine cT (beq_self_eq_true _) ?_
                | refine bI (by omega) ?_
                | refine cDT (by omega) ?_
                | refine cDF (by omega) ?_
                | refine cNT (by omega) ?_
                | refine cNF (by omega) ?_
                | refine bU8 (by omega) ?_
                | refine bU32 (by omega) ?_
            conv => whnf
            refine ⟨k + 1, ⟨by omega, by omega⟩, ?_⟩
            conv => whnf
            refine Le.id rfl ?_ ?_ <;> repeat' (first | exact leT_empty | exact trivial | exact rfl | exact (fun _ _ => rfl) | exact .inl rfl | exact Nat.le_refl _ | refine And.intro ?_ ?_)
        obtain rfl : k = i := by omega
        repeat
          conv => whnf
          first
            | refine cS rfl rfl ?_
            | refine cT (beq_self_eq_true _) ?_
            | refine bI (by omega) ?_
            | refine cDT (by omega) ?_
            | refine cDF (by omega) ?_
            | refine cNT (by omega) ?_
            | refine cNF (by omega) ?_
            | refine bU8 (by omega) ?_
            | refine bU32 (by omega) ?_
        conv => whnf
        refine ⟨(k + 1, max last (m.W k).en), ⟨⟨by show k + 1 ≤ m.nW; omega, by show 0 ≤ max last (m.W k).en; omega, by show max last (m.W k).en ≤ m.length; omega⟩, by show m.nW - (k + 1) < m.nW - k; omega⟩, ?_⟩
        conv => whnf
        refine Le.id rfl ?_ ?_ <;> repeat' (first | exact leT_empty | exact trivial | exact rfl | exact (fun _ _ => rfl) | exact .inl rfl | exact Nat.le_refl _ | refine And.intro ?_ ?_)
    obtain rfl : i = m.nW := by omega
    repeat
      conv => whnf
      first
        | refine cS rfl rfl ?_
        | refine cT (beq_self_eq_true _) ?_
        | refine bI (by omega) ?_
        | refine cDT (by omega) ?_
        | refine cDF (by omega) ?_
        | refine cNT (by omega) ?_
        | refine cNF (by omega) ?_
        | refine bU8 (by omega) ?_
        | refine bU32 (by omega) ?_
    conv => whnf
    refine ⟨n + 1, ⟨by show ((n + 1 : Nat) : Int) ≤ m.cycles; omega, by show m.cycles.toNat - (n + 1) < m.cycles.toNat - n; omega⟩, ?_⟩
    conv => whnf
    refine Le.id rfl ?_ ?_ <;> repeat' (first | exact leT_empty | exact trivial | exact rfl | exact (fun _ _ => rfl) | exact .inl rfl | exact Nat.le_refl _ | refine And.intro ?_ ?_)
  repeat
    conv => whnf
    first
      | refine cS rfl rfl ?_
      | refine cT (beq_self_eq_true _) ?_
      | refine bI (by omega) ?_
      | refine cDT (by omega) ?_
      | refine cDF (by omega) ?_
      | refine cNT (by omega) ?_
      | refine cNF (by omega) ?_
      | refine bU8 (by omega) ?_
      | refine bU32 (by omega) ?_
  conv => whnf
  refine step_use (m := m) (c := c) hm ?_
  repeat
    conv => whnf
    first
      | refine cS rfl rfl ?_
      | refine cT (beq_self_eq_true _) ?_
      | refine bI (by omega) ?_
      | refine cDT (by omega) ?_
      | refine cDF (by omega) ?_
      | refine cNT (by omega) ?_
      | refine cNF (by omega) ?_
      | refine bU8 (by omega) ?_
      | refine bU32 (by omega) ?_
  conv => whnf
  exact congrArg bv (decide_eq_true hlen)
theorem cl_ok : ∃ cl : Cl, ClOk Try.prog cl ∧ ∀ D, OkAll pas D → cl F.law14_CheckPasses [] (xsP 0 pas D) (hsP pas D) fun x _ => x = bv true := by
  refine ⟨clRunC 8 tt outsL14 tabL 3, clRunC_ok (d := 8) ttOk outsL14_ok tabL_ok 3, fun D hD => ?_⟩
  match D, hD with
  | [d0], hD =>
    obtain ⟨h0, _⟩ := hD
    obtain ⟨m, c, hm, hc, e0, e1⟩ := open_mat h0
    have hw := walk m c hm hc
    show clRunC 8 tt outsL14 tabL 3 10 [] (xP 0 (.agg matSh) d0 :: []) (hs matSh d0 ++ []) _
    rw [e0, e1]
    exact hw
theorem own' : ownKnob Try.prog.godebug = none := own
theorem lifted (os : Os) (started : os.Started) (H : Type) (enc : TypeId × Value → H) :
    ReturnsInHanded {} Try.checked os 10 .any (Rows.checkPassesSpec.pre6 enc Try.prog Try.f10 Rows.checkPassesRow.domain false) (Rows.checkPassesSpec.post enc Try.prog Try.f10 false true false false) := by
  refine returnsInHanded_of_change (C := Try.checked) own started (by kernel_rfl) Try.func10
    (ChangeSpec.witness6 (enc := enc) (C := Try.checked) false ⟨#[], #[.agg #[.int .i64 0, .int .i64 0, .int .i64 0, .int .i64 0, .int .i64 0, .int .i64 0, .int .i64 0, .int .u32 0, .slice none 0 0, .slice none 0 0, .slice none 0 0]], []⟩ 8 (by kernel_rfl) (by kernel_rfl) (by kernel_rfl) (by kernel_rfl)) ?_
  intro W base args ds gs before hval hW _ _
  obtain ⟨cl, hc, hw⟩ := cl_ok
  exact row_of (ps := pas) (by kernel_rfl) (by kernel_rfl) rfl rfl (fun ds h => by
    match ds, h with
    | [_], _ => rfl) hval hW hc hw
theorem closed : joinedFacts Try.prog 10 Try.f10 Rows.checkPassesSpec Rows.checkPassesRow = true := by
  simp only [joinedFacts, Bool.and_eq_true]
  repeat' apply And.intro
  all_goals first
    | with_reducible exact mayEnter_ok
    | with_reducible exact laid_ok
    | with_reducible exact rowed_ok
    | ((with_reducible refine beq_r lifts_ok ?_); rfl)
    | ((with_reducible refine beq_l make_ok ?_); kernel_rfl)
    | (as_aux_lemma => kernel_rfl)
theorem named : Try.prog.funcNamed Rows.checkPassesRow.func = some 10 := by kernel_rfl
theorem inst : Try.f10.isInstance Try.prog Rows.checkPassesRow.origin Rows.checkPassesRow.targs := of_decide_eq_true (by kernel_rfl)
theorem wrap : Try.f10.isWrapper Try.prog Rows.checkPassesRow.wrapper Rows.checkPassesRow.mainSum := by
  unfold Func.isWrapper; first | (rw [if_pos (by decide +kernel)]; kernel_rfl) | (rw [if_neg (by decide +kernel)]; exact ⟨rfl, rfl⟩)
theorem over : Rows.checkPassesRow.holds Try.pinned (OpenSpec.ofChange Rows.checkPassesSpec) :=
  OpenClaim.holds_of_wide 10 Try.f10 rfl rfl rfl rfl rfl rfl rfl ⟨rfl, rfl, rfl, rfl, rfl⟩ rfl rfl rfl rfl rfl named Try.func10 closed inst wrap
    (fun os started H enc _ => lifted os started H enc)
/-- The statement. -/
theorem proved : Rows.CheckPassesSaid := over
#print axioms proved
end Go.Proofs.Ytbdifadabipfiaa.checkPasses
