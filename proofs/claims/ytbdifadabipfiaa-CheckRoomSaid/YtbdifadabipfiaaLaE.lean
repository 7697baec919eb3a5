/- CheckRoom: a window is long enough from a Step on, and not a unit below; so is its beginning: true at every input; no conditions. -/
import Derived.Test.YtbdifadabipfiaaLaB
namespace Go.Proofs.Ytbdifadabipfiaa.checkRoom
open Go Go.Eng Go.Proofs Go.Proofs.Ytbdifadabipfiaa.Tb Go.Proofs.Ytbdifadabipfiaa.Co Go.Proofs.Ytbdifadabipfiaa.La Go.Pu
set_option maxRecDepth 100000
set_option maxHeartbeats 8000000
def mr (k s n : Int) : Mat := { m14 with nW := 1, W := fun _ => ⟨k, s, s + n, 0, 1, 0⟩ }
theorem mr_is {k s n : Int} (hk : 1 ≤ k ∧ k ≤ 3) (hs : 1 ≤ s ∧ s ≤ 60) (hn : 1 ≤ n ∧ n ≤ 60) : (mr k s n).Is := by
  constructor
  · simp [headP, mr, m14, power]
  · simp [sizeP, mr, m14]
  · intro i _; simp [whoP, mr, m14]
  · intro i _; simp [msgP, mr, m14]
  · intro i _; simp [winP, mr, m14, power]; omega
theorem mr_ok {k s n : Int} (hk : 1 ≤ k ∧ k ≤ 3) (hs : 1 ≤ s ∧ s ≤ 60) (hn : 1 ≤ n ∧ n ≤ 60) : (mr k s n).Ok := by
  constructor <;> simp [mr, m14, I64, U32]
  omega
theorem mr_step {k s n : Int} (hk : 1 ≤ k ∧ k ≤ 3) (hs : 1 ≤ s ∧ s ≤ 60) (hn : 1 ≤ n ∧ n ≤ 60) : Pu.step (mr k s n) = 38 := by
  rw [step_of (mr_is hk hs hn)]
  show units 16 140 + 2 = 38
  decide +kernel
theorem mr_chk {k s n : Int} (hk : 1 ≤ k ∧ k ≤ 3) (hs : 1 ≤ s ∧ s ≤ 60) (hn : 1 ≤ n ∧ n ≤ 60) : chk (mr k s n) = if s < 38 ∨ (k ≠ 3 ∧ n < 38) then (0, 144) else (0, 0) := by
  have h1 : isM (mr k s n) = true := isM_iff.2 (mr_is hk hs hn)
  have h2 := mr_step hk hs hn
  have h3 : chkO (mr k s n) = (0, 0) := rfl
  have h4 : chkT (mr k s n) = (0, 0) := rfl
  have h5 : winErr (mr k s n) 0 = if s < 38 ∨ (k ≠ 3 ∧ n < 38) then 144 else 0 := by
    unfold winErr
    rw [h2]
    rw [if_neg (by simp [mr, m14])]
    show (if s < 38 ∨ (k ≠ 3 ∧ s + n - s < 38) then (144 : Int) else if anyB 0 _ = true then 143 else 0) = _
    rw [show s + n - s = n by omega]
    rfl
  have h6 : first 1 (fun i => decide (winErr (mr k s n) i ≠ 0)) = if s < 38 ∨ (k ≠ 3 ∧ n < 38) then 0 else -1 := by
    unfold first firstGo
    rw [h5]
    split <;> simp [firstGo]
  unfold chk chkW
  rw [h1, h2, h3, h4]
  rw [show (mr k s n).nW = 1 from rfl, show (mr k s n).length = 400 from rfl, h6]
  by_cases hc : s < 38 ∨ (k ≠ 3 ∧ n < 38)
  · rw [if_pos hc] at h5
    simp only [if_pos hc]
    simp [h5]
  · simp only [if_neg hc]
    simp
noncomputable abbrev tabL : List (FuncId × Eng.Fn) := [(F.law14_CheckRoom, fn.law14_CheckRoom u0), (F.law14_least, fn.law14_least u0)]
theorem tabL_ok {d : Nat} : TabOk d tabL tt := .cons (ok.law14_CheckRoom u0) (.cons (ok.law14_least u0) (TabOk.nil))
abbrev pas : List Pa := [.one u8, .one u8, .one u8]
theorem walk (a0 a1 a2 : Int) (h0 : 0 ≤ a0 ∧ a0 ≤ 255) (h1 : 0 ≤ a1 ∧ a1 ≤ 255) (h2 : 0 ≤ a2 ∧ a2 ≤ 255) : clRunC 6 tt outsL14 tabL 3 F.law14_CheckRoom [] [iv .u8 a0, iv .u8 a1, iv .u8 a2] [] (fun x _ => x = bv true) := by
  have e0 : 0 ≤ a0.tmod 60 ∧ a0.tmod 60 ≤ 59 := by rw [Int.tmod_eq_emod_of_nonneg h0.1]; omega
  have e1 : 0 ≤ a1.tmod 60 ∧ a1.tmod 60 ≤ 59 := by rw [Int.tmod_eq_emod_of_nonneg h1.1]; omega
  have e2 : 0 ≤ a2.tmod 3 ∧ a2.tmod 3 ≤ 2 := by rw [Int.tmod_eq_emod_of_nonneg h2.1]; omega
  generalize hs : a0.tmod 60 = s at e0
  generalize hn : a1.tmod 60 = n at e1
  generalize hk : a2.tmod 3 = k at e2
  conv => whnf
  refine true_use ?_
  repeat
    conv => whnf
    first
      | refine cS rfl rfl ?_
      | refine cT (beq_self_eq_true _) ?_
      | refine bI (by omega) ?_
      | refine cDT (by omega) ?_
      | refine cDF (by omega) ?_
      | refine cNT (by omega) ?_
      | refine cNF (by omega) ?_
      | refine bU8 (by omega) ?_
      | refine bU32 (by omega) ?_
  try rw [hk]
  repeat
    conv => whnf
    first
      | refine cS rfl rfl ?_
      | refine cT (beq_self_eq_true _) ?_
      | refine bI (by omega) ?_
      | refine cDT (by omega) ?_
      | refine cDF (by omega) ?_
      | refine cNT (by omega) ?_
      | refine cNF (by omega) ?_
      | refine bU8 (by omega) ?_
      | refine bU32 (by omega) ?_
  try rw [hs]
  repeat
    conv => whnf
    first
      | refine cS rfl rfl ?_
      | refine cT (beq_self_eq_true _) ?_
      | refine bI (by omega) ?_
      | refine cDT (by omega) ?_
      | refine cDF (by omega) ?_
      | refine cNT (by omega) ?_
      | refine cNF (by omega) ?_
      | refine bU8 (by omega) ?_
      | refine bU32 (by omega) ?_
  try rw [hn]
  repeat
    conv => whnf
    first
      | refine cS rfl rfl ?_
      | refine cT (beq_self_eq_true _) ?_
      | refine bI (by omega) ?_
      | refine cDT (by omega) ?_
      | refine cDF (by omega) ?_
      | refine cNT (by omega) ?_
      | refine cNF (by omega) ?_
      | refine bU8 (by omega) ?_
      | refine bU32 (by omega) ?_
  conv => whnf
  have hK : 1 ≤ k + 1 ∧ k + 1 ≤ 3 := by omega
  have hS : 1 ≤ s + 1 ∧ s + 1 ≤ 60 := by omega
  have hN : 1 ≤ n + 1 ∧ n + 1 ≤ 60 := by omega
  refine AskC.use (mr (k + 1) (s + 1) (n + 1), ⟨1, 1, 1, false, false, false⟩) [1, 2, 4] ⟨mr_ok hK hS hN, ⟨Nat.le_refl _, Nat.le_refl _, Nat.le_refl _⟩⟩ rfl ?_ ?_ ?_
  · repeat' (first
      | exact trivial
      | exact rfl
      | exact .inl rfl
      | exact .inr rfl
      | exact .inr ⟨rfl, rfl⟩
      | exact Nat.le_refl _
      | exact Nat.zero_le _
      | exact (fun _ _ => rfl)
      | refine And.intro ?_ ?_
      | (intro i hi; exact absurd hi (Nat.not_lt_zero i))
      | (intro i hi; have hi := Nat.lt_of_lt_of_le hi (show _ ≤ 1 from Nat.le_refl 1); obtain rfl : i = 0 := (by omega); rfl)
      | (intro i hi; have hi := Nat.lt_of_lt_of_le hi (show _ ≤ 2 from Nat.le_refl 2); rcases (show i = 0 ∨ i = 1 by omega) with rfl | rfl <;> rfl)
      | (intro i hi; have hi := Nat.lt_of_lt_of_le hi (show _ ≤ 3 from Nat.le_refl 3); rcases (show i = 0 ∨ i = 1 ∨ i = 2 by omega) with rfl | rfl | rfl <;> rfl))
  · repeat' (first
      | exact trivial
      | exact rfl
      | exact .inl rfl
      | exact .inr rfl
      | exact .inr ⟨rfl, rfl⟩
      | exact Nat.le_refl _
      | exact Nat.zero_le _
      | exact (fun _ _ => rfl)
      | refine And.intro ?_ ?_
      | (intro i hi; exact absurd hi (Nat.not_lt_zero i))
      | (intro i hi; have hi := Nat.lt_of_lt_of_le hi (show _ ≤ 1 from Nat.le_refl 1); obtain rfl : i = 0 := (by omega); rfl)
      | (intro i hi; have hi := Nat.lt_of_lt_of_le hi (show _ ≤ 2 from Nat.le_refl 2); rcases (show i = 0 ∨ i = 1 by omega) with rfl | rfl <;> rfl)
      | (intro i hi; have hi := Nat.lt_of_lt_of_le hi (show _ ≤ 3 from Nat.le_refl 3); rcases (show i = 0 ∨ i = 1 ∨ i = 2 by omega) with rfl | rfl | rfl <;> rfl))
  rw [show pairR (chk (mr (k + 1) (s + 1) (n + 1), (⟨1, 1, 1, false, false, false⟩ : Caps)).1) = pairR (if s + 1 < 38 ∨ (k + 1 ≠ 3 ∧ n + 1 < 38) then (0, 144) else (0, 0)) from congrArg pairR (mr_chk hK hS hN)]
  by_cases hc : s + 1 < 38 ∨ (k + 1 ≠ 3 ∧ n + 1 < 38)
  · rw [if_pos hc]
    conv => whnf
    refine AskC.use (mr (k + 1) (s + 1) (n + 1), ⟨1, 1, 1, false, false, false⟩) [1, 2, 4] (mr_ok hK hS hN) rfl ?_ ?_ ?_
    · repeat' (first
        | exact trivial
        | exact rfl
        | exact .inl rfl
        | exact .inr rfl
        | exact .inr ⟨rfl, rfl⟩
        | exact Nat.le_refl _
        | exact Nat.zero_le _
        | exact (fun _ _ => rfl)
        | refine And.intro ?_ ?_
        | (intro i hi; exact absurd hi (Nat.not_lt_zero i))
        | (intro i hi; have hi := Nat.lt_of_lt_of_le hi (show _ ≤ 1 from Nat.le_refl 1); obtain rfl : i = 0 := (by omega); rfl)
        | (intro i hi; have hi := Nat.lt_of_lt_of_le hi (show _ ≤ 2 from Nat.le_refl 2); rcases (show i = 0 ∨ i = 1 by omega) with rfl | rfl <;> rfl)
        | (intro i hi; have hi := Nat.lt_of_lt_of_le hi (show _ ≤ 3 from Nat.le_refl 3); rcases (show i = 0 ∨ i = 1 ∨ i = 2 by omega) with rfl | rfl | rfl <;> rfl))
    · repeat' (first
        | exact trivial
        | exact rfl
        | exact .inl rfl
        | exact .inr rfl
        | exact .inr ⟨rfl, rfl⟩
        | exact Nat.le_refl _
        | exact Nat.zero_le _
        | exact (fun _ _ => rfl)
        | refine And.intro ?_ ?_
        | (intro i hi; exact absurd hi (Nat.not_lt_zero i))
        | (intro i hi; have hi := Nat.lt_of_lt_of_le hi (show _ ≤ 1 from Nat.le_refl 1); obtain rfl : i = 0 := (by omega); rfl)
        | (intro i hi; have hi := Nat.lt_of_lt_of_le hi (show _ ≤ 2 from Nat.le_refl 2); rcases (show i = 0 ∨ i = 1 by omega) with rfl | rfl <;> rfl)
        | (intro i hi; have hi := Nat.lt_of_lt_of_le hi (show _ ≤ 3 from Nat.le_refl 3); rcases (show i = 0 ∨ i = 1 ∨ i = 2 by omega) with rfl | rfl | rfl <;> rfl))
    rw [show iv .i64 (Pu.step (mr (k + 1) (s + 1) (n + 1), (⟨1, 1, 1, false, false, false⟩ : Caps)).1) = iv .i64 38 from congrArg (iv .i64) (mr_step hK hS hN)]
    conv => whnf
    refine cD (fun g1 => ?_) (fun g1 => ?_)
    · conv => whnf
      exact rfl
    conv => whnf
    refine cN (fun g2 => ?_) (fun g2 => ?_)
    · conv => whnf
      refine cD (fun g3 => ?_) (fun g3 => ?_)
      · conv => whnf
        exact rfl
      exfalso; omega
    exfalso; omega
  · rw [if_neg hc]
    conv => whnf
    refine AskC.use (mr (k + 1) (s + 1) (n + 1), ⟨1, 1, 1, false, false, false⟩) [1, 2, 4] (mr_ok hK hS hN) rfl ?_ ?_ ?_
    · repeat' (first
        | exact trivial
        | exact rfl
        | exact .inl rfl
        | exact .inr rfl
        | exact .inr ⟨rfl, rfl⟩
        | exact Nat.le_refl _
        | exact Nat.zero_le _
        | exact (fun _ _ => rfl)
        | refine And.intro ?_ ?_
        | (intro i hi; exact absurd hi (Nat.not_lt_zero i))
        | (intro i hi; have hi := Nat.lt_of_lt_of_le hi (show _ ≤ 1 from Nat.le_refl 1); obtain rfl : i = 0 := (by omega); rfl)
        | (intro i hi; have hi := Nat.lt_of_lt_of_le hi (show _ ≤ 2 from Nat.le_refl 2); rcases (show i = 0 ∨ i = 1 by omega) with rfl | rfl <;> rfl)
        | (intro i hi; have hi := Nat.lt_of_lt_of_le hi (show _ ≤ 3 from Nat.le_refl 3); rcases (show i = 0 ∨ i = 1 ∨ i = 2 by omega) with rfl | rfl | rfl <;> rfl))
    · repeat' (first
        | exact trivial
        | exact rfl
        | exact .inl rfl
        | exact .inr rfl
        | exact .inr ⟨rfl, rfl⟩
        | exact Nat.le_refl _
        | exact Nat.zero_le _
        | exact (fun _ _ => rfl)
        | refine And.intro ?_ ?_
        | (intro i hi; exact absurd hi (Nat.not_lt_zero i))
        | (intro i hi; have hi := Nat.lt_of_lt_of_le hi (show _ ≤ 1 from Nat.le_refl 1); obtain rfl : i = 0 := (by omega); rfl)
        | (intro i hi; have hi := Nat.lt_of_lt_of_le hi (show _ ≤ 2 from Nat.le_refl 2); rcases (show i = 0 ∨ i = 1 by omega) with rfl | rfl <;> rfl)
        | (intro i hi; have hi := Nat.lt_of_lt_of_le hi (show _ ≤ 3 from Nat.le_refl 3); rcases (show i = 0 ∨ i = 1 ∨ i = 2 by omega) with rfl | rfl | rfl <;> rfl))
    rw [show iv .i64 (Pu.step (mr (k + 1) (s + 1) (n + 1), (⟨1, 1, 1, false, false, false⟩ : Caps)).1) = iv .i64 38 from congrArg (iv .i64) (mr_step hK hS hN)]
    conv => whnf
    refine cD (fun g1 => ?_) (fun g1 => ?_)
    · exfalso; omega
    conv => whnf
    refine cN (fun g2 => ?_) (fun g2 => ?_)
    · conv => whnf
      refine cD (fun g3 => ?_) (fun g3 => ?_)
      · exfalso; omega
      conv => whnf
      exact rfl
    conv => whnf
    exact rfl
theorem cl_ok : ∃ cl : Cl, ClOk Try.prog cl ∧ ∀ D, OkAll pas D → cl F.law14_CheckRoom [] (xsP 0 pas D) (hsP pas D) fun x _ => x = bv true := by
  refine ⟨clRunC 6 tt outsL14 tabL 3, clRunC_ok (d := 6) ttOk outsL14_ok tabL_ok 3, fun D hD => ?_⟩
  match D, hD with
  | [d0, d1, d2], hD =>
    obtain ⟨h0, h1, h2, _⟩ := hD
    obtain ⟨a, rfl, ha⟩ := one_u8 h0
    obtain ⟨b, rfl, hb⟩ := one_u8 h1
    obtain ⟨c, rfl, hc⟩ := one_u8 h2
    exact walk a b c ha hb hc
theorem own' : ownKnob Try.prog.godebug = none := own
theorem lifted (os : Os) (started : os.Started) (H : Type) (enc : TypeId × Value → H) :
    ReturnsInHanded {} Try.checked os 14 .any (Rows.checkRoomSpec.pre6 enc Try.prog Try.f14 Rows.checkRoomRow.domain false) (Rows.checkRoomSpec.post enc Try.prog Try.f14 false true false false) := by
  refine returnsInHanded_of_change (C := Try.checked) own started (by kernel_rfl) Try.func14
    (ChangeSpec.witness6 (enc := enc) (C := Try.checked) false ⟨#[], #[.int .u8 0, .int .u8 0, .int .u8 0], []⟩ 8 (by kernel_rfl) (by kernel_rfl) (by kernel_rfl) (by kernel_rfl)) ?_
  intro W base args ds gs before hval hW _ _
  obtain ⟨cl, hc, hw⟩ := cl_ok
  exact row_of (ps := pas) (by kernel_rfl) (by kernel_rfl) rfl rfl (fun ds h => by
    match ds, h with
    | [_, _, _], _ => rfl) hval hW hc hw
theorem closed : joinedFacts Try.prog 14 Try.f14 Rows.checkRoomSpec Rows.checkRoomRow = true := by
  simp only [joinedFacts, Bool.and_eq_true]
  repeat' apply And.intro
  all_goals first
    | with_reducible exact mayEnter_ok
    | with_reducible exact laid_ok
    | with_reducible exact rowed_ok
    | ((with_reducible refine beq_r lifts_ok ?_); rfl)
    | ((with_reducible refine beq_l make_ok ?_); kernel_rfl)
    | (as_aux_lemma => kernel_rfl)
theorem named : Try.prog.funcNamed Rows.checkRoomRow.func = some 14 := by kernel_rfl
theorem inst : Try.f14.isInstance Try.prog Rows.checkRoomRow.origin Rows.checkRoomRow.targs := of_decide_eq_true (by kernel_rfl)
theorem wrap : Try.f14.isWrapper Try.prog Rows.checkRoomRow.wrapper Rows.checkRoomRow.mainSum := by
  unfold Func.isWrapper; first | (rw [if_pos (by decide +kernel)]; kernel_rfl) | (rw [if_neg (by decide +kernel)]; exact ⟨rfl, rfl⟩)
theorem over : Rows.checkRoomRow.holds Try.pinned (OpenSpec.ofChange Rows.checkRoomSpec) :=
  OpenClaim.holds_of_wide 14 Try.f14 rfl rfl rfl rfl rfl rfl rfl ⟨rfl, rfl, rfl, rfl, rfl⟩ rfl rfl rfl rfl rfl named Try.func14 closed inst wrap
    (fun os started H enc _ => lifted os started H enc)
/-- The statement. -/
theorem proved : Rows.CheckRoomSaid := over
#print axioms proved
end Go.Proofs.Ytbdifadabipfiaa.checkRoom
