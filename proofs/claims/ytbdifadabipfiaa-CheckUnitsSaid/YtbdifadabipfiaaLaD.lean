/- CheckUnits: so many units are as long as so many bits, at least, and not two longer: true at every input; no conditions. -/
import Derived.Test.YtbdifadabipfiaaLaB
namespace Go.Proofs.Ytbdifadabipfiaa.checkUnits
open Go Go.Eng Go.Proofs Go.Proofs.Ytbdifadabipfiaa.Tb Go.Proofs.Ytbdifadabipfiaa.Co Go.Proofs.Ytbdifadabipfiaa.La Go.Pu
set_option maxRecDepth 100000
set_option maxHeartbeats 8000000
theorem units_mul (u b : Int) (h1 : 1 ≤ u) (h2 : u ≤ 64) (h3 : 0 ≤ b) (h4 : b ≤ 1000) : b * 4 ≤ (units u b - 1) * u ∧ (units u b - 1) * u ≤ 4064 ∧ (units u b - 2) * u < b * 4 ∧ -64 ≤ (units u b - 2) * u ∧ 1 ≤ units u b ∧ units u b ≤ 4002 := by
  have hq := units_q u b
  have e1 : min (max b 0) 1000 * 4 = b * 4 := by omega
  have e2 : max u 1 = u := by omega
  rw [e1, e2] at hq
  unfold units
  rw [e1, e2]
  rw [Int.tdiv_eq_ediv_of_nonneg (by omega)] at hq ⊢
  rw [Int.tmod_eq_emod_of_nonneg (by omega)]
  have d1 := Int.emod_def (b * 4) u
  have d2 := Int.emod_nonneg (b * 4) (show u ≠ 0 by omega)
  have d3 := Int.emod_lt_of_pos (b * 4) (show 0 < u by omega)
  generalize b * 4 / u = q at *
  generalize b * 4 % u = r at *
  have m1 : q * u = u * q := Int.mul_comm _ _
  generalize hp : u * q = p at *
  split
  · rw [show q + 0 + 1 - 1 = q by omega, show q + 0 + 1 - 2 = q - 1 by omega, Int.sub_mul, Int.one_mul, m1]
    omega
  · rw [show q + 1 + 1 - 1 = q + 1 by omega, show q + 1 + 1 - 2 = q by omega, Int.add_mul, Int.one_mul, m1]
    omega
noncomputable abbrev tabL : List (FuncId × Eng.Fn) := [(F.law14_CheckUnits, fn.law14_CheckUnits u0), (F.law14_least, fn.law14_least u0)]
theorem tabL_ok {d : Nat} : TabOk d tabL tt := .cons (ok.law14_CheckUnits u0) (.cons (ok.law14_least u0) (TabOk.nil))
abbrev pas : List Pa := [.one u8, .one u16]
def mu (u : Int) : Mat := { m14 with unit := u }
theorem mu_is {u : Int} (h1 : 1 ≤ u) (h2 : u ≤ 64) : (mu u).Is := by
  constructor
  · simp [headP, mu, m14, power]; omega
  · simp [sizeP, mu, m14]
  · intro i _; simp [whoP, mu, m14]
  · intro i _; simp [msgP, mu, m14]
  · intro i hi; simp [mu, m14] at hi
theorem mu_ok {u : Int} (h1 : 1 ≤ u) (h2 : u ≤ 64) : (mu u).Ok := by constructor <;> simp [mu, m14, I64, U32] <;> omega
theorem walk (a0 a1 : Int) (h0 : 0 ≤ a0 ∧ a0 ≤ 255) (h1 : 0 ≤ a1 ∧ a1 ≤ 65535) : clRunC 6 tt outsL14 tabL 3 F.law14_CheckUnits [] [iv .u8 a0, iv .u16 a1] [] (fun x _ => x = bv true) := by
  have e0 : 0 ≤ a0.tmod 64 ∧ a0.tmod 64 ≤ 63 := by rw [Int.tmod_eq_emod_of_nonneg h0.1]; omega
  have e1 : 0 ≤ a1.tmod 1001 ∧ a1.tmod 1001 ≤ 1000 := by rw [Int.tmod_eq_emod_of_nonneg h1.1]; omega
  generalize hu : a0.tmod 64 = v at e0
  generalize hb : a1.tmod 1001 = b at e1
  obtain ⟨p1, p2, p3, p4, p5, p6⟩ := units_mul (v + 1) b (by omega) (by omega) e1.1 e1.2
  have hs := step_of (mu_is (u := v + 1) (by omega) (by omega))
  have hub := units_bd (unit := v + 1) (by omega) (by omega)
  have hok := mu_ok (u := v + 1) (by omega) (by omega)
  conv => whnf
  refine true_use ?_
  conv => whnf
  try rw [hu]
  refine bI (by omega) ?_
  repeat
    conv => whnf
    first
      | refine cS rfl rfl ?_
      | refine cT (beq_self_eq_true _) ?_
      | refine bI (by omega) ?_
      | refine cDT (by omega) ?_
      | refine cDF (by omega) ?_
      | refine cNT (by omega) ?_
      | refine cNF (by omega) ?_
      | refine bU8 (by omega) ?_
      | refine bU32 (by omega) ?_
  try rw [hb]
  refine AskC.use (mu (v + 1), ⟨1, 1, 0, false, false, true⟩, b) [1, 2, 1] trivial rfl ?_ ?_ ?_
  · repeat' (first
      | exact trivial
      | exact rfl
      | exact .inl rfl
      | exact .inr rfl
      | exact .inr ⟨rfl, rfl⟩
      | exact Nat.le_refl _
      | exact Nat.zero_le _
      | exact (fun _ _ => rfl)
      | refine And.intro ?_ ?_
      | (intro i hi; exact absurd hi (Nat.not_lt_zero i))
      | (intro i hi; have hi := Nat.lt_of_lt_of_le hi (show _ ≤ 1 from Nat.le_refl 1); obtain rfl : i = 0 := (by omega); rfl)
      | (intro i hi; have hi := Nat.lt_of_lt_of_le hi (show _ ≤ 2 from Nat.le_refl 2); rcases (show i = 0 ∨ i = 1 by omega) with rfl | rfl <;> rfl)
      | (intro i hi; have hi := Nat.lt_of_lt_of_le hi (show _ ≤ 3 from Nat.le_refl 3); rcases (show i = 0 ∨ i = 1 ∨ i = 2 by omega) with rfl | rfl | rfl <;> rfl))
  · repeat' (first
      | exact trivial
      | exact rfl
      | exact .inl rfl
      | exact .inr rfl
      | exact .inr ⟨rfl, rfl⟩
      | exact Nat.le_refl _
      | exact Nat.zero_le _
      | exact (fun _ _ => rfl)
      | refine And.intro ?_ ?_
      | (intro i hi; exact absurd hi (Nat.not_lt_zero i))
      | (intro i hi; have hi := Nat.lt_of_lt_of_le hi (show _ ≤ 1 from Nat.le_refl 1); obtain rfl : i = 0 := (by omega); rfl)
      | (intro i hi; have hi := Nat.lt_of_lt_of_le hi (show _ ≤ 2 from Nat.le_refl 2); rcases (show i = 0 ∨ i = 1 by omega) with rfl | rfl <;> rfl)
      | (intro i hi; have hi := Nat.lt_of_lt_of_le hi (show _ ≤ 3 from Nat.le_refl 3); rcases (show i = 0 ∨ i = 1 ∨ i = 2 by omega) with rfl | rfl | rfl <;> rfl))
  rw [show units (mu (v + 1)).unit b = units (v + 1) b from rfl]
  repeat
    conv => whnf
    first
      | refine cS rfl rfl ?_
      | refine cT (beq_self_eq_true _) ?_
      | refine bI (by omega) ?_
      | refine cDT (by omega) ?_
      | refine cDF (by omega) ?_
      | refine cNT (by omega) ?_
      | refine cNF (by omega) ?_
      | refine bU8 (by omega) ?_
      | refine bU32 (by omega) ?_
  conv => whnf
  refine AskC.use (mu (v + 1), ⟨1, 1, 0, false, false, true⟩) [1, 2, 1] hok rfl ?_ ?_ ?_
  · repeat' (first
      | exact trivial
      | exact rfl
      | exact .inl rfl
      | exact .inr rfl
      | exact .inr ⟨rfl, rfl⟩
      | exact Nat.le_refl _
      | exact Nat.zero_le _
      | exact (fun _ _ => rfl)
      | refine And.intro ?_ ?_
      | (intro i hi; exact absurd hi (Nat.not_lt_zero i))
      | (intro i hi; have hi := Nat.lt_of_lt_of_le hi (show _ ≤ 1 from Nat.le_refl 1); obtain rfl : i = 0 := (by omega); rfl)
      | (intro i hi; have hi := Nat.lt_of_lt_of_le hi (show _ ≤ 2 from Nat.le_refl 2); rcases (show i = 0 ∨ i = 1 by omega) with rfl | rfl <;> rfl)
      | (intro i hi; have hi := Nat.lt_of_lt_of_le hi (show _ ≤ 3 from Nat.le_refl 3); rcases (show i = 0 ∨ i = 1 ∨ i = 2 by omega) with rfl | rfl | rfl <;> rfl))
  · repeat' (first
      | exact trivial
      | exact rfl
      | exact .inl rfl
      | exact .inr rfl
      | exact .inr ⟨rfl, rfl⟩
      | exact Nat.le_refl _
      | exact Nat.zero_le _
      | exact (fun _ _ => rfl)
      | refine And.intro ?_ ?_
      | (intro i hi; exact absurd hi (Nat.not_lt_zero i))
      | (intro i hi; have hi := Nat.lt_of_lt_of_le hi (show _ ≤ 1 from Nat.le_refl 1); obtain rfl : i = 0 := (by omega); rfl)
      | (intro i hi; have hi := Nat.lt_of_lt_of_le hi (show _ ≤ 2 from Nat.le_refl 2); rcases (show i = 0 ∨ i = 1 by omega) with rfl | rfl <;> rfl)
      | (intro i hi; have hi := Nat.lt_of_lt_of_le hi (show _ ≤ 3 from Nat.le_refl 3); rcases (show i = 0 ∨ i = 1 ∨ i = 2 by omega) with rfl | rfl | rfl <;> rfl))
  show _
  rw [hs]
  repeat
    conv => whnf
    first
      | refine cS rfl rfl ?_
      | refine cT (beq_self_eq_true _) ?_
      | refine bI (by omega) ?_
      | refine cDT (by omega) ?_
      | refine cDF (by omega) ?_
      | refine cNT (by omega) ?_
      | refine cNF (by omega) ?_
      | refine bU8 (by omega) ?_
      | refine bU32 (by omega) ?_
  conv => whnf
  refine AskC.use (mu (v + 1), ⟨1, 1, 0, false, false, true⟩, 140) [1, 2, 1] trivial rfl ?_ ?_ ?_
  · repeat' (first
      | exact trivial
      | exact rfl
      | exact .inl rfl
      | exact .inr rfl
      | exact .inr ⟨rfl, rfl⟩
      | exact Nat.le_refl _
      | exact Nat.zero_le _
      | exact (fun _ _ => rfl)
      | refine And.intro ?_ ?_
      | (intro i hi; exact absurd hi (Nat.not_lt_zero i))
      | (intro i hi; have hi := Nat.lt_of_lt_of_le hi (show _ ≤ 1 from Nat.le_refl 1); obtain rfl : i = 0 := (by omega); rfl)
      | (intro i hi; have hi := Nat.lt_of_lt_of_le hi (show _ ≤ 2 from Nat.le_refl 2); rcases (show i = 0 ∨ i = 1 by omega) with rfl | rfl <;> rfl)
      | (intro i hi; have hi := Nat.lt_of_lt_of_le hi (show _ ≤ 3 from Nat.le_refl 3); rcases (show i = 0 ∨ i = 1 ∨ i = 2 by omega) with rfl | rfl | rfl <;> rfl))
  · repeat' (first
      | exact trivial
      | exact rfl
      | exact .inl rfl
      | exact .inr rfl
      | exact .inr ⟨rfl, rfl⟩
      | exact Nat.le_refl _
      | exact Nat.zero_le _
      | exact (fun _ _ => rfl)
      | refine And.intro ?_ ?_
      | (intro i hi; exact absurd hi (Nat.not_lt_zero i))
      | (intro i hi; have hi := Nat.lt_of_lt_of_le hi (show _ ≤ 1 from Nat.le_refl 1); obtain rfl : i = 0 := (by omega); rfl)
      | (intro i hi; have hi := Nat.lt_of_lt_of_le hi (show _ ≤ 2 from Nat.le_refl 2); rcases (show i = 0 ∨ i = 1 by omega) with rfl | rfl <;> rfl)
      | (intro i hi; have hi := Nat.lt_of_lt_of_le hi (show _ ≤ 3 from Nat.le_refl 3); rcases (show i = 0 ∨ i = 1 ∨ i = 2 by omega) with rfl | rfl | rfl <;> rfl))
  show _
  repeat
    conv => whnf
    first
      | refine cS rfl rfl ?_
      | refine cT (beq_self_eq_true _) ?_
      | refine bI (by omega) ?_
      | refine cDT (by omega) ?_
      | refine cDF (by omega) ?_
      | refine cNT (by omega) ?_
      | refine cNF (by omega) ?_
      | refine bU8 (by omega) ?_
      | refine bU32 (by omega) ?_
  conv => whnf
  refine bI (by show -9223372036854775808 ≤ units (v + 1) 140 + 2 ∧ units (v + 1) 140 + 2 ≤ 9223372036854775807; omega) ?_
  repeat
    conv => whnf
    first
      | refine cS rfl rfl ?_
      | refine cT (beq_self_eq_true _) ?_
      | refine bI (by omega) ?_
      | refine cDT (by omega) ?_
      | refine cDF (by omega) ?_
      | refine cNT (by omega) ?_
      | refine cNF (by omega) ?_
      | refine bU8 (by omega) ?_
      | refine bU32 (by omega) ?_
  conv => whnf
  exact congrArg bv (decide_eq_true rfl)
theorem cl_ok : ∃ cl : Cl, ClOk Try.prog cl ∧ ∀ D, OkAll pas D → cl F.law14_CheckUnits [] (xsP 0 pas D) (hsP pas D) fun x _ => x = bv true := by
  refine ⟨clRunC 6 tt outsL14 tabL 3, clRunC_ok (d := 6) ttOk outsL14_ok tabL_ok 3, fun D hD => ?_⟩
  match D, hD with
  | [d0, d1], hD =>
    obtain ⟨h0, h1, _⟩ := hD
    obtain ⟨a, rfl, ha⟩ := one_u8 h0
    obtain ⟨b, rfl, hb⟩ := one_u16 h1
    exact walk a b ha hb
theorem own' : ownKnob Try.prog.godebug = none := own
theorem lifted (os : Os) (started : os.Started) (H : Type) (enc : TypeId × Value → H) :
    ReturnsInHanded {} Try.checked os 12 .any (Rows.checkUnitsSpec.pre6 enc Try.prog Try.f12 Rows.checkUnitsRow.domain false) (Rows.checkUnitsSpec.post enc Try.prog Try.f12 false true false false) := by
  refine returnsInHanded_of_change (C := Try.checked) own started (by kernel_rfl) Try.func12
    (ChangeSpec.witness6 (enc := enc) (C := Try.checked) false ⟨#[], #[.int .u8 0, .int .u16 0], []⟩ 8 (by kernel_rfl) (by kernel_rfl) (by kernel_rfl) (by kernel_rfl)) ?_
  intro W base args ds gs before hval hW _ _
  obtain ⟨cl, hc, hw⟩ := cl_ok
  exact row_of (ps := pas) (by kernel_rfl) (by kernel_rfl) rfl rfl (fun ds h => by
    match ds, h with
    | [_, _], _ => rfl) hval hW hc hw
theorem closed : joinedFacts Try.prog 12 Try.f12 Rows.checkUnitsSpec Rows.checkUnitsRow = true := by
  simp only [joinedFacts, Bool.and_eq_true]
  repeat' apply And.intro
  all_goals first
    | with_reducible exact mayEnter_ok
    | with_reducible exact laid_ok
    | with_reducible exact rowed_ok
    | ((with_reducible refine beq_r lifts_ok ?_); rfl)
    | ((with_reducible refine beq_l make_ok ?_); kernel_rfl)
    | (as_aux_lemma => kernel_rfl)
theorem named : Try.prog.funcNamed Rows.checkUnitsRow.func = some 12 := by kernel_rfl
theorem inst : Try.f12.isInstance Try.prog Rows.checkUnitsRow.origin Rows.checkUnitsRow.targs := of_decide_eq_true (by kernel_rfl)
theorem wrap : Try.f12.isWrapper Try.prog Rows.checkUnitsRow.wrapper Rows.checkUnitsRow.mainSum := by
  unfold Func.isWrapper; first | (rw [if_pos (by decide +kernel)]; kernel_rfl) | (rw [if_neg (by decide +kernel)]; exact ⟨rfl, rfl⟩)
theorem over : Rows.checkUnitsRow.holds Try.pinned (OpenSpec.ofChange Rows.checkUnitsSpec) :=
  OpenClaim.holds_of_wide 12 Try.f12 rfl rfl rfl rfl rfl rfl rfl ⟨rfl, rfl, rfl, rfl, rfl⟩ rfl rfl rfl rfl rfl named Try.func12 closed inst wrap
    (fun os started H enc _ => lifted os started H enc)
/-- The statement. -/
theorem proved : Rows.CheckUnitsSaid := over
#print axioms proved
end Go.Proofs.Ytbdifadabipfiaa.checkUnits
