/- CheckTells: of every matrix the first error, and where; which windows meet; how many units so many bits are: true at every input; no conditions. -/
import Derived.Test.YtbdifadabipfiaaLaB
namespace Go.Proofs.Ytbdifadabipfiaa.checkTells
open Go Go.Eng Go.Proofs Go.Proofs.Ytbdifadabipfiaa.Tb Go.Proofs.Ytbdifadabipfiaa.Co Go.Proofs.Ytbdifadabipfiaa.La Go.Pu
set_option maxRecDepth 100000
set_option maxHeartbeats 8000000
noncomputable abbrev tabL : List (FuncId × Eng.Fn) := [(F.law14_CheckTells, fn.law14_CheckTells u0), (F.law14_few, fn.law14_few u0)]
theorem tabL_ok {d : Nat} : TabOk d tabL tt := .cons (ok.law14_CheckTells u0) (.cons (ok.law14_few u0) (TabOk.nil))
abbrev pas : List Pa := [.agg matSh, .one i64, .one i64, .one i64]
theorem walk (m : Mat) (c : Caps) (a b n : Int) (hm : m.Ok) (hc : capsOk m c) : clRunC 6 tt outsL14 tabL 3 F.law14_CheckTells [] [matT m c 0 1 2, iv .i64 a, iv .i64 b, iv .i64 n] (matH m []) (fun x _ => x = bv true) := by
  conv => whnf
  refine true_use ?_
  conv => whnf
  refine cD (fun h1 => ?_) (fun h1 => ?_)
  rotate_left
  · conv => whnf
    exact rfl
  conv => whnf
  refine cD (fun h2 => ?_) (fun h2 => ?_)
  rotate_left
  · conv => whnf
    exact rfl
  conv => whnf
  refine cN (fun h3 => ?_) (fun h3 => ?_)
  · conv => whnf
    exact rfl
  conv => whnf
  refine check_use (m := m) (c := c) hm hc ?_
  conv => whnf
  refine checkR_use (m := m) (c := c) hm ?_
  repeat
    conv => whnf
    first
      | refine cS rfl rfl ?_
      | refine cT (beq_self_eq_true _) ?_
      | refine bI (by omega) ?_
      | refine cDT (by omega) ?_
      | refine cDF (by omega) ?_
      | refine cNT (by omega) ?_
      | refine cNF (by omega) ?_
      | refine bU8 (by omega) ?_
      | refine bU32 (by omega) ?_
  conv => whnf
  refine meet_use (m := m) (c := c) hm ?_
  repeat
    conv => whnf
    first
      | refine cS rfl rfl ?_
      | refine cT (beq_self_eq_true _) ?_
      | refine bI (by omega) ?_
      | refine cDT (by omega) ?_
      | refine cDF (by omega) ?_
      | refine cNT (by omega) ?_
      | refine cNF (by omega) ?_
      | refine bU8 (by omega) ?_
      | refine bU32 (by omega) ?_
  conv => whnf
  refine meet_use (m := m) (c := c) hm ?_
  repeat
    conv => whnf
    first
      | refine cS rfl rfl ?_
      | refine cT (beq_self_eq_true _) ?_
      | refine bI (by omega) ?_
      | refine cDT (by omega) ?_
      | refine cDF (by omega) ?_
      | refine cNT (by omega) ?_
      | refine cNF (by omega) ?_
      | refine bU8 (by omega) ?_
      | refine bU32 (by omega) ?_
  conv => whnf
  refine units_use (m := m) (c := c) ?_
  repeat
    conv => whnf
    first
      | refine cS rfl rfl ?_
      | refine cT (beq_self_eq_true _) ?_
      | refine bI (by omega) ?_
      | refine cDT (by omega) ?_
      | refine cDF (by omega) ?_
      | refine cNT (by omega) ?_
      | refine cNF (by omega) ?_
      | refine bU8 (by omega) ?_
      | refine bU32 (by omega) ?_
  conv => whnf
  refine units_use (m := m) (c := c) ?_
  repeat
    conv => whnf
    first
      | refine cS rfl rfl ?_
      | refine cT (beq_self_eq_true _) ?_
      | refine bI (by omega) ?_
      | refine cDT (by omega) ?_
      | refine cDF (by omega) ?_
      | refine cNT (by omega) ?_
      | refine cNF (by omega) ?_
      | refine bU8 (by omega) ?_
      | refine bU32 (by omega) ?_
  conv => whnf
  refine step_use (m := m) (c := c) hm ?_
  repeat
    conv => whnf
    first
      | refine cS rfl rfl ?_
      | refine cT (beq_self_eq_true _) ?_
      | refine bI (by omega) ?_
      | refine cDT (by omega) ?_
      | refine cDF (by omega) ?_
      | refine cNT (by omega) ?_
      | refine cNF (by omega) ?_
      | refine bU8 (by omega) ?_
      | refine bU32 (by omega) ?_
  conv => whnf
  refine step_use (m := m) (c := c) hm ?_
  repeat
    conv => whnf
    first
      | refine cS rfl rfl ?_
      | refine cT (beq_self_eq_true _) ?_
      | refine bI (by omega) ?_
      | refine cDT (by omega) ?_
      | refine cDF (by omega) ?_
      | refine cNT (by omega) ?_
      | refine cNF (by omega) ?_
      | refine bU8 (by omega) ?_
      | refine bU32 (by omega) ?_
  conv => whnf
  exact congrArg bv (decide_eq_true rfl)
theorem cl_ok : ∃ cl : Cl, ClOk Try.prog cl ∧ ∀ D, OkAll pas D → cl 9 [] (xsP 0 pas D) (hsP pas D) fun x _ => x = bv true := by
  refine ⟨clRunC 6 tt outsL14 tabL 3, clRunC_ok (d := 6) ttOk outsL14_ok tabL_ok 3, fun D hD => ?_⟩
  match D, hD with
  | [d0, d1, d2, d3], hD =>
    obtain ⟨h0, h1, h2, h3, _⟩ := hD
    obtain ⟨m, c, hm, hc, e0, e1⟩ := open_mat h0
    obtain ⟨a, rfl, _⟩ := one_i64 h1
    obtain ⟨b, rfl, _⟩ := one_i64 h2
    obtain ⟨n, rfl, _⟩ := one_i64 h3
    have hw := walk m c a b n hm hc
    show clRunC 6 tt outsL14 tabL 3 9 [] (xP 0 (.agg matSh) d0 :: _) (hs matSh d0 ++ _) _
    rw [e0, e1]
    exact hw
theorem own' : ownKnob Try.prog.godebug = none := own
theorem lifted (os : Os) (started : os.Started) (H : Type) (enc : TypeId × Value → H) :
    ReturnsInHanded {} Try.checked os 9 .any (Rows.checkTellsSpec.pre6 enc Try.prog Try.f9 Rows.checkTellsRow.domain false) (Rows.checkTellsSpec.post enc Try.prog Try.f9 false true false false) := by
  refine returnsInHanded_of_change (C := Try.checked) own started (by kernel_rfl) Try.func9
    (ChangeSpec.witness6 (enc := enc) (C := Try.checked) false ⟨#[], #[.agg #[.int .i64 0, .int .i64 0, .int .i64 0, .int .i64 0, .int .i64 0, .int .i64 0, .int .i64 0, .int .u32 0, .slice none 0 0, .slice none 0 0, .slice none 0 0], .int .i64 0, .int .i64 0, .int .i64 0], []⟩ 8 (by kernel_rfl) (by kernel_rfl) (by kernel_rfl) (by kernel_rfl)) ?_
  intro W base args ds gs before hval hW _ _
  obtain ⟨cl, hc, hw⟩ := cl_ok
  exact row_of (ps := pas) (by kernel_rfl) (by kernel_rfl) rfl rfl (fun ds h => by
    match ds, h with
    | [_, _, _, _], _ => rfl) hval hW hc hw
theorem closed : joinedFacts Try.prog 9 Try.f9 Rows.checkTellsSpec Rows.checkTellsRow = true := by
  simp only [joinedFacts, Bool.and_eq_true]
  repeat' apply And.intro
  all_goals first
    | with_reducible exact mayEnter_ok
    | with_reducible exact laid_ok
    | with_reducible exact rowed_ok
    | ((with_reducible refine beq_r lifts_ok ?_); rfl)
    | ((with_reducible refine beq_l make_ok ?_); kernel_rfl)
    | (as_aux_lemma => kernel_rfl)
theorem named : Try.prog.funcNamed Rows.checkTellsRow.func = some 9 := by kernel_rfl
theorem inst : Try.f9.isInstance Try.prog Rows.checkTellsRow.origin Rows.checkTellsRow.targs := of_decide_eq_true (by kernel_rfl)
theorem wrap : Try.f9.isWrapper Try.prog Rows.checkTellsRow.wrapper Rows.checkTellsRow.mainSum := by
  unfold Func.isWrapper; first | (rw [if_pos (by decide +kernel)]; kernel_rfl) | (rw [if_neg (by decide +kernel)]; exact ⟨rfl, rfl⟩)
theorem over : Rows.checkTellsRow.holds Try.pinned (OpenSpec.ofChange Rows.checkTellsSpec) :=
  OpenClaim.holds_of_wide 9 Try.f9 rfl rfl rfl rfl rfl rfl rfl ⟨rfl, rfl, rfl, rfl, rfl⟩ rfl rfl rfl rfl rfl named Try.func9 closed inst wrap
    (fun os started H enc _ => lifted os started H enc)
/-- The statement. -/
theorem proved : Rows.CheckTellsSaid := over
#print axioms proved
end Go.Proofs.Ytbdifadabipfiaa.checkTells
