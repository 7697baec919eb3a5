/- WatchErrors, the statement: behind an error nothing is seen until eleven ones were there; then frames are again. At every input; what is laid in the two tables of unicode/utf8 is tied to the program's text by the card. -/
import Derived.Test.YtdeaigaafdnehaaDoorLfK
import Derived.Test.YtdeaigaafdnehaaDoorLgB
namespace Go.Proofs.YtdeaigaafdnehaaDoor.watchErrors
open Go Go.Eng Go.Proofs Go.Proofs.YtdeaigaafdnehaaDoor Go.Proofs.YtdeaigaafdnehaaDoor.Tb Go.Proofs.YtdeaigaafdnehaaDoor.Co Go.Proofs.YtdeaigaafdnehaaDoor.La Go.Pu
set_option maxRecDepth 100000
set_option maxHeartbeats 8000000
abbrev pas : List Pa := [.agg [.c .bool, .c (.int .u32), .c .bool, .c .str], .one u8, .one u8]
theorem cl_ok : ∃ cl : Cl, ClOk Tryd.prog cl ∧ ∀ m D, OkAll pas D → cl F.law26_WatchErrors [] (xsP 0 pas D) (hsP pas D ++ [glE m]) fun x _ => x = bv true := by
  refine ⟨clRunX 7 tt outsE26 tabE26 2, clRunX_ok (d := 7) ttOk outsE26_ok tabE26_ok 2, fun m D hD => ?_⟩
  match D, hD with
  | [d0, d1, d2], hD =>
    obtain ⟨h0, h1, h2, _⟩ := hD
    obtain ⟨a, rfl, a1, a2⟩ := one_u8 h1
    obtain ⟨b, rfl, b1, b2⟩ := one_u8 h2
    obtain ⟨x0, _, rfl, k0, h0⟩ := two_c h0
    obtain ⟨x1, _, rfl, k1, h0⟩ := two_c h0
    obtain ⟨x2, _, rfl, k2, h0⟩ := two_c h0
    obtain ⟨x3, _, rfl, k3, h0⟩ := two_c h0
    obtain rfl := two_0 h0
    obtain ⟨e, rfl⟩ := da_bool k0
    obtain ⟨n, rfl, hn⟩ := da_u32 k1
    obtain ⟨r, rfl⟩ := da_bool k2
    obtain ⟨s, rfl, hs⟩ : ∃ s : ByteArray, x3 = .c (.string s) ∧ s.size ≤ 9223372036854775807 := by
      cases x3 with
      | c v => obtain ⟨s, rfl, g⟩ := ok_str k3; exact ⟨s, rfl, g⟩
      | s _ _ _ _ => exact k3.elim
    unfold U32 at hn
    obtain ⟨a, rfl⟩ : ∃ k : Nat, a = (k : Int) := ⟨a.toNat, by omega⟩
    obtain ⟨b, rfl⟩ : ∃ k : Nat, b = (k : Int) := ⟨b.toNat, by omega⟩
    obtain ⟨n, rfl⟩ : ∃ k : Nat, n = (k : Int) := ⟨n.toNat, by omega⟩
    exact errors26_run ⟨e, n, r, s⟩ a b m ⟨by show n < 4294967296; omega, hs⟩ (by omega)
theorem own' : ownKnob Tryd.prog.godebug = none := own
theorem reads (os : Os) {H : Type} (enc : TypeId × Value → H) : ∃ x, DataW.whole enc Tryd.prog ((laidWorld os).forCall (fun _ _ => 0) ⟨#[], #[.agg #[.bool false, .int .u32 0, .bool false, .string ⟨#[]⟩], .int .u8 0, .int .u8 0], []⟩).memory Tryd.f5.params.toList Rows.watchErrorsSpec.vars false (#[.agg #[.bool false, .int .u32 0, .bool false, .string ⟨#[]⟩], .int .u8 0, .int .u8 0] : Array Value).toList 8 = some x := Option.isSome_iff_exists.1 (by kernel_rfl)
theorem lifted (os : Os) (started : os.Started) (H : Type) (enc : TypeId × Value → H) (F : Stop.Interp) :
    ReturnsInHanded {} Tryd.checked os 5 .any ((OpenSpec.ofChange Rows.watchErrorsSpec).preRow enc Tryd.prog Tryd.f5 Rows.watchErrorsRow.domain false Rows.watchErrorsRow.laid) (((OpenSpec.ofChange Rows.watchErrorsSpec).at F).post enc Tryd.prog Tryd.f5 false true false false) := by
  obtain ⟨x, hx⟩ := reads os enc
  refine returnsInHanded_of_row (C := Tryd.checked) (s := OpenSpec.ofChange Rows.watchErrorsSpec) own started (by kernel_rfl) Tryd.func5
    (witness_row_at (enc := enc) (C := Tryd.checked) false (laidWorld os) #[.agg #[.bool false, .int .u32 0, .bool false, .string ⟨#[]⟩], .int .u8 0, .int .u8 0] rfl (by kernel_rfl) (by kernel_rfl) (by kernel_rfl)
      (OpenSpec.preRow_of_cond 8 hx (by kernel_rfl) (fun k hk => by cases hk) (by kernel_rfl) (metH os _))) ?_
  intro W base args ds gs before hval hW _ _ _ _ hsh _
  obtain ⟨cl, hc, hw⟩ := cl_ok
  exact row_ofG (s := Rows.watchErrorsSpec) (ps := pas) (by kernel_rfl) (by kernel_rfl) rfl rfl (fun ds h => by
    match ds, h with
    | [_, _, _], _ => rfl) hval hW hsh hc hw
theorem closed : joinedFacts Tryd.prog 5 Tryd.f5 Rows.watchErrorsSpec Rows.watchErrorsRow = true := by
  simp only [joinedFacts, Bool.and_eq_true]
  repeat' apply And.intro
  all_goals first
    | with_reducible exact mayEnter_ok
    | with_reducible exact laid_ok
    | with_reducible exact rowed_ok
    | ((with_reducible refine beq_r lifts_ok ?_); rfl)
    | ((with_reducible refine beq_l make_ok ?_); kernel_rfl)
    | (as_aux_lemma => kernel_rfl)
theorem named : Tryd.prog.funcNamed Rows.watchErrorsRow.func = some 5 := by kernel_rfl
theorem inst : Tryd.f5.isInstance Tryd.prog Rows.watchErrorsRow.origin Rows.watchErrorsRow.targs := of_decide_eq_true (by kernel_rfl)
theorem wrap : Tryd.f5.isWrapper Tryd.prog Rows.watchErrorsRow.wrapper Rows.watchErrorsRow.mainSum := by
  unfold Func.isWrapper; first | (rw [if_pos (by decide +kernel)]; kernel_rfl) | (rw [if_neg (by decide +kernel)]; exact ⟨rfl, rfl⟩)
theorem over : Rows.WatchErrorsSaid :=
  OpenClaim.holds_of_cond 5 Tryd.f5 rfl rfl rfl rfl rfl rfl rfl ⟨rfl, rfl, rfl, rfl, rfl⟩ rfl rfl rfl rfl rfl named Tryd.func5 closed inst wrap
    (fun os started H enc _ F => by rw [OpenClaim.pre_eq_preRow]; exact lifted os started H enc F)
theorem plain (f : FuncId) (fn : Func) (hf : Tryd.pinned.checked.prog.funcNamed Rows.watchErrorsRow.func = some f) (hfn : Tryd.pinned.checked.prog.funcs[f]? = some fn) :
    false = Tryd.pinned.checked.prog.looks [] ∧ ∀ (j : Nat) t, fn.params[j]? = some t → Tryd.pinned.checked.prog.wantsStandIn t = false := by
  obtain rfl : f = 5 := Option.some.inj (named.symm.trans hf) |>.symm
  obtain rfl : fn = Tryd.f5 := (Option.some.inj (Tryd.func5.symm.trans hfn)).symm
  refine ⟨by kernel_rfl, fun j t ht => ?_⟩
  have hall : (Tryd.f5.params.toList.all fun u => !Tryd.prog.wantsStandIn u) = true := by kernel_rfl
  have hm : t ∈ Tryd.f5.params.toList := by simpa using Array.mem_of_getElem? ht
  exact (show Tryd.prog.wantsStandIn t = false by simpa using List.all_eq_true.1 hall t hm)
/-- The card. -/
theorem proved : Rows.WatchErrorsCardSaid :=
  Claim7.holds_tied_plain_at .later [] _ _ _ _ over (fun _ h => by cases h) (by kernel_rfl) (fun _ h => by cases h) watchErrors_row_tie rfl ⟨rfl, rfl⟩ (by kernel_rfl) rfl plain (by kernel_rfl)
#print axioms proved
end Go.Proofs.YtdeaigaafdnehaaDoor.watchErrors
