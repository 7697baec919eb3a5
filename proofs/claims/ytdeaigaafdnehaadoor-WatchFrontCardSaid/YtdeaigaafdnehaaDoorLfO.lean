/- WatchFront, the statement: a trace with ones ahead shows the same, so much later; of less of it the same beginning. At every input; what is laid in the two tables of unicode/utf8 is tied to the program's text by the card. -/
import Derived.Test.YtdeaigaafdnehaaDoorLfN
import Derived.Test.YtdeaigaafdnehaaDoorLgB
namespace Go.Proofs.YtdeaigaafdnehaaDoor.watchFront
open Go Go.Eng Go.Proofs Go.Proofs.YtdeaigaafdnehaaDoor Go.Proofs.YtdeaigaafdnehaaDoor.Tb Go.Proofs.YtdeaigaafdnehaaDoor.Co Go.Proofs.YtdeaigaafdnehaaDoor.La Go.Pu
set_option maxRecDepth 100000
set_option maxHeartbeats 8000000
abbrev pas : List Pa := [.one (.c .str), .one u8, .one u16]
theorem cl_ok : ∃ cl : Cl, ClOk Tryd.prog cl ∧ ∀ m D, OkAll pas D → cl F.law26_WatchFront [] (xsP 0 pas D) (hsP pas D ++ [glE m]) fun x _ => x = bv true := by
  refine ⟨clRunX 7 tt outsF26 tabF26 2, clRunX_ok (d := 7) ttOk outsF26_ok tabF26_ok 2, fun m D hD => ?_⟩
  match D, hD with
  | [d0, d1, d2], hD =>
    obtain ⟨h0, h1, h2, _⟩ := hD
    obtain ⟨s, rfl, hs⟩ := one_str h0
    obtain ⟨a, rfl, a1, a2⟩ := one_u8 h1
    obtain ⟨b, rfl, b1, b2⟩ := one_u16 h2
    obtain ⟨a, rfl⟩ : ∃ k : Nat, a = (k : Int) := ⟨a.toNat, by omega⟩
    obtain ⟨b, rfl⟩ : ∃ k : Nat, b = (k : Int) := ⟨b.toNat, by omega⟩
    exact front26_run s a b m hs (by omega) (by omega)
theorem own' : ownKnob Tryd.prog.godebug = none := own
theorem reads (os : Os) {H : Type} (enc : TypeId × Value → H) : ∃ x, DataW.whole enc Tryd.prog ((laidWorld os).forCall (fun _ _ => 0) ⟨#[], #[.string ⟨#[]⟩, .int .u8 0, .int .u16 0], []⟩).memory Tryd.f4.params.toList Rows.watchFrontSpec.vars false (#[.string ⟨#[]⟩, .int .u8 0, .int .u16 0] : Array Value).toList 8 = some x := Option.isSome_iff_exists.1 (by kernel_rfl)
theorem lifted (os : Os) (started : os.Started) (H : Type) (enc : TypeId × Value → H) (F : Stop.Interp) :
    ReturnsInHanded {} Tryd.checked os 4 .any ((OpenSpec.ofChange Rows.watchFrontSpec).preRow enc Tryd.prog Tryd.f4 Rows.watchFrontRow.domain false Rows.watchFrontRow.laid) (((OpenSpec.ofChange Rows.watchFrontSpec).at F).post enc Tryd.prog Tryd.f4 false true false false) := by
  obtain ⟨x, hx⟩ := reads os enc
  refine returnsInHanded_of_row (C := Tryd.checked) (s := OpenSpec.ofChange Rows.watchFrontSpec) own started (by kernel_rfl) Tryd.func4
    (witness_row_at (enc := enc) (C := Tryd.checked) false (laidWorld os) #[.string ⟨#[]⟩, .int .u8 0, .int .u16 0] rfl (by kernel_rfl) (by kernel_rfl) (by kernel_rfl)
      (OpenSpec.preRow_of_cond 8 hx (by kernel_rfl) (fun k hk => by cases hk) (by kernel_rfl) (metH os _))) ?_
  intro W base args ds gs before hval hW _ _ _ _ hsh _
  obtain ⟨cl, hc, hw⟩ := cl_ok
  exact row_ofG (s := Rows.watchFrontSpec) (ps := pas) (by kernel_rfl) (by kernel_rfl) rfl rfl (fun ds h => by
    match ds, h with
    | [_, _, _], _ => rfl) hval hW hsh hc hw
theorem closed : joinedFacts Tryd.prog 4 Tryd.f4 Rows.watchFrontSpec Rows.watchFrontRow = true := by
  simp only [joinedFacts, Bool.and_eq_true]
  repeat' apply And.intro
  all_goals first
    | with_reducible exact mayEnter_ok
    | with_reducible exact laid_ok
    | with_reducible exact rowed_ok
    | ((with_reducible refine beq_r lifts_ok ?_); rfl)
    | ((with_reducible refine beq_l make_ok ?_); kernel_rfl)
    | (as_aux_lemma => kernel_rfl)
theorem named : Tryd.prog.funcNamed Rows.watchFrontRow.func = some 4 := by kernel_rfl
theorem inst : Tryd.f4.isInstance Tryd.prog Rows.watchFrontRow.origin Rows.watchFrontRow.targs := of_decide_eq_true (by kernel_rfl)
theorem wrap : Tryd.f4.isWrapper Tryd.prog Rows.watchFrontRow.wrapper Rows.watchFrontRow.mainSum := by
  unfold Func.isWrapper; first | (rw [if_pos (by decide +kernel)]; kernel_rfl) | (rw [if_neg (by decide +kernel)]; exact ⟨rfl, rfl⟩)
theorem over : Rows.WatchFrontSaid :=
  OpenClaim.holds_of_cond 4 Tryd.f4 rfl rfl rfl rfl rfl rfl rfl ⟨rfl, rfl, rfl, rfl, rfl⟩ rfl rfl rfl rfl rfl named Tryd.func4 closed inst wrap
    (fun os started H enc _ F => by rw [OpenClaim.pre_eq_preRow]; exact lifted os started H enc F)
theorem plain (f : FuncId) (fn : Func) (hf : Tryd.pinned.checked.prog.funcNamed Rows.watchFrontRow.func = some f) (hfn : Tryd.pinned.checked.prog.funcs[f]? = some fn) :
    false = Tryd.pinned.checked.prog.looks [] ∧ ∀ (j : Nat) t, fn.params[j]? = some t → Tryd.pinned.checked.prog.wantsStandIn t = false := by
  obtain rfl : f = 4 := Option.some.inj (named.symm.trans hf) |>.symm
  obtain rfl : fn = Tryd.f4 := (Option.some.inj (Tryd.func4.symm.trans hfn)).symm
  refine ⟨by kernel_rfl, fun j t ht => ?_⟩
  have hall : (Tryd.f4.params.toList.all fun u => !Tryd.prog.wantsStandIn u) = true := by kernel_rfl
  have hm : t ∈ Tryd.f4.params.toList := by simpa using Array.mem_of_getElem? ht
  exact (show Tryd.prog.wantsStandIn t = false by simpa using List.all_eq_true.1 hall t hm)
/-- The card. -/
theorem proved : Rows.WatchFrontCardSaid :=
  Claim7.holds_tied_plain_at .later [] _ _ _ _ over (fun _ h => by cases h) (by kernel_rfl) (fun _ h => by cases h) watchFront_row_tie rfl ⟨rfl, rfl⟩ (by kernel_rfl) rfl plain (by kernel_rfl)
#print axioms proved
end Go.Proofs.YtdeaigaafdnehaaDoor.watchFront
