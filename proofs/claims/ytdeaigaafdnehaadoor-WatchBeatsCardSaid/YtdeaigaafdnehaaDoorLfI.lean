/- WatchBeats, the statement: of beats and messages in a row the beats alone are told as such, with their places. At every input; what is laid in the two tables of unicode/utf8 is tied to the program's text by the card. -/
import Derived.Test.YtdeaigaafdnehaaDoorLfH
import Derived.Test.YtdeaigaafdnehaaDoorLgB
namespace Go.Proofs.YtdeaigaafdnehaaDoor.watchBeats
open Go Go.Eng Go.Proofs Go.Proofs.YtdeaigaafdnehaaDoor Go.Proofs.YtdeaigaafdnehaaDoor.Tb Go.Proofs.YtdeaigaafdnehaaDoor.Co Go.Proofs.YtdeaigaafdnehaaDoor.La Go.Pu
set_option maxRecDepth 100000
set_option maxHeartbeats 8000000
abbrev pas : List Pa := [.one (.s [.int .u8]), .one u16]
def vG (V : Nat → List Value) (i : Nat) : Int := valI ((V i).headD undef)
theorem cl_ok : ∃ cl : Cl, ClOk Tryd.prog cl ∧ ∀ D, OkAll pas D → cl F.law26_WatchBeats [] (xsP 0 pas D) (hsP pas D) fun x _ => x = bv true := by
  refine ⟨clRunX 7 tt outsB26 tabB26 3, clRunX_ok (d := 7) ttOk outsB26_ok tabB26_ok 3, fun D hD => ?_⟩
  match D, hD with
  | [d0, d1], hD =>
    obtain ⟨h0, h1, _⟩ := hD
    obtain ⟨n, cap, nl, V, rfl, p1, p2, hV⟩ := one_row h0
    obtain ⟨g, rfl, g1, g2⟩ := one_u16 h1
    have := beats26_run (fun i => (vG V i).toNat) (vG V) n cap nl g.toNat (by omega) (fun i hi => by
      obtain ⟨_, _, e, h1, _⟩ := two_c (hV i hi)
      obtain ⟨m, rfl, q1, q2⟩ := ok_u8 h1
      show vG V i = (((vG V i).toNat : Nat) : Int) ∧ (vG V i).toNat < 256
      unfold vG
      rw [e]
      show m = ((m.toNat : Nat) : Int) ∧ m.toNat < 256
      omega) (by omega)
    rw [show ((g.toNat : Nat) : Int) = g by omega] at this
    exact this
theorem own' : ownKnob Tryd.prog.godebug = none := own
theorem reads (os : Os) {H : Type} (enc : TypeId × Value → H) : ∃ x, DataW.whole enc Tryd.prog ((laidWorld os).forCall (fun _ _ => 0) ⟨#[], #[.slice none 0 0, .int .u16 0], []⟩).memory Tryd.f6.params.toList Rows.watchBeatsSpec.vars false (#[.slice none 0 0, .int .u16 0] : Array Value).toList 8 = some x := Option.isSome_iff_exists.1 (by kernel_rfl)
theorem lifted (os : Os) (started : os.Started) (H : Type) (enc : TypeId × Value → H) (F : Stop.Interp) :
    ReturnsInHanded {} Tryd.checked os 6 .any ((OpenSpec.ofChange Rows.watchBeatsSpec).preRow enc Tryd.prog Tryd.f6 Rows.watchBeatsRow.domain false Rows.watchBeatsRow.laid) (((OpenSpec.ofChange Rows.watchBeatsSpec).at F).post enc Tryd.prog Tryd.f6 false true false false) := by
  obtain ⟨x, hx⟩ := reads os enc
  refine returnsInHanded_of_row (C := Tryd.checked) (s := OpenSpec.ofChange Rows.watchBeatsSpec) own started (by kernel_rfl) Tryd.func6
    (witness_row_at (enc := enc) (C := Tryd.checked) false (laidWorld os) #[.slice none 0 0, .int .u16 0] rfl (by kernel_rfl) (by kernel_rfl) (by kernel_rfl)
      (OpenSpec.preRow_of_cond 8 hx (by kernel_rfl) (fun k hk => by cases hk) (by kernel_rfl) (metH os _))) ?_
  intro W base args ds gs before hval hW _ _ _ _ _ _
  obtain ⟨cl, hc, hw⟩ := cl_ok
  exact row_of (s := Rows.watchBeatsSpec) (ps := pas) (by kernel_rfl) (by kernel_rfl) rfl rfl (fun ds h => by
    match ds, h with
    | [_, _], _ => rfl) hval hW hc hw
theorem closed : joinedFacts Tryd.prog 6 Tryd.f6 Rows.watchBeatsSpec Rows.watchBeatsRow = true := by
  simp only [joinedFacts, Bool.and_eq_true]
  repeat' apply And.intro
  all_goals first
    | with_reducible exact mayEnter_ok
    | with_reducible exact laid_ok
    | with_reducible exact rowed_ok
    | ((with_reducible refine beq_r lifts_ok ?_); rfl)
    | ((with_reducible refine beq_l make_ok ?_); kernel_rfl)
    | (as_aux_lemma => kernel_rfl)
theorem named : Tryd.prog.funcNamed Rows.watchBeatsRow.func = some 6 := by kernel_rfl
theorem inst : Tryd.f6.isInstance Tryd.prog Rows.watchBeatsRow.origin Rows.watchBeatsRow.targs := of_decide_eq_true (by kernel_rfl)
theorem wrap : Tryd.f6.isWrapper Tryd.prog Rows.watchBeatsRow.wrapper Rows.watchBeatsRow.mainSum := by
  unfold Func.isWrapper; first | (rw [if_pos (by decide +kernel)]; kernel_rfl) | (rw [if_neg (by decide +kernel)]; exact ⟨rfl, rfl⟩)
theorem over : Rows.WatchBeatsSaid :=
  OpenClaim.holds_of_cond 6 Tryd.f6 rfl rfl rfl rfl rfl rfl rfl ⟨rfl, rfl, rfl, rfl, rfl⟩ rfl rfl rfl rfl rfl named Tryd.func6 closed inst wrap
    (fun os started H enc _ F => by rw [OpenClaim.pre_eq_preRow]; exact lifted os started H enc F)
theorem plain (f : FuncId) (fn : Func) (hf : Tryd.pinned.checked.prog.funcNamed Rows.watchBeatsRow.func = some f) (hfn : Tryd.pinned.checked.prog.funcs[f]? = some fn) :
    false = Tryd.pinned.checked.prog.looks [] ∧ ∀ (j : Nat) t, fn.params[j]? = some t → Tryd.pinned.checked.prog.wantsStandIn t = false := by
  obtain rfl : f = 6 := Option.some.inj (named.symm.trans hf) |>.symm
  obtain rfl : fn = Tryd.f6 := (Option.some.inj (Tryd.func6.symm.trans hfn)).symm
  refine ⟨by kernel_rfl, fun j t ht => ?_⟩
  have hall : (Tryd.f6.params.toList.all fun u => !Tryd.prog.wantsStandIn u) = true := by kernel_rfl
  have hm : t ∈ Tryd.f6.params.toList := by simpa using Array.mem_of_getElem? ht
  exact (show Tryd.prog.wantsStandIn t = false by simpa using List.all_eq_true.1 hall t hm)
/-- The card. -/
theorem proved : Rows.WatchBeatsCardSaid :=
  Claim7.holds_tied_plain_at .later [] _ _ _ _ over (fun _ h => by cases h) (by kernel_rfl) (fun _ h => by cases h) watchBeats_row_tie rfl ⟨rfl, rfl⟩ (by kernel_rfl) rfl plain (by kernel_rfl)
#print axioms proved
end Go.Proofs.YtdeaigaafdnehaaDoor.watchBeats
