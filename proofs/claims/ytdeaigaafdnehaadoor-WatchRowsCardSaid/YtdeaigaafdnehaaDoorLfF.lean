/- WatchRows, the statement: frames one behind the other, with ones between, are seen as they were sent. At every input; what is laid in the two tables of unicode/utf8 is tied to the program's text by the card. -/
import Derived.Test.YtdeaigaafdnehaaDoorLfE
import Derived.Test.YtdeaigaafdnehaaDoorLgB
namespace Go.Proofs.YtdeaigaafdnehaaDoor.watchRows
open Go Go.Eng Go.Proofs Go.Proofs.YtdeaigaafdnehaaDoor Go.Proofs.YtdeaigaafdnehaaDoor.Tb Go.Proofs.YtdeaigaafdnehaaDoor.Co Go.Proofs.YtdeaigaafdnehaaDoor.La Go.Pu
set_option maxRecDepth 100000
set_option maxHeartbeats 8000000
abbrev frmCk : List Ck := [.bool, .int .u32, .bool, .str]
abbrev pas : List Pa := [.one (.s frmCk), .one (.s [.int .u8])]
def vA (V : Nat → List Value) (i : Nat) : Frm := ⟨valB ((V i).headD undef), (valI ((V i).tail.headD undef)).toNat, valB ((V i).tail.tail.headD undef), valS ((V i).tail.tail.tail.headD undef)⟩
def vN (V : Nat → List Value) (i : Nat) : Int := valI ((V i).tail.headD undef)
theorem vA_ok {n : Nat} {V : Nat → List Value} (h : ∀ i, i < n → All2 okW frmCk (V i)) : (∀ i, i < n → vN V i = ((vA V i).id : Int)) ∧ ∀ i, i < n → FIn (vA V i) := by
  have key : ∀ i, i < n → vN V i = ((vA V i).id : Int) ∧ FIn (vA V i) := fun i hi => by
    obtain ⟨_, _, e, h1, h⟩ := two_c (h i hi)
    obtain ⟨_, rfl⟩ := ok_bool h1
    obtain ⟨_, _, e1, h1, h⟩ := two_c h
    obtain ⟨m, rfl, g⟩ := ok_u32 h1
    obtain ⟨_, _, e2, h1, h⟩ := two_c h
    obtain ⟨_, rfl⟩ := ok_bool h1
    obtain ⟨_, _, e3, h1, h⟩ := two_c h
    obtain ⟨s, rfl, hs⟩ := ok_str h1
    subst e3; subst e2; subst e1
    unfold U32 at g
    unfold vN vA
    rw [e]
    refine ⟨?_, ?_⟩
    · show m = ((m.toNat : Nat) : Int)
      omega
    · exact ⟨by show m.toNat < 4294967296; omega, hs⟩
  exact ⟨fun i hi => (key i hi).1, fun i hi => (key i hi).2⟩
def vG (V : Nat → List Value) (i : Nat) : Int := valI ((V i).headD undef)
theorem cl_ok : ∃ cl : Cl, ClOk Tryd.prog cl ∧ ∀ D, OkAll pas D → cl F.law26_WatchRows [] (xsP 0 pas D) (hsP pas D) fun x _ => x = bv true := by
  refine ⟨clRunX 7 tt outsR26 tabR26 2, clRunX_ok (d := 7) ttOk outsR26_ok tabR26_ok 2, fun D hD => ?_⟩
  match D, hD with
  | [d0, d1], hD =>
    obtain ⟨h0, h1, _⟩ := hD
    obtain ⟨n, cap, nl, V, rfl, p1, p2, hV⟩ := one_row h0
    obtain ⟨k, cap2, nl2, V2, rfl, q1, q2, hV2⟩ := one_row h1
    exact rows26_run (vA V) (vN V) n cap nl (fun i => (vG V2 i).toNat) (vG V2) k cap2 nl2 (by omega) (by omega) (vA_ok hV).1 (vA_ok hV).2 (fun i hi => by
      obtain ⟨_, _, e, h1, _⟩ := two_c (hV2 i hi)
      obtain ⟨m, rfl, g⟩ := ok_u8 h1
      show vG V2 i = (((vG V2 i).toNat : Nat) : Int)
      unfold vG
      rw [e]
      show m = ((m.toNat : Nat) : Int)
      omega)
theorem own' : ownKnob Tryd.prog.godebug = none := own
theorem reads (os : Os) {H : Type} (enc : TypeId × Value → H) : ∃ x, DataW.whole enc Tryd.prog ((laidWorld os).forCall (fun _ _ => 0) ⟨#[], #[.slice none 0 0, .slice none 0 0], []⟩).memory Tryd.f3.params.toList Rows.watchRowsSpec.vars false (#[.slice none 0 0, .slice none 0 0] : Array Value).toList 8 = some x := Option.isSome_iff_exists.1 (by kernel_rfl)
theorem lifted (os : Os) (started : os.Started) (H : Type) (enc : TypeId × Value → H) (F : Stop.Interp) :
    ReturnsInHanded {} Tryd.checked os 3 .any ((OpenSpec.ofChange Rows.watchRowsSpec).preRow enc Tryd.prog Tryd.f3 Rows.watchRowsRow.domain false Rows.watchRowsRow.laid) (((OpenSpec.ofChange Rows.watchRowsSpec).at F).post enc Tryd.prog Tryd.f3 false true false false) := by
  obtain ⟨x, hx⟩ := reads os enc
  refine returnsInHanded_of_row (C := Tryd.checked) (s := OpenSpec.ofChange Rows.watchRowsSpec) own started (by kernel_rfl) Tryd.func3
    (witness_row_at (enc := enc) (C := Tryd.checked) false (laidWorld os) #[.slice none 0 0, .slice none 0 0] rfl (by kernel_rfl) (by kernel_rfl) (by kernel_rfl)
      (OpenSpec.preRow_of_cond 8 hx (by kernel_rfl) (fun k hk => by cases hk) (by kernel_rfl) (metH os _))) ?_
  intro W base args ds gs before hval hW _ _ _ _ _ _
  obtain ⟨cl, hc, hw⟩ := cl_ok
  exact row_of (s := Rows.watchRowsSpec) (ps := pas) (by kernel_rfl) (by kernel_rfl) rfl rfl (fun ds h => by
    match ds, h with
    | [_, _], _ => rfl) hval hW hc hw
theorem closed : joinedFacts Tryd.prog 3 Tryd.f3 Rows.watchRowsSpec Rows.watchRowsRow = true := by
  simp only [joinedFacts, Bool.and_eq_true]
  repeat' apply And.intro
  all_goals first
    | with_reducible exact mayEnter_ok
    | with_reducible exact laid_ok
    | with_reducible exact rowed_ok
    | ((with_reducible refine beq_r lifts_ok ?_); rfl)
    | ((with_reducible refine beq_l make_ok ?_); kernel_rfl)
    | (as_aux_lemma => kernel_rfl)
theorem named : Tryd.prog.funcNamed Rows.watchRowsRow.func = some 3 := by kernel_rfl
theorem inst : Tryd.f3.isInstance Tryd.prog Rows.watchRowsRow.origin Rows.watchRowsRow.targs := of_decide_eq_true (by kernel_rfl)
theorem wrap : Tryd.f3.isWrapper Tryd.prog Rows.watchRowsRow.wrapper Rows.watchRowsRow.mainSum := by
  unfold Func.isWrapper; first | (rw [if_pos (by decide +kernel)]; kernel_rfl) | (rw [if_neg (by decide +kernel)]; exact ⟨rfl, rfl⟩)
theorem over : Rows.WatchRowsSaid :=
  OpenClaim.holds_of_cond 3 Tryd.f3 rfl rfl rfl rfl rfl rfl rfl ⟨rfl, rfl, rfl, rfl, rfl⟩ rfl rfl rfl rfl rfl named Tryd.func3 closed inst wrap
    (fun os started H enc _ F => by rw [OpenClaim.pre_eq_preRow]; exact lifted os started H enc F)
theorem plain (f : FuncId) (fn : Func) (hf : Tryd.pinned.checked.prog.funcNamed Rows.watchRowsRow.func = some f) (hfn : Tryd.pinned.checked.prog.funcs[f]? = some fn) :
    false = Tryd.pinned.checked.prog.looks [] ∧ ∀ (j : Nat) t, fn.params[j]? = some t → Tryd.pinned.checked.prog.wantsStandIn t = false := by
  obtain rfl : f = 3 := Option.some.inj (named.symm.trans hf) |>.symm
  obtain rfl : fn = Tryd.f3 := (Option.some.inj (Tryd.func3.symm.trans hfn)).symm
  refine ⟨by kernel_rfl, fun j t ht => ?_⟩
  have hall : (Tryd.f3.params.toList.all fun u => !Tryd.prog.wantsStandIn u) = true := by kernel_rfl
  have hm : t ∈ Tryd.f3.params.toList := by simpa using Array.mem_of_getElem? ht
  exact (show Tryd.prog.wantsStandIn t = false by simpa using List.all_eq_true.1 hall t hm)
/-- The card. -/
theorem proved : Rows.WatchRowsCardSaid :=
  Claim7.holds_tied_plain_at .later [] _ _ _ _ over (fun _ h => by cases h) (by kernel_rfl) (fun _ h => by cases h) watchRows_row_tie rfl ⟨rfl, rfl⟩ (by kernel_rfl) rfl plain (by kernel_rfl)
#print axioms proved
end Go.Proofs.YtdeaigaafdnehaaDoor.watchRows
