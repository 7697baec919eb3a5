/- NodeSilent, the statement: a node that is no master, and hears no beat, never drives a 0, whatever it is asked to send. At every input, no conditions. -/
import Derived.Test.YtlckbdhpehkeoaaGreatJ24
namespace Go.Proofs.YtlckbdhpehkeoaaGreat.nodeSilent
open Go Go.Eng Go.Proofs Go.Proofs.YtlckbdhpehkeoaaGreat Go.Proofs.YtlckbdhpehkeoaaGreat.Tb Go.Proofs.YtlckbdhpehkeoaaGreat.Co Go.Proofs.YtlckbdhpehkeoaaGreat.La Go.Pu
set_option maxRecDepth 100000
set_option maxHeartbeats 8000000
abbrev pas : List Pa:=[.one (.s [.str]),.one u16]
theorem cl_ok : ∃ cl : Cl,ClOk Tryz.prog cl ∧ ∀ D,OkAll pas D → cl F.law24_NodeSilent [] (xsP 0 pas D) (hsP pas D) fun x _=>x = bv true:=by
 refine ⟨clRunX 7 tt outsSl tabSl 2,clRunX_ok (d:=7) ttOk outsSl_ok tabSl_ok 2,fun D hD=>?_⟩
 match D,hD with
 | [d0,d1],hD =>
  obtain ⟨h0,h1,_⟩:=hD
  obtain ⟨n,cap,nl,V,rfl,p1,p2,hV⟩:=one_row h0
  obtain ⟨b,rfl,hb⟩:=one_u16 h1
  exact silent_run n cap nl (fun i=>valS ((V i).headD undef)) b hb (by omega)
theorem own' : ownKnob Tryz.prog.godebug = none:=own
theorem lifted (os : Os) (started : os.Started) (H : Type) (enc : TypeId × Value → H) :
    ReturnsInHanded {} Tryz.checked os 5 .any (Rows.nodeSilentSpec.pre6 enc Tryz.prog Tryz.f5 Rows.nodeSilentRow.domain false) (Rows.nodeSilentSpec.post enc Tryz.prog Tryz.f5 false true false false) := by
  refine returnsInHanded_of_change (C := Tryz.checked) own started (by kernel_rfl) Tryz.func5
    (ChangeSpec.witness6 (enc := enc) (C := Tryz.checked) false ⟨#[], #[.slice none 0 0, .int .u16 0], []⟩ 8 (by kernel_rfl) (by kernel_rfl) (by kernel_rfl) (by kernel_rfl)) ?_
  intro W base args ds gs before hval hW _ _
  obtain ⟨cl, hc, hw⟩ := cl_ok
  exact row_of (ps := pas) (by kernel_rfl) (by kernel_rfl) rfl rfl (fun ds h => by
    match ds, h with
    | [_, _], _ => rfl) hval hW hc hw
theorem closed : joinedFacts Tryz.prog 5 Tryz.f5 Rows.nodeSilentSpec Rows.nodeSilentRow = true:=by
 simp only [joinedFacts,Bool.and_eq_true]
 repeat' apply And.intro
 all_goals first
  | with_reducible exact mayEnter_ok
  | with_reducible exact laid_ok
  | with_reducible exact rowed_ok
  | ((with_reducible refine beq_r lifts_ok ?_); rfl)
  | ((with_reducible refine beq_l make_ok ?_); kernel_rfl)
  | (as_aux_lemma=>kernel_rfl)
theorem named : Tryz.prog.funcNamed Rows.nodeSilentRow.func = some 5:=by kernel_rfl
theorem inst : Tryz.f5.isInstance Tryz.prog Rows.nodeSilentRow.origin Rows.nodeSilentRow.targs:=of_decide_eq_true (by kernel_rfl)
theorem wrap : Tryz.f5.isWrapper Tryz.prog Rows.nodeSilentRow.wrapper Rows.nodeSilentRow.mainSum:=by
 unfold Func.isWrapper; first | (rw [if_pos (by decide +kernel)]; kernel_rfl) | (rw [if_neg (by decide +kernel)]; exact ⟨rfl,rfl⟩)
theorem over : Rows.nodeSilentRow.holds Tryz.pinned (OpenSpec.ofChange Rows.nodeSilentSpec) :=
 OpenClaim.holds_of_wide 5 Tryz.f5 rfl rfl rfl rfl rfl rfl rfl ⟨rfl,rfl,rfl,rfl,rfl⟩ rfl rfl rfl rfl rfl named Tryz.func5 closed inst wrap
  (fun os started H enc _=>lifted os started H enc)
theorem proved : Rows.NodeSilentSaid:=over
#print axioms proved
end Go.Proofs.YtlckbdhpehkeoaaGreat.nodeSilent
