/- strings.Repeat at "1" and eleven, as a contract. -/
import Derived.Test.YtdeaigaafdnehaaDoorCsA
import Derived.Test.YtdeaigaafdnehaaDoorTbA
import Derived.Test.YtdeaigaafdnehaaDoorEnI
namespace Go.Proofs.YtdeaigaafdnehaaDoor.Co
open Go Go.Eng Go.Proofs Go.Proofs.YtdeaigaafdnehaaDoor.Tb Go.RowKit
set_option maxRecDepth 100000
abbrev ones11 : ByteArray := ⟨#[49, 49, 49, 49, 49, 49, 49, 49, 49, 49, 49]⟩
abbrev repC : Con Unit := RoCon (fun _ => [sv ⟨#[49]⟩, iv .i64 11]) (fun _ => []) (fun _ => True) fun _ => sv ones11
theorem rep_use {h : Heap} {K : R → Heap → Prop} (hk : K (sv ones11) h) : AskC repC [sv ⟨#[49]⟩, iv .i64 11] h K :=
  .use () [] trivial rfl trivial ⟨.inl rfl, .inl rfl, trivial⟩ hk
theorem below_frozen {B : Nat} {w w' : World} (hb : Below B w w') {a : Addr} (h : a.block < B) : w'.frozen? a = w.frozen? a := by
  unfold World.frozen?
  rw [hb.block _ h]
/-- A library's call that turns no old block. -/
theorem grow_below {ρ : Env} {h : Heap} {w w' : World} (hr : Rel ρ h w) (hb : Below w.heap.size w w') : Rel ρ h w' ∧ Grow ρ h w ρ h w' :=
  ⟨⟨hr.fresh, fun m ob hm => (hr.obs m ob hm).keep (Sub.refl _) hb.size fun c o hc hl => hb.block c (hr.looks_lt hm hl hc), hr.inj, hr.apart⟩,
    ⟨Sub.refl _, hb.os, hb.tape, hb.output, fun a ha => below_frozen hb ha, hb.size, fun c hc _ => hb.block c hc, fun n c ho => .inl ⟨n, ho⟩⟩⟩
theorem rep_ok : ConOk Tryd.prog F.strings_Repeat repC := by
  refine ⟨⟨_, Tryd.func22, rfl, by decide⟩, fun p _ ρ w vs hr hv => ?_⟩
  obtain ⟨a, b, rfl, h1, h2⟩ : ∃ a b, vs = [a, b] ∧ a = .string ⟨#[49]⟩ ∧ b = .int .i64 11 := by
    match vs, hv with
    | [a, b], ⟨h1, h2, _⟩ => exact ⟨a, b, rfl, h1.1, h2.1⟩
  subst h1; subst h2
  refine (Tryd.strings_Repeat ⟨#[49]⟩ 11 w (by decide) (by decide)).mono fun e w' ⟨he, hb⟩ => ?_
  obtain ⟨g1, g2⟩ := grow_below hr hb
  exact ⟨_, he, sv ones11, ρ, [], ⟨rfl, rfl⟩, g1, g2, ⟨rfl, trivial⟩⟩
end Go.Proofs.YtdeaigaafdnehaaDoor.Co
