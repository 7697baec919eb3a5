/- strings.Index, as a contract: the variable that it reads is named in the heap. -/
import Derived.Test.YtdeaigaafdnehaaDoorCsC
import Derived.Test.YtdeaigaafdnehaaDoorCsB
namespace Go.Proofs.YtdeaigaafdnehaaDoor.Co
open Go Go.Eng Go.Proofs Go.Proofs.YtdeaigaafdnehaaDoor.Tb Go.RowKit
set_option maxRecDepth 100000
abbrev glE (m : Int) : HE := .ob (.raw (.gl G.maxLen (.int .i64 m)))
theorem gl_cell {ρ : Env} {h : Heap} {w : World} {n b : Nat} {v : Value} (hr : Rel ρ h w) (hn : h[n]? = some (.ob (.raw (.gl b v)))) : w.cell? ⟨b, 0, none⟩ = some v := by
  obtain ⟨c, o, _, h2, ⟨arr, E, fz, rfl, h5⟩, h4⟩ := hr.obs n _ hn
  have h4 : c = b := h4
  subst h4
  unfold World.cell?
  simp only [h2]
  exact h5
abbrev idxC : Con (ByteArray × ByteArray × Int) := RoCon (fun p => [sv p.1, sv p.2.1]) (fun p => [glE p.2.2]) (fun p => p.1.size < 4294967281) fun p => iv .i64 (Lib.index p.1.data.toList p.2.1.data.toList)
theorem idx_ok : ConOk Tryd.prog F.strings_Index idxC := by
  refine ⟨⟨_, Tryd.func21, rfl, by decide⟩, fun p hp ρ w vs hr hv => ?_⟩
  obtain ⟨s, sub, m⟩ := p
  obtain ⟨a, b, rfl, h1, h2⟩ : ∃ a b, vs = [a, b] ∧ a = .string s ∧ b = .string sub := by
    match vs, hv with
    | [a, b], ⟨h1, h2, _⟩ => exact ⟨a, b, rfl, h1.1, h2.1⟩
  subst h1; subst h2
  refine (Tryd.strings_Index s sub m w hp (gl_cell hr (n := 0) rfl)).mono fun e w' ⟨he, hb⟩ => ?_
  subst hb
  exact ⟨_, he, iv .i64 (Lib.index s.data.toList sub.data.toList), ρ, [glE m], ⟨rfl, rfl⟩, hr, Grow.refl _ _ _, ⟨rfl, trivial⟩⟩
end Go.Proofs.YtdeaigaafdnehaaDoor.Co
