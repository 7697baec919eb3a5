/- The engine, part K: contracts that leave the heap in one of a family of ways; states under other names. -/
import Derived.Test.YtdeaigaafdnehaaDoorEnI
namespace Go.Eng
open Go
section
variable {α β : Type}
def FamCon (X : α → List R) (H : α → Heap) (pre : α → Prop) (ok : α → β → Prop) (F : α → β → R) (H' : α → β → Heap) : Con α := ⟨X, H, pre, fun p x h => ∃ q, ok p q ∧ x = F p q ∧ h = H' p q⟩
theorem AskC.fam {X : α → List R} {H : α → Heap} {pre : α → Prop} {ok : α → β → Prop} {F : α → β → R} {H' : α → β → Heap} {xs : List R} {h : Heap} {K : R → Heap → Prop} (p : α) (l : List Nat) (xo : β → R) (ho : β → Heap) (hp : pre p)
    (hs : ((H p).all obB && sepB l (H p)) = true) (hH : leH (sig h l) h l (H p)) (hX : leXs (H p).length (sig h l) xs (X p)) (hx : ∀ q, renR (back h (H p) l) (F p q) = xo q)
    (hm : ∀ q, mrg (back h (H p) l) h l (H p) (H' p q) = ho q) (hk : ∀ q, ok p q → K (xo q) (ho q)) : AskC (FamCon X H pre ok F H') xs h K := by
  refine ⟨p, l, hp, hs, hH, hX, fun x h'' ⟨q, hq, e1, e2⟩ => ?_⟩
  subst e1; subst e2
  show K (renR (back h (H p) l) (F p q)) (mrg (back h (H p) l) h l (H p) (H' p q))
  rw [hx, hm]; exact hk q hq
theorem Trim.fam {n : Nat} {x : R} {h : Heap} {ok : β → Prop} {F : β → R} {H' : β → Heap} (q : β) (hq : ok q) (hle : Le (d := 0) n x h (F q) (H' q)) : Trim n x h (fun x h => ∃ q, ok q ∧ x = F q ∧ h = H' q) := ⟨⟨F q, H' q, hle, q, hq, rfl, rfl⟩⟩
end
theorem Le.nm {d n0 : Nat} {r r' : Tr d} {h h' : Heap} (l : List Nat) (hl : (firstB n0 0 l && nodupB l) = true) (hH : leH (sig h l) h l h') (hT : leT (sig h l) d r r') : Le n0 r h r' h' := ⟨⟨l, hl, hH, hT⟩⟩
end Go.Eng
