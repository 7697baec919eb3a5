/- The engine, part I: contracts that change the heap, one way. -/
import Derived.Test.YtdeaigaafdnehaaDoorEnH
namespace Go.Eng
open Go
theorem tn (n : Nat) : ((n : Nat) : Int).toNat = n := rfl
section
variable {α : Type}
/-- It hands back F, and leaves the heap as H'. -/
def DetCon (X : α → List R) (H : α → Heap) (pre : α → Prop) (F : α → R) (H' : α → Heap) : Con α := ⟨X, H, pre, fun p x h => x = F p ∧ h = H' p⟩
theorem AskC.det {X : α → List R} {H : α → Heap} {pre : α → Prop} {F : α → R} {H' : α → Heap} {xs : List R} {h : Heap} {K : R → Heap → Prop} (p : α) (l : List Nat) (xo : R) (ho : Heap) (hp : pre p)
    (hs : ((H p).all obB && sepB l (H p)) = true) (hH : leH (sig h l) h l (H p)) (hX : leXs (H p).length (sig h l) xs (X p)) (hx : renR (back h (H p) l) (F p) = xo)
    (hm : mrg (back h (H p) l) h l (H p) (H' p) = ho) (hk : K xo ho) : AskC (DetCon X H pre F H') xs h K := by
  refine ⟨p, l, hp, hs, hH, hX, fun x h'' ⟨e1, e2⟩ => ?_⟩
  subst e1; subst e2
  show K (renR (back h (H p) l) (F p)) (mrg (back h (H p) l) h l (H p) (H' p))
  rw [hx, hm]; exact hk
/-- The end of such a run. -/
theorem Trim.det {n : Nat} {x y : R} {h h' : Heap} (hle : Le (d := 0) n x h y h') : Trim n x h (fun x h => x = y ∧ h = h') := ⟨⟨y, h', hle, rfl, rfl⟩⟩
end
end Go.Eng
