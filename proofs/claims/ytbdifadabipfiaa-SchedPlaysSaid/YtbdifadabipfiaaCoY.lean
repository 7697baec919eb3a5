/- Contracts: a plan, asked where what comes back is named. -/
import Derived.Test.YtbdifadabipfiaaCoX
import Derived.Test.YtbdifadabipfiaaPuH
namespace Go.Proofs.Ytbdifadabipfiaa.Co
open Go Go.Eng Go.Proofs Go.Proofs.Ytbdifadabipfiaa.Tb Go.Pu
set_option maxRecDepth 100000
set_option maxHeartbeats 8000000
theorem plan_at2 {m : Mat} {c : Caps} {who : Int} (l : List Nat) {xs : List R} {h : Heap} {K : R → Heap → Prop} (n : Nat) (P : Nat → Trg) (xo : Nat → R) (ho : Nat → Heap) (hm : m.Ok) (hc : capsOk m c) (hw : I64 who) (h0 : (chk m).2 = 0) (hn : (rowL0 m who).length = n) (hP : planF m who = P)
    (hs : ((matH m []).all obB && sepB l (matH m [])) = true) (hH : leH (sig h l) h l (matH m [])) (hX : leXs 3 (sig h l) xs [matT m c 0 1 2, iv .i64 who])
    (hx : ∀ cap, renR (back h (matH m []) l) (slT 3 n cap false) = xo cap) (ho' : ∀ cap, mrg (back h (matH m []) l) h l (matH m []) (matH m [rowT P n cap]) = ho cap)
    (hk : ∀ cap, n ≤ cap → K (xo cap) (ho cap)) : AskC planC xs h K :=
  plan_ask l n P hm hc hw h0 hn hP hs hH hX fun cap hcap => by rw [hx, ho']; exact hk cap hcap
end Go.Proofs.Ytbdifadabipfiaa.Co
