/- Layers 19, 20: what is shared: the known rows over the counters' contracts. -/
import Derived.Test.YtbdifadabipfiaaLaM
import Derived.Test.YtbdifadabipfiaaCoO
namespace Go.Proofs.Ytbdifadabipfiaa.La
open Go Go.Eng Go.Proofs Go.Proofs.Ytbdifadabipfiaa.Tb Go.Proofs.Ytbdifadabipfiaa.Co Go.Pu
set_option maxRecDepth 100000
set_option maxHeartbeats 8000000
abbrev outs19t : List (FuncId × Cx) := (F.law19_known, AskC trueC) :: outsTb
theorem outs19t_ok : OutsOk Try.prog outs19t := .cons (ask_ok known19_ok) outsTb_ok
abbrev outs20t : List (FuncId × Cx) := (F.law20_known, AskC trueC) :: outsTb
theorem outs20t_ok : OutsOk Try.prog outs20t := .cons (ask_ok known20_ok) outsTb_ok
/-- Two tables behind what came in. -/
abbrev hTwo (x : HE) (s u : Tb) : Heap := [x, rowN s, ownN 1 s.n, rowN u, ownN 3 u.n]
/-- What came in for a row of bytes, of numbers. -/
abbrev rowB (n : Nat) (L : Nat → Int) : HE := .ob (.ro 1 n fun i => [.v (.int .u8 (L i))])
abbrev rowI (n : Nat) (L : Nat → Int) : HE := .ob (.ro 1 n fun i => [.v (.int .i64 (L i))])
abbrev rowL (n : Nat) (L : Nat → Bool) : HE := .ob (.ro 1 n fun i => [.v (.bool (L i))])
def vI (V : Nat → List Value) (i : Nat) : Int := valI ((V i).headD undef)
def vB (V : Nat → List Value) (i : Nat) : Bool := valB ((V i).headD undef)
theorem vI_u8 {n : Nat} {V : Nat → List Value} (h : ∀ i, i < n → All2 okW [.int .u8] (V i)) : ∀ i, i < n → 0 ≤ vI V i ∧ vI V i ≤ 255 := fun i hi => by
  obtain ⟨b, _, e, h1, h2⟩ := two_c (h i hi)
  obtain ⟨m, rfl, g⟩ := ok_u8 h1
  unfold vI
  rw [e]; exact g
theorem vI_i64 {n : Nat} {V : Nat → List Value} (h : ∀ i, i < n → All2 okW [.int .i64] (V i)) : ∀ i, i < n → I64 (vI V i) := fun i hi => by
  obtain ⟨b, _, e, h1, h2⟩ := two_c (h i hi)
  obtain ⟨m, rfl, g⟩ := ok_i64 h1
  unfold vI
  rw [e]; exact g
/-- One slice came in. -/
theorem one_sl {ks : List Ck} {d : List Da} (h : All2 OkDa [.s ks] d) : ∃ n cap nl V, d = [.s n cap nl V] ∧ n ≤ cap ∧ cap ≤ 9223372036854775807 ∧ ∀ i, i < n → All2 okW ks (V i) := by
  obtain ⟨_, _, rfl, h1, h2⟩ := two_c h
  obtain rfl := two_0 h2
  obtain ⟨n, cap, nl, V, rfl, g⟩ := da_sl h1
  exact ⟨n, cap, nl, V, rfl, g⟩
end Go.Proofs.Ytbdifadabipfiaa.La
