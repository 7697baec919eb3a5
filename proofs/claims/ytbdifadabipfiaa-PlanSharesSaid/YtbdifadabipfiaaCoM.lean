/- Contracts: the greatest, the least of a row. -/
import Derived.Test.YtbdifadabipfiaaCoG
namespace Go.Proofs.Ytbdifadabipfiaa.Co
open Go Go.Eng Go.Proofs Go.Proofs.Ytbdifadabipfiaa.Tb Go.Pu
set_option maxRecDepth 100000
set_option maxHeartbeats 8000000
/-- The greatest of the first n + 1. -/
def maxN (f : Nat → Int) : Nat → Int
  | 0 => f 0
  | n + 1 => max (maxN f n) (f (n + 1))
def minN (f : Nat → Int) : Nat → Int
  | 0 => f 0
  | n + 1 => min (minN f n) (f (n + 1))
abbrev maxC : Con SlI := RoCon (fun s => [sliX s]) (fun s => sliH s) (fun s => 1 ≤ s.n ∧ s.n ≤ s.N ∧ s.N ≤ 9223372036854775807) fun s => iv .i64 (maxN s.f (s.n - 1))
abbrev minC : Con SlI := RoCon (fun s => [sliX s]) (fun s => sliH s) (fun s => 1 ≤ s.n ∧ s.n ≤ s.N ∧ s.N ≤ 9223372036854775807) fun s => iv .i64 (minN s.f (s.n - 1))
noncomputable abbrev tabMx : List (FuncId × Eng.Fn) := [(F.slices_Max_int, fn.slices_Max_int u0)]
theorem tabMx_ok {d : Nat} : TabOk d tabMx tt := .cons (ok.slices_Max_int u0) (TabOk.nil)
theorem max_run (s : SlI) (hs : 1 ≤ s.n ∧ s.n ≤ s.N ∧ s.N ≤ 9223372036854775807) : clRunX 5 tt outs0 tabMx 2 F.slices_Max_int [] [sliX s] (sliH s) (fun x h => Trim 1 x h fun x h => x = iv .i64 (maxN s.f (s.n - 1)) ∧ h = sliH s) := by
  repeat((conv=>whnf);first|((with_reducible refine qS ?_ ?_ ?_);exact rfl;exact rfl)|with_reducible refine qB ?_|((with_reducible refine qI ?_ ?_);omega)|((with_reducible refine qDT ?_ ?_);omega)|((with_reducible refine qDF ?_ ?_);omega)|((with_reducible refine qNT ?_ ?_);omega)|((with_reducible refine qNF ?_ ?_);omega)|((with_reducible refine qU8 ?_ ?_);omega)|((with_reducible refine qU32 ?_ ?_);omega)|((with_reducible refine qU64 ?_ ?_);omega)|((with_reducible refine qU16 ?_ ?_);omega))
  conv => whnf
  refine .rd (fun i : Nat => 1 ≤ i ∧ i ≤ s.n) (fun i => [(3, iv .i64 (maxN s.f (i - 1))), (4, iv .i64 i)]) (fun i => s.n - i) 1 ⟨Nat.le_refl _, hs.1⟩ ?_ (fun i ⟨hi, hi2⟩ => ?_)
  · conv=>whnf
    refine Le.id rfl ?_ ?_<;>repeat'(first|exact leT_empty|exact trivial|exact rfl|exact fun _ _=>rfl|exact .inl rfl|exact Nat.le_refl _|refine And.intro ?_ ?_)
  conv => whnf
  refine cD (fun h5 => ?_) (fun h5 => ?_)
  · obtain ⟨k, rfl⟩ : ∃ k, i = k + 1 := ⟨i - 1, by omega⟩
    repeat((conv=>whnf);first|((with_reducible refine qS ?_ ?_ ?_);exact rfl;exact rfl)|with_reducible refine qB ?_|((with_reducible refine qI ?_ ?_);omega)|((with_reducible refine qDT ?_ ?_);omega)|((with_reducible refine qDF ?_ ?_);omega)|((with_reducible refine qNT ?_ ?_);omega)|((with_reducible refine qNF ?_ ?_);omega)|((with_reducible refine qU8 ?_ ?_);omega)|((with_reducible refine qU32 ?_ ?_);omega)|((with_reducible refine qU64 ?_ ?_);omega)|((with_reducible refine qU16 ?_ ?_);omega))
    conv => whnf
    try rw [zi (k + 1)]
    refine ⟨k + 1 + 1, ⟨⟨by omega, by omega⟩, by omega⟩, ?_⟩
    conv=>whnf
    refine Le.id rfl ?_ ?_<;>repeat'(first|exact leT_empty|exact trivial|exact rfl|exact fun _ _=>rfl|exact .inl rfl|exact Nat.le_refl _|refine And.intro ?_ ?_)
  obtain rfl : i = s.n := by omega
  conv => whnf
  exact trimI rfl rfl
theorem max_ok : ConOk Try.prog F.slices_Max_int maxC := con_of_run (clRunX_ok (d := 5) ttOk outs0_ok tabMx_ok 2) (fn_enters (ok.slices_Max_int (D := 5) u0 _ (clRunX_ok (d := 5) ttOk .nil TabOk.nil 1))) fun p hp => max_run p hp
noncomputable abbrev tabMn : List (FuncId × Eng.Fn) := [(F.slices_Min_int, fn.slices_Min_int u0)]
theorem tabMn_ok {d : Nat} : TabOk d tabMn tt := .cons (ok.slices_Min_int u0) (TabOk.nil)
theorem min_run (s : SlI) (hs : 1 ≤ s.n ∧ s.n ≤ s.N ∧ s.N ≤ 9223372036854775807) : clRunX 5 tt outs0 tabMn 2 F.slices_Min_int [] [sliX s] (sliH s) (fun x h => Trim 1 x h fun x h => x = iv .i64 (minN s.f (s.n - 1)) ∧ h = sliH s) := by
  repeat((conv=>whnf);first|((with_reducible refine qS ?_ ?_ ?_);exact rfl;exact rfl)|with_reducible refine qB ?_|((with_reducible refine qI ?_ ?_);omega)|((with_reducible refine qDT ?_ ?_);omega)|((with_reducible refine qDF ?_ ?_);omega)|((with_reducible refine qNT ?_ ?_);omega)|((with_reducible refine qNF ?_ ?_);omega)|((with_reducible refine qU8 ?_ ?_);omega)|((with_reducible refine qU32 ?_ ?_);omega)|((with_reducible refine qU64 ?_ ?_);omega)|((with_reducible refine qU16 ?_ ?_);omega))
  conv => whnf
  refine .rd (fun i : Nat => 1 ≤ i ∧ i ≤ s.n) (fun i => [(3, iv .i64 (minN s.f (i - 1))), (4, iv .i64 i)]) (fun i => s.n - i) 1 ⟨Nat.le_refl _, hs.1⟩ ?_ (fun i ⟨hi, hi2⟩ => ?_)
  · conv=>whnf
    refine Le.id rfl ?_ ?_<;>repeat'(first|exact leT_empty|exact trivial|exact rfl|exact fun _ _=>rfl|exact .inl rfl|exact Nat.le_refl _|refine And.intro ?_ ?_)
  conv => whnf
  refine cD (fun h5 => ?_) (fun h5 => ?_)
  · obtain ⟨k, rfl⟩ : ∃ k, i = k + 1 := ⟨i - 1, by omega⟩
    repeat((conv=>whnf);first|((with_reducible refine qS ?_ ?_ ?_);exact rfl;exact rfl)|with_reducible refine qB ?_|((with_reducible refine qI ?_ ?_);omega)|((with_reducible refine qDT ?_ ?_);omega)|((with_reducible refine qDF ?_ ?_);omega)|((with_reducible refine qNT ?_ ?_);omega)|((with_reducible refine qNF ?_ ?_);omega)|((with_reducible refine qU8 ?_ ?_);omega)|((with_reducible refine qU32 ?_ ?_);omega)|((with_reducible refine qU64 ?_ ?_);omega)|((with_reducible refine qU16 ?_ ?_);omega))
    conv => whnf
    try rw [zi (k + 1)]
    refine ⟨k + 1 + 1, ⟨⟨by omega, by omega⟩, by omega⟩, ?_⟩
    conv=>whnf
    refine Le.id rfl ?_ ?_<;>repeat'(first|exact leT_empty|exact trivial|exact rfl|exact fun _ _=>rfl|exact .inl rfl|exact Nat.le_refl _|refine And.intro ?_ ?_)
  obtain rfl : i = s.n := by omega
  conv => whnf
  exact trimI rfl rfl
theorem min_ok : ConOk Try.prog F.slices_Min_int minC := con_of_run (clRunX_ok (d := 5) ttOk outs0_ok tabMn_ok 2) (fn_enters (ok.slices_Min_int (D := 5) u0 _ (clRunX_ok (d := 5) ttOk .nil TabOk.nil 1))) fun p hp => min_run p hp
theorem max_use {N n cap : Nat} {nl : Bool} {f : Nat → Int} {a : Nat} {h : Heap} {K : R → Heap → Prop} (hs : 1 ≤ n ∧ n ≤ N ∧ N ≤ 9223372036854775807) (hH : leH (sig h [a]) h [a] (sliH ⟨N, n, cap, nl, f⟩)) (hk : K (iv .i64 (maxN f (n - 1))) h) : AskC maxC [.t (.one (.slc a 0 1 0 n cap nl))] h K :=
  .use ⟨N, n, cap, nl, f⟩ [a] hs rfl hH ⟨.inl rfl, trivial⟩ hk
theorem min_use {N n cap : Nat} {nl : Bool} {f : Nat → Int} {a : Nat} {h : Heap} {K : R → Heap → Prop} (hs : 1 ≤ n ∧ n ≤ N ∧ N ≤ 9223372036854775807) (hH : leH (sig h [a]) h [a] (sliH ⟨N, n, cap, nl, f⟩)) (hk : K (iv .i64 (minN f (n - 1))) h) : AskC minC [.t (.one (.slc a 0 1 0 n cap nl))] h K :=
  .use ⟨N, n, cap, nl, f⟩ [a] hs rfl hH ⟨.inl rfl, trivial⟩ hk
abbrev outsMx : List (FuncId × Cx) := [(F.slices_Max_int, AskC maxC), (F.slices_Min_int, AskC minC)]
theorem outsMx_ok : OutsOk Try.prog outsMx := .cons (ask_ok max_ok) (.cons (ask_ok min_ok) .nil)
end Go.Proofs.Ytbdifadabipfiaa.Co
