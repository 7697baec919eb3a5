/- Layer 16: what the laws know; their contracts. -/
import Derived.Test.YtbdifadabipfiaaLaO
import Derived.Test.YtbdifadabipfiaaCoQ
namespace Go.Proofs.Ytbdifadabipfiaa.La
open Go Go.Eng Go.Proofs Go.Proofs.Ytbdifadabipfiaa.Tb Go.Proofs.Ytbdifadabipfiaa.Co Go.Pu
set_option maxRecDepth 100000
set_option maxHeartbeats 8000000
abbrev outs16 : List (FuncId × Cx) := [(F.ref12_Check, AskC checkRC), (F.ref12_At, AskC at1C), (F.window_At, AskC at1C), (F.window_Owner, AskC ownerC), (F.window_Kinds, AskC kindsC), (F.window_Free, AskC freeC), (F.ref12_Is, AskC isC)]
theorem outs16_ok : OutsOk Try.prog outs16 := .cons (ask_ok checkR_ok) (.cons (ask_ok at1R_ok) (.cons (ask_ok at1_ok) (.cons (ask_ok owner_ok) (.cons (ask_ok kinds_ok) (.cons (ask_ok free_ok) (.cons (ask_ok isR_ok) .nil))))))
noncomputable abbrev tab16 : List (FuncId × Eng.Fn) := [(F.law16_known, fn.law16_known u0), (F.law16_least, fn.law16_least u0)]
theorem tab16_ok {d : Nat} : TabOk d tab16 tt := .cons (ok.law16_known u0) (.cons (ok.law16_least u0) (TabOk.nil))
def m16 : Mat := ⟨1, 2, 2, 100, 2, 64, 0, 8, 1, fun _ => 0, 1, fun _ => ⟨99, 1, false⟩, 1, fun _ => ⟨1, 40, 80, 1, 2, 0⟩⟩
theorem m16_ok : m16.Ok := by constructor <;> simp [m16, I64, U32]
theorem c16 : (chk m16).2 = 0 := by decide +kernel
theorem kS : kindsS m16 1 = strF 100 (fun u => sgn (kindAt m16 1 u)) := if_pos c16
theorem k1 : (kindsS m16 1).size = 100 := by rw [kS]; exact strF_size _ _
theorem k2 : strEq ((kindsS m16 1).extract 39 41) ⟨#[45, 69]⟩ = true := by decide +kernel
theorem a1 : at1 m16 1 40 = 0 := by decide +kernel
theorem a2 : at1 m16 1 80 = -1 := by decide +kernel
theorem a3 : at1 m16 0 40 = -1 := by decide +kernel
theorem o1 : owner1 m16 1 79 = 1 := by decide +kernel
theorem f1 : free1 m16 1 = 60 := by decide +kernel
def mZ : Mat := ⟨0, 0, 0, 0, 0, 0, 0, 0, 0, fun _ => 0, 0, fun _ => ⟨0, 0, false⟩, 0, fun _ => win0⟩
theorem mZ_ok : mZ.Ok := by constructor <;> simp [mZ, I64, U32]
theorem kZ : kindsS mZ 0 = .empty := if_neg (by decide +kernel)
theorem i64_ok {n : Int} (h : -9223372036854775808 ≤ n ∧ n ≤ 9223372036854775807) : I64 n := h
theorem known16_run : clRunX 7 tt outs16 tab16 4 F.law16_known [] [] [] (fun x _ => x = bv true) := by
  have hc : capsOk m16 ⟨1, 1, 1, false, false, false⟩ := ⟨by decide, by decide, by decide⟩
  have b1 : I64 1 := ⟨by decide, by decide⟩
  have b0 : I64 0 := ⟨by decide, by decide⟩
  obtain ⟨k, hk⟩ : ∃ k, kindsS m16 1 = k := ⟨_, rfl⟩
  have e1 := k1
  have e2 := k2
  rw [hk] at e1 e2
  repeat((conv=>whnf);first|((with_reducible refine qS ?_ ?_ ?_);exact rfl;exact rfl)|with_reducible refine qB ?_|((with_reducible refine qI ?_ ?_);omega)|((with_reducible refine qDT ?_ ?_);omega)|((with_reducible refine qDF ?_ ?_);omega)|((with_reducible refine qNT ?_ ?_);omega)|((with_reducible refine qNF ?_ ?_);omega)|((with_reducible refine qU8 ?_ ?_);omega)|((with_reducible refine qU32 ?_ ?_);omega)|((with_reducible refine qU64 ?_ ?_);omega)|((with_reducible refine qU16 ?_ ?_);omega))
  conv => whnf
  refine AskC.useV (m16, ⟨1, 1, 1, false, false, false⟩, 1) [1, 2, 3] (strR k) ⟨m16_ok, hc, b1⟩ rfl ?_ ?_ (congrArg strR hk) ?_
  · repeat'(first|exact leT_empty|exact trivial|exact rfl|exact .inl rfl|exact .inr rfl|exact .inr ⟨rfl,rfl⟩|exact Nat.le_refl _|exact Nat.zero_le _|exact fun _ _=>rfl|assumption|refine And.intro ?_ ?_|exact ul0|exact ul1 rfl|exact ul2 rfl rfl|exact ul3 rfl rfl rfl)
  · repeat'(first|exact leT_empty|exact trivial|exact rfl|exact .inl rfl|exact .inr rfl|exact .inr ⟨rfl,rfl⟩|exact Nat.le_refl _|exact Nat.zero_le _|exact fun _ _=>rfl|assumption|refine And.intro ?_ ?_|exact ul0|exact ul1 rfl|exact ul2 rfl rfl|exact ul3 rfl rfl rfl)
  repeat((conv=>whnf);first|((with_reducible refine qS ?_ ?_ ?_);exact rfl;exact rfl)|with_reducible refine qB ?_|((with_reducible refine qI ?_ ?_);omega)|((with_reducible refine qDT ?_ ?_);omega)|((with_reducible refine qDF ?_ ?_);omega)|((with_reducible refine qNT ?_ ?_);omega)|((with_reducible refine qNF ?_ ?_);omega)|((with_reducible refine qU8 ?_ ?_);omega)|((with_reducible refine qU32 ?_ ?_);omega)|((with_reducible refine qU64 ?_ ?_);omega)|((with_reducible refine qU16 ?_ ?_);omega))
  conv => whnf
  refine AskC.useV (m16, ⟨1, 1, 1, false, false, false⟩, 1, 40) [1, 2, 3] (iv .i64 (0)) ⟨m16_ok, hc, b1⟩ rfl ?_ ?_ (congrArg (iv .i64) a1) ?_
  · repeat'(first|exact leT_empty|exact trivial|exact rfl|exact .inl rfl|exact .inr rfl|exact .inr ⟨rfl,rfl⟩|exact Nat.le_refl _|exact Nat.zero_le _|exact fun _ _=>rfl|assumption|refine And.intro ?_ ?_|exact ul0|exact ul1 rfl|exact ul2 rfl rfl|exact ul3 rfl rfl rfl)
  · repeat'(first|exact leT_empty|exact trivial|exact rfl|exact .inl rfl|exact .inr rfl|exact .inr ⟨rfl,rfl⟩|exact Nat.le_refl _|exact Nat.zero_le _|exact fun _ _=>rfl|assumption|refine And.intro ?_ ?_|exact ul0|exact ul1 rfl|exact ul2 rfl rfl|exact ul3 rfl rfl rfl)
  repeat((conv=>whnf);first|((with_reducible refine qS ?_ ?_ ?_);exact rfl;exact rfl)|with_reducible refine qB ?_|((with_reducible refine qI ?_ ?_);omega)|((with_reducible refine qDT ?_ ?_);omega)|((with_reducible refine qDF ?_ ?_);omega)|((with_reducible refine qNT ?_ ?_);omega)|((with_reducible refine qNF ?_ ?_);omega)|((with_reducible refine qU8 ?_ ?_);omega)|((with_reducible refine qU32 ?_ ?_);omega)|((with_reducible refine qU64 ?_ ?_);omega)|((with_reducible refine qU16 ?_ ?_);omega))
  conv => whnf
  refine AskC.useV (m16, ⟨1, 1, 1, false, false, false⟩, 1, 80) [1, 2, 3] (iv .i64 (-1)) ⟨m16_ok, hc, b1⟩ rfl ?_ ?_ (congrArg (iv .i64) a2) ?_
  · repeat'(first|exact leT_empty|exact trivial|exact rfl|exact .inl rfl|exact .inr rfl|exact .inr ⟨rfl,rfl⟩|exact Nat.le_refl _|exact Nat.zero_le _|exact fun _ _=>rfl|assumption|refine And.intro ?_ ?_|exact ul0|exact ul1 rfl|exact ul2 rfl rfl|exact ul3 rfl rfl rfl)
  · repeat'(first|exact leT_empty|exact trivial|exact rfl|exact .inl rfl|exact .inr rfl|exact .inr ⟨rfl,rfl⟩|exact Nat.le_refl _|exact Nat.zero_le _|exact fun _ _=>rfl|assumption|refine And.intro ?_ ?_|exact ul0|exact ul1 rfl|exact ul2 rfl rfl|exact ul3 rfl rfl rfl)
  repeat((conv=>whnf);first|((with_reducible refine qS ?_ ?_ ?_);exact rfl;exact rfl)|with_reducible refine qB ?_|((with_reducible refine qI ?_ ?_);omega)|((with_reducible refine qDT ?_ ?_);omega)|((with_reducible refine qDF ?_ ?_);omega)|((with_reducible refine qNT ?_ ?_);omega)|((with_reducible refine qNF ?_ ?_);omega)|((with_reducible refine qU8 ?_ ?_);omega)|((with_reducible refine qU32 ?_ ?_);omega)|((with_reducible refine qU64 ?_ ?_);omega)|((with_reducible refine qU16 ?_ ?_);omega))
  conv => whnf
  refine AskC.useV (m16, ⟨1, 1, 1, false, false, false⟩, 0, 40) [1, 2, 3] (iv .i64 (-1)) ⟨m16_ok, hc, b0⟩ rfl ?_ ?_ (congrArg (iv .i64) a3) ?_
  · repeat'(first|exact leT_empty|exact trivial|exact rfl|exact .inl rfl|exact .inr rfl|exact .inr ⟨rfl,rfl⟩|exact Nat.le_refl _|exact Nat.zero_le _|exact fun _ _=>rfl|assumption|refine And.intro ?_ ?_|exact ul0|exact ul1 rfl|exact ul2 rfl rfl|exact ul3 rfl rfl rfl)
  · repeat'(first|exact leT_empty|exact trivial|exact rfl|exact .inl rfl|exact .inr rfl|exact .inr ⟨rfl,rfl⟩|exact Nat.le_refl _|exact Nat.zero_le _|exact fun _ _=>rfl|assumption|refine And.intro ?_ ?_|exact ul0|exact ul1 rfl|exact ul2 rfl rfl|exact ul3 rfl rfl rfl)
  repeat((conv=>whnf);first|((with_reducible refine qS ?_ ?_ ?_);exact rfl;exact rfl)|with_reducible refine qB ?_|((with_reducible refine qI ?_ ?_);omega)|((with_reducible refine qDT ?_ ?_);omega)|((with_reducible refine qDF ?_ ?_);omega)|((with_reducible refine qNT ?_ ?_);omega)|((with_reducible refine qNF ?_ ?_);omega)|((with_reducible refine qU8 ?_ ?_);omega)|((with_reducible refine qU32 ?_ ?_);omega)|((with_reducible refine qU64 ?_ ?_);omega)|((with_reducible refine qU16 ?_ ?_);omega))
  conv => whnf
  refine AskC.useV (m16, ⟨1, 1, 1, false, false, false⟩, 1, 79) [1, 2, 3] (iv .i64 (1)) ⟨m16_ok, hc, b1⟩ rfl ?_ ?_ (congrArg (iv .i64) o1) ?_
  · repeat'(first|exact leT_empty|exact trivial|exact rfl|exact .inl rfl|exact .inr rfl|exact .inr ⟨rfl,rfl⟩|exact Nat.le_refl _|exact Nat.zero_le _|exact fun _ _=>rfl|assumption|refine And.intro ?_ ?_|exact ul0|exact ul1 rfl|exact ul2 rfl rfl|exact ul3 rfl rfl rfl)
  · repeat'(first|exact leT_empty|exact trivial|exact rfl|exact .inl rfl|exact .inr rfl|exact .inr ⟨rfl,rfl⟩|exact Nat.le_refl _|exact Nat.zero_le _|exact fun _ _=>rfl|assumption|refine And.intro ?_ ?_|exact ul0|exact ul1 rfl|exact ul2 rfl rfl|exact ul3 rfl rfl rfl)
  repeat((conv=>whnf);first|((with_reducible refine qS ?_ ?_ ?_);exact rfl;exact rfl)|with_reducible refine qB ?_|((with_reducible refine qI ?_ ?_);omega)|((with_reducible refine qDT ?_ ?_);omega)|((with_reducible refine qDF ?_ ?_);omega)|((with_reducible refine qNT ?_ ?_);omega)|((with_reducible refine qNF ?_ ?_);omega)|((with_reducible refine qU8 ?_ ?_);omega)|((with_reducible refine qU32 ?_ ?_);omega)|((with_reducible refine qU64 ?_ ?_);omega)|((with_reducible refine qU16 ?_ ?_);omega))
  conv => whnf
  refine AskC.useV (m16, ⟨1, 1, 1, false, false, false⟩, 1) [1, 2, 3] (iv .i64 60) ⟨m16_ok, hc, b1⟩ rfl ?_ ?_ (congrArg (iv .i64) f1) ?_
  · repeat'(first|exact leT_empty|exact trivial|exact rfl|exact .inl rfl|exact .inr rfl|exact .inr ⟨rfl,rfl⟩|exact Nat.le_refl _|exact Nat.zero_le _|exact fun _ _=>rfl|assumption|refine And.intro ?_ ?_|exact ul0|exact ul1 rfl|exact ul2 rfl rfl|exact ul3 rfl rfl rfl)
  · repeat'(first|exact leT_empty|exact trivial|exact rfl|exact .inl rfl|exact .inr rfl|exact .inr ⟨rfl,rfl⟩|exact Nat.le_refl _|exact Nat.zero_le _|exact fun _ _=>rfl|assumption|refine And.intro ?_ ?_|exact ul0|exact ul1 rfl|exact ul2 rfl rfl|exact ul3 rfl rfl rfl)
  repeat((conv=>whnf);first|((with_reducible refine qS ?_ ?_ ?_);exact rfl;exact rfl)|with_reducible refine qB ?_|((with_reducible refine qI ?_ ?_);omega)|((with_reducible refine qDT ?_ ?_);omega)|((with_reducible refine qDF ?_ ?_);omega)|((with_reducible refine qNT ?_ ?_);omega)|((with_reducible refine qNF ?_ ?_);omega)|((with_reducible refine qU8 ?_ ?_);omega)|((with_reducible refine qU32 ?_ ?_);omega)|((with_reducible refine qU64 ?_ ?_);omega)|((with_reducible refine qU16 ?_ ?_);omega))
  conv => whnf
  rw [show strEq (k.extract (Int.toNat 39) (Int.toNat 41)) ⟨#[45, 69]⟩ = true from e2]
  repeat((conv=>whnf);first|((with_reducible refine qS ?_ ?_ ?_);exact rfl;exact rfl)|with_reducible refine qB ?_|((with_reducible refine qI ?_ ?_);omega)|((with_reducible refine qDT ?_ ?_);omega)|((with_reducible refine qDF ?_ ?_);omega)|((with_reducible refine qNT ?_ ?_);omega)|((with_reducible refine qNF ?_ ?_);omega)|((with_reducible refine qU8 ?_ ?_);omega)|((with_reducible refine qU32 ?_ ?_);omega)|((with_reducible refine qU64 ?_ ?_);omega)|((with_reducible refine qU16 ?_ ?_);omega))
  conv => whnf
  refine AskC.useV (mZ, ⟨0, 0, 0, true, true, true⟩, 0) [1, 2, 3] (strR .empty) ⟨mZ_ok, ⟨by decide, by decide, by decide⟩, b0⟩ rfl ?_ ?_ (congrArg strR kZ) ?_
  · repeat'(first|exact leT_empty|exact trivial|exact rfl|exact .inl rfl|exact .inr rfl|exact .inr ⟨rfl,rfl⟩|exact Nat.le_refl _|exact Nat.zero_le _|exact fun _ _=>rfl|assumption|refine And.intro ?_ ?_|exact ul0|exact ul1 rfl|exact ul2 rfl rfl|exact ul3 rfl rfl rfl)
  · repeat'(first|exact leT_empty|exact trivial|exact rfl|exact .inl rfl|exact .inr rfl|exact .inr ⟨rfl,rfl⟩|exact Nat.le_refl _|exact Nat.zero_le _|exact fun _ _=>rfl|assumption|refine And.intro ?_ ?_|exact ul0|exact ul1 rfl|exact ul2 rfl rfl|exact ul3 rfl rfl rfl)
  repeat((conv=>whnf);first|((with_reducible refine qS ?_ ?_ ?_);exact rfl;exact rfl)|with_reducible refine qB ?_|((with_reducible refine qI ?_ ?_);omega)|((with_reducible refine qDT ?_ ?_);omega)|((with_reducible refine qDF ?_ ?_);omega)|((with_reducible refine qNT ?_ ?_);omega)|((with_reducible refine qNF ?_ ?_);omega)|((with_reducible refine qU8 ?_ ?_);omega)|((with_reducible refine qU32 ?_ ?_);omega)|((with_reducible refine qU64 ?_ ?_);omega)|((with_reducible refine qU16 ?_ ?_);omega))
  conv => whnf
  exact rfl
theorem known16_ok : ConOk Try.prog F.law16_known trueC := con_closed (clRunX_ok (d := 7) ttOk outs16_ok tab16_ok 4) (fn_enters (ok.law16_known (D := 7) u0 _ (clRunX_ok (d := 7) ttOk .nil TabOk.nil 1))) known16_run
abbrev outsL16 : List (FuncId × Cx) := (F.law16_known, AskC trueC) :: outs16
theorem outsL16_ok : OutsOk Try.prog outsL16 := .cons (ask_ok known16_ok) outs16_ok
end Go.Proofs.Ytbdifadabipfiaa.La
