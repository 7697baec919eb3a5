/- Contracts: a trigger laid into a sorted row. -/
import Derived.Test.YtbdifadabipfiaaCoX
import Derived.Test.YtbdifadabipfiaaPuI
namespace Go.Proofs.Ytbdifadabipfiaa.Co
open Go Go.Eng Go.Proofs Go.Proofs.Ytbdifadabipfiaa.Tb Go.Pu
set_option maxRecDepth 100000
set_option maxHeartbeats 8000000
noncomputable abbrev tabLd : List (FuncId × Eng.Fn) := [(F.ref12_laid, fn.ref12_laid u0)]
theorem tabLd_ok {d : Nat} : TabOk d tabLd tt := .cons (ok.ref12_laid u0) (TabOk.nil)
theorem laid_pt (T : Nat → Trg) (n : Nat) (t : Trg) {i q : Nat} (hi : i ≤ n) (hq : q < n + 1) : (if q < ((i : Int)).toNat - 0 + 1 then (if 0 + q < ((i : Int)).toNat - 0 then trgL (T (0 + 0 + (0 + (0 + q)))) else nthD [] [trgL t] (0 + (0 + q - (((i : Int)).toNat - 0)))) else trgL (T (0 + ((i : Int)).toNat + (q - (((i : Int)).toNat - 0 + 1))))) = trgL (shF (behF T n t) n i q) := by
  unfold shF behF
  rw [Int.toNat_natCast]
  by_cases h1 : q < i
  · rw [if_pos (by omega), if_pos (by omega), if_pos h1, if_pos (by omega), show 0 + 0 + (0 + (0 + q)) = q by omega]
  · by_cases h2 : q = i
    · rw [if_pos (by omega), if_neg (by omega), if_neg h1, if_pos h2, if_neg (Nat.lt_irrefl n), show 0 + (0 + q - (i - 0)) = 0 by omega]; rfl
    · rw [if_neg (by omega), if_neg h1, if_neg h2, if_pos (by omega), if_pos (by omega), show 0 + i + (q - (i - 0 + 1)) = q - 1 by omega]
theorem laid_run (T : Nat → Trg) (n cap : Nat) (nl : Bool) (t : Trg) (hn : n ≤ 100) (hc : n ≤ cap) : clRunX 6 tt outsNo tabLd 2 F.ref12_laid [] [slT 0 n cap nl, trgT t] [rdT T n] (fun x h => Trim 1 x h fun x h => ∃ q, n + 1 ≤ q ∧ x = slT 1 (n + 1) q false ∧ h = [rdT T n, rowT (insF (behF T n t) n) (n + 1) q]) := by
  repeat((conv=>whnf);first|((with_reducible refine qS ?_ ?_ ?_);exact rfl;exact rfl)|with_reducible refine qB ?_|((with_reducible refine qI ?_ ?_);omega)|((with_reducible refine qDT ?_ ?_);omega)|((with_reducible refine qDF ?_ ?_);omega)|((with_reducible refine qNT ?_ ?_);omega)|((with_reducible refine qNF ?_ ?_);omega)|((with_reducible refine qU8 ?_ ?_);omega)|((with_reducible refine qU32 ?_ ?_);omega)|((with_reducible refine qU64 ?_ ?_);omega)|((with_reducible refine qU16 ?_ ?_);omega))
  conv => whnf
  refine .rd (fun i : Nat => i ≤ n ∧ ∀ q, q < i → (T q).at_ ≤ t.at_) (fun i => [(5, iv .i64 i)]) (fun i => n - i) 0 ⟨Nat.zero_le _, all_0⟩ ?_ (fun i ⟨hi, hp⟩ => ?_)
  · conv => whnf
    refine Le.id rfl ?_ ?_
    all_goals(repeat'(first|exact leT_empty|exact trivial|exact rfl|exact .inl rfl|exact .inr rfl|exact .inr ⟨rfl,rfl⟩|exact Nat.le_refl _|exact Nat.zero_le _|exact fun _ _=>rfl|assumption|refine And.intro ?_ ?_|exact ul0|exact ul1 rfl|exact ul2 rfl rfl|exact ul3 rfl rfl rfl))
  repeat((conv=>whnf);first|((with_reducible refine qS ?_ ?_ ?_);exact rfl;exact rfl)|with_reducible refine qB ?_|((with_reducible refine qI ?_ ?_);omega)|((with_reducible refine qDT ?_ ?_);omega)|((with_reducible refine qDF ?_ ?_);omega)|((with_reducible refine qNT ?_ ?_);omega)|((with_reducible refine qNF ?_ ?_);omega)|((with_reducible refine qU8 ?_ ?_);omega)|((with_reducible refine qU32 ?_ ?_);omega)|((with_reducible refine qU64 ?_ ?_);omega)|((with_reducible refine qU16 ?_ ?_);omega))
  conv => whnf
  have key : i = n ∨ (i < n ∧ (T i).at_ ≤ t.at_) ∨ (i < n ∧ t.at_ < (T i).at_) := by omega
  have posE : (i = n ∨ (i < n ∧ t.at_ < (T i).at_)) → insF (behF T n t) n = shF (behF T n t) n i := fun h => by
    unfold insF
    have e : behF T n t n = t := if_neg (Nat.lt_irrefl n)
    rw [posF_is (j := i) hi (fun q hq => by rw [e, show behF T n t q = T q from if_pos (by omega)]; exact hp q hq) (fun h2 => by rw [e, show behF T n t i = T i from if_pos h2]; omega)]
  refine cD (fun h5 => ?_) (fun h5 => ?_)
  · repeat((conv=>whnf);first|((with_reducible refine qS ?_ ?_ ?_);exact rfl;exact rfl)|with_reducible refine qB ?_|((with_reducible refine qI ?_ ?_);omega)|((with_reducible refine qDT ?_ ?_);omega)|((with_reducible refine qDF ?_ ?_);omega)|((with_reducible refine qNT ?_ ?_);omega)|((with_reducible refine qNF ?_ ?_);omega)|((with_reducible refine qU8 ?_ ?_);omega)|((with_reducible refine qU32 ?_ ?_);omega)|((with_reducible refine qU64 ?_ ?_);omega)|((with_reducible refine qU16 ?_ ?_);omega))
    conv => whnf
    try rw [zi i]
    refine cD (fun h6 => ?_) (fun h6 => ?_)
    · repeat((conv=>whnf);first|((with_reducible refine qS ?_ ?_ ?_);exact rfl;exact rfl)|with_reducible refine qB ?_|((with_reducible refine qI ?_ ?_);omega)|((with_reducible refine qDT ?_ ?_);omega)|((with_reducible refine qDF ?_ ?_);omega)|((with_reducible refine qNT ?_ ?_);omega)|((with_reducible refine qNF ?_ ?_);omega)|((with_reducible refine qU8 ?_ ?_);omega)|((with_reducible refine qU32 ?_ ?_);omega)|((with_reducible refine qU64 ?_ ?_);omega)|((with_reducible refine qU16 ?_ ?_);omega))
      conv => whnf
      refine ⟨i + 1, ⟨⟨by omega, all_up hp h6⟩, by omega⟩, ?_⟩
      conv => whnf
      refine Le.id rfl ?_ ?_
      all_goals(repeat'(first|exact leT_empty|exact trivial|exact rfl|exact .inl rfl|exact .inr rfl|exact .inr ⟨rfl,rfl⟩|exact Nat.le_refl _|exact Nat.zero_le _|exact fun _ _=>rfl|assumption|refine And.intro ?_ ?_|exact ul0|exact ul1 rfl|exact ul2 rfl rfl|exact ul3 rfl rfl rfl))
    repeat((conv=>whnf);first|((with_reducible refine qS ?_ ?_ ?_);exact rfl;exact rfl)|with_reducible refine qB ?_|((with_reducible refine qI ?_ ?_);omega)|((with_reducible refine qDT ?_ ?_);omega)|((with_reducible refine qDF ?_ ?_);omega)|((with_reducible refine qNT ?_ ?_);omega)|((with_reducible refine qNF ?_ ?_);omega)|((with_reducible refine qU8 ?_ ?_);omega)|((with_reducible refine qU32 ?_ ?_);omega)|((with_reducible refine qU64 ?_ ?_);omega)|((with_reducible refine qU16 ?_ ?_);omega))
    conv => whnf
    refine ⟨?_, ?_⟩
    all_goals
      repeat((conv=>whnf);first|((with_reducible refine qS ?_ ?_ ?_);exact rfl;exact rfl)|with_reducible refine qB ?_|((with_reducible refine qI ?_ ?_);omega)|((with_reducible refine qDT ?_ ?_);omega)|((with_reducible refine qDF ?_ ?_);omega)|((with_reducible refine qNT ?_ ?_);omega)|((with_reducible refine qNF ?_ ?_);omega)|((with_reducible refine qU8 ?_ ?_);omega)|((with_reducible refine qU32 ?_ ?_);omega)|((with_reducible refine qU64 ?_ ?_);omega)|((with_reducible refine qU16 ?_ ?_);omega))
      conv => whnf
      refine cT (decide_eq_true (by show i * 48 ≤ 1099511627776; omega)) ?_
      intro c1 hc1
      repeat((conv=>whnf);first|((with_reducible refine qS ?_ ?_ ?_);exact rfl;exact rfl)|with_reducible refine qB ?_|((with_reducible refine qI ?_ ?_);omega)|((with_reducible refine qDT ?_ ?_);omega)|((with_reducible refine qDF ?_ ?_);omega)|((with_reducible refine qNT ?_ ?_);omega)|((with_reducible refine qNF ?_ ?_);omega)|((with_reducible refine qU8 ?_ ?_);omega)|((with_reducible refine qU32 ?_ ?_);omega)|((with_reducible refine qU64 ?_ ?_);omega)|((with_reducible refine qU16 ?_ ?_);omega))
      conv => whnf
      refine cT (decide_eq_true (by show (i + 1) * 48 ≤ 1099511627776; omega)) ?_
      repeat((conv=>whnf);first|((with_reducible refine qS ?_ ?_ ?_);exact rfl;exact rfl)|with_reducible refine qB ?_|((with_reducible refine qI ?_ ?_);omega)|((with_reducible refine qDT ?_ ?_);omega)|((with_reducible refine qDF ?_ ?_);omega)|((with_reducible refine qNT ?_ ?_);omega)|((with_reducible refine qNF ?_ ?_);omega)|((with_reducible refine qU8 ?_ ?_);omega)|((with_reducible refine qU32 ?_ ?_);omega)|((with_reducible refine qU64 ?_ ?_);omega)|((with_reducible refine qU16 ?_ ?_);omega))
      conv => whnf
      intro c2 hc2
      repeat((conv=>whnf);first|((with_reducible refine qS ?_ ?_ ?_);exact rfl;exact rfl)|with_reducible refine qB ?_|((with_reducible refine qI ?_ ?_);omega)|((with_reducible refine qDT ?_ ?_);omega)|((with_reducible refine qDF ?_ ?_);omega)|((with_reducible refine qNT ?_ ?_);omega)|((with_reducible refine qNF ?_ ?_);omega)|((with_reducible refine qU8 ?_ ?_);omega)|((with_reducible refine qU32 ?_ ?_);omega)|((with_reducible refine qU64 ?_ ?_);omega)|((with_reducible refine qU16 ?_ ?_);omega))
      conv => whnf
      refine cT (decide_eq_true (by show (i + 1 + (n - i)) * 48 ≤ 1099511627776; omega)) ?_
      repeat((conv=>whnf);first|((with_reducible refine qS ?_ ?_ ?_);exact rfl;exact rfl)|with_reducible refine qB ?_|((with_reducible refine qI ?_ ?_);omega)|((with_reducible refine qDT ?_ ?_);omega)|((with_reducible refine qDF ?_ ?_);omega)|((with_reducible refine qNT ?_ ?_);omega)|((with_reducible refine qNF ?_ ?_);omega)|((with_reducible refine qU8 ?_ ?_);omega)|((with_reducible refine qU32 ?_ ?_);omega)|((with_reducible refine qU64 ?_ ?_);omega)|((with_reducible refine qU16 ?_ ?_);omega))
      conv => whnf
      intro c3 hc3
      repeat((conv=>whnf);first|((with_reducible refine qS ?_ ?_ ?_);exact rfl;exact rfl)|with_reducible refine qB ?_|((with_reducible refine qI ?_ ?_);omega)|((with_reducible refine qDT ?_ ?_);omega)|((with_reducible refine qDF ?_ ?_);omega)|((with_reducible refine qNT ?_ ?_);omega)|((with_reducible refine qNF ?_ ?_);omega)|((with_reducible refine qU8 ?_ ?_);omega)|((with_reducible refine qU32 ?_ ?_);omega)|((with_reducible refine qU64 ?_ ?_);omega)|((with_reducible refine qU16 ?_ ?_);omega))
      conv => whnf
      rw [show (decide (((i : Int)).toNat - 0 = 0) && decide (1 = 0) && decide (n - ((i : Int)).toNat = 0)) = false by simp, show ((i : Int)).toNat - 0 + 1 + (n - ((i : Int)).toNat) = n + 1 by omega]
      refine Trim.fam c3 (by omega) ?_
      rw [posE (.inr ⟨by omega, by omega⟩)]
      refine Le.nm [0, 5] rfl ?_ ?_
      · refine ⟨⟨.inl rfl, Nat.le_refl _, fun _ _ => rfl⟩, ⟨rfl, rfl, rfl, fun q hq => ?_⟩, trivial⟩
        exact laid_pt T n t hi hq
      · repeat'(first|exact leT_empty|exact trivial|exact rfl|exact .inl rfl|exact .inr rfl|exact .inr ⟨rfl,rfl⟩|exact Nat.le_refl _|exact Nat.zero_le _|exact fun _ _=>rfl|assumption|refine And.intro ?_ ?_|exact ul0|exact ul1 rfl|exact ul2 rfl rfl|exact ul3 rfl rfl rfl)
  obtain rfl : i = n := by omega
  repeat((conv=>whnf);first|((with_reducible refine qS ?_ ?_ ?_);exact rfl;exact rfl)|with_reducible refine qB ?_|((with_reducible refine qI ?_ ?_);omega)|((with_reducible refine qDT ?_ ?_);omega)|((with_reducible refine qDF ?_ ?_);omega)|((with_reducible refine qNT ?_ ?_);omega)|((with_reducible refine qNF ?_ ?_);omega)|((with_reducible refine qU8 ?_ ?_);omega)|((with_reducible refine qU32 ?_ ?_);omega)|((with_reducible refine qU64 ?_ ?_);omega)|((with_reducible refine qU16 ?_ ?_);omega))
  conv => whnf
  refine ⟨?_, ?_⟩
  all_goals
    repeat((conv=>whnf);first|((with_reducible refine qS ?_ ?_ ?_);exact rfl;exact rfl)|with_reducible refine qB ?_|((with_reducible refine qI ?_ ?_);omega)|((with_reducible refine qDT ?_ ?_);omega)|((with_reducible refine qDF ?_ ?_);omega)|((with_reducible refine qNT ?_ ?_);omega)|((with_reducible refine qNF ?_ ?_);omega)|((with_reducible refine qU8 ?_ ?_);omega)|((with_reducible refine qU32 ?_ ?_);omega)|((with_reducible refine qU64 ?_ ?_);omega)|((with_reducible refine qU16 ?_ ?_);omega))
    conv => whnf
    refine cT (decide_eq_true (by show i * 48 ≤ 1099511627776; omega)) ?_
    intro c1 hc1
    repeat((conv=>whnf);first|((with_reducible refine qS ?_ ?_ ?_);exact rfl;exact rfl)|with_reducible refine qB ?_|((with_reducible refine qI ?_ ?_);omega)|((with_reducible refine qDT ?_ ?_);omega)|((with_reducible refine qDF ?_ ?_);omega)|((with_reducible refine qNT ?_ ?_);omega)|((with_reducible refine qNF ?_ ?_);omega)|((with_reducible refine qU8 ?_ ?_);omega)|((with_reducible refine qU32 ?_ ?_);omega)|((with_reducible refine qU64 ?_ ?_);omega)|((with_reducible refine qU16 ?_ ?_);omega))
    conv => whnf
    refine cT (decide_eq_true (by show (i + 1) * 48 ≤ 1099511627776; omega)) ?_
    repeat((conv=>whnf);first|((with_reducible refine qS ?_ ?_ ?_);exact rfl;exact rfl)|with_reducible refine qB ?_|((with_reducible refine qI ?_ ?_);omega)|((with_reducible refine qDT ?_ ?_);omega)|((with_reducible refine qDF ?_ ?_);omega)|((with_reducible refine qNT ?_ ?_);omega)|((with_reducible refine qNF ?_ ?_);omega)|((with_reducible refine qU8 ?_ ?_);omega)|((with_reducible refine qU32 ?_ ?_);omega)|((with_reducible refine qU64 ?_ ?_);omega)|((with_reducible refine qU16 ?_ ?_);omega))
    conv => whnf
    intro c2 hc2
    repeat((conv=>whnf);first|((with_reducible refine qS ?_ ?_ ?_);exact rfl;exact rfl)|with_reducible refine qB ?_|((with_reducible refine qI ?_ ?_);omega)|((with_reducible refine qDT ?_ ?_);omega)|((with_reducible refine qDF ?_ ?_);omega)|((with_reducible refine qNT ?_ ?_);omega)|((with_reducible refine qNF ?_ ?_);omega)|((with_reducible refine qU8 ?_ ?_);omega)|((with_reducible refine qU32 ?_ ?_);omega)|((with_reducible refine qU64 ?_ ?_);omega)|((with_reducible refine qU16 ?_ ?_);omega))
    conv => whnf
    refine cT (decide_eq_true (by show (i + 1 + (i - i)) * 48 ≤ 1099511627776; omega)) ?_
    repeat((conv=>whnf);first|((with_reducible refine qS ?_ ?_ ?_);exact rfl;exact rfl)|with_reducible refine qB ?_|((with_reducible refine qI ?_ ?_);omega)|((with_reducible refine qDT ?_ ?_);omega)|((with_reducible refine qDF ?_ ?_);omega)|((with_reducible refine qNT ?_ ?_);omega)|((with_reducible refine qNF ?_ ?_);omega)|((with_reducible refine qU8 ?_ ?_);omega)|((with_reducible refine qU32 ?_ ?_);omega)|((with_reducible refine qU64 ?_ ?_);omega)|((with_reducible refine qU16 ?_ ?_);omega))
    conv => whnf
    intro c3 hc3
    repeat((conv=>whnf);first|((with_reducible refine qS ?_ ?_ ?_);exact rfl;exact rfl)|with_reducible refine qB ?_|((with_reducible refine qI ?_ ?_);omega)|((with_reducible refine qDT ?_ ?_);omega)|((with_reducible refine qDF ?_ ?_);omega)|((with_reducible refine qNT ?_ ?_);omega)|((with_reducible refine qNF ?_ ?_);omega)|((with_reducible refine qU8 ?_ ?_);omega)|((with_reducible refine qU32 ?_ ?_);omega)|((with_reducible refine qU64 ?_ ?_);omega)|((with_reducible refine qU16 ?_ ?_);omega))
    conv => whnf
    rw [show (decide (((i : Int)).toNat - 0 = 0) && decide (1 = 0) && decide (i - ((i : Int)).toNat = 0)) = false by simp, show ((i : Int)).toNat - 0 + 1 + (i - ((i : Int)).toNat) = i + 1 by omega]
    refine Trim.fam c3 (by omega) ?_
    rw [posE (.inl rfl)]
    refine Le.nm [0, 5] rfl ?_ ?_
    · refine ⟨⟨.inl rfl, Nat.le_refl _, fun _ _ => rfl⟩, ⟨rfl, rfl, rfl, fun q hq => ?_⟩, trivial⟩
      exact laid_pt T i t (Nat.le_refl _) hq
    · repeat'(first|exact leT_empty|exact trivial|exact rfl|exact .inl rfl|exact .inr rfl|exact .inr ⟨rfl,rfl⟩|exact Nat.le_refl _|exact Nat.zero_le _|exact fun _ _=>rfl|assumption|refine And.intro ?_ ?_|exact ul0|exact ul1 rfl|exact ul2 rfl rfl|exact ul3 rfl rfl rfl)
abbrev laidC : Con ((Nat → Trg) × Nat × Nat × Bool × Trg) := FamCon (β := Nat) (fun p => [slT 0 p.2.1 p.2.2.1 p.2.2.2.1, trgT p.2.2.2.2]) (fun p => [rdT p.1 p.2.1]) (fun p => p.2.1 ≤ 100 ∧ p.2.1 ≤ p.2.2.1) (fun p q => p.2.1 + 1 ≤ q) (fun p q => slT 1 (p.2.1 + 1) q false) (fun p q => [rdT p.1 p.2.1, rowT (insF (behF p.1 p.2.1 p.2.2.2.2) p.2.1) (p.2.1 + 1) q])
theorem laid_ok : ConOk Try.prog F.ref12_laid laidC := con_of_run (clRunX_ok (d := 6) ttOk outsNo_ok tabLd_ok 2) (fn_enters (ok.ref12_laid (D := 6) u0 _ (clRunX_ok (d := 6) ttOk .nil TabOk.nil 1))) fun p hp => laid_run p.1 p.2.1 p.2.2.1 p.2.2.2.1 p.2.2.2.2 hp.1 hp.2
theorem laid_ask {T : Nat → Trg} {n cap : Nat} {nl : Bool} {t : Trg} (l : List Nat) {xs : List R} {h : Heap} {K : R → Heap → Prop} (xo : Nat → R) (ho : Nat → Heap) (hn : n ≤ 100) (hc : n ≤ cap)
    (hs : (([rdT T n] : Heap).all obB && sepB l [rdT T n]) = true) (hH : leH (sig h l) h l [rdT T n]) (hX : leXs 1 (sig h l) xs [slT 0 n cap nl, trgT t])
    (hx : ∀ q, renR (back h [rdT T n] l) (slT 1 (n + 1) q false) = xo q) (hm : ∀ q, mrg (back h [rdT T n] l) h l [rdT T n] [rdT T n, rowT (insF (behF T n t) n) (n + 1) q] = ho q)
    (hk : ∀ q, n + 1 ≤ q → K (xo q) (ho q)) : AskC laidC xs h K := by
  refine ⟨(T, n, cap, nl, t), l, ⟨hn, hc⟩, hs, hH, hX, fun x h'' hq => ?_⟩
  obtain ⟨q, hq, e1, e2⟩ := hq
  have e1 : x = slT 1 (n + 1) q false := e1
  have e2 : h'' = [rdT T n, rowT (insF (behF T n t) n) (n + 1) q] := e2
  have hq : n + 1 ≤ q := hq
  subst e1; subst e2
  show K (renR (back h [rdT T n] l) _) (mrg (back h [rdT T n] l) h l [rdT T n] _)
  rw [hx, hm]
  exact hk q hq
theorem laid_at {T A : Nat → Trg} {n cap : Nat} {nl : Bool} {t : Trg} (hA : insF (behF T n t) n = A) (l : List Nat) {xs : List R} {h : Heap} {K : R → Heap → Prop} (xo : Nat → R) (ho : Nat → Heap) (hn : n ≤ 100) (hc : n ≤ cap)
    (hs : (([rdT T n] : Heap).all obB && sepB l [rdT T n]) = true) (hH : leH (sig h l) h l [rdT T n]) (hX : leXs 1 (sig h l) xs [slT 0 n cap nl, trgT t])
    (hx : ∀ q, renR (back h [rdT T n] l) (slT 1 (n + 1) q false) = xo q) (hm : ∀ q, mrg (back h [rdT T n] l) h l [rdT T n] [rdT T n, rowT A (n + 1) q] = ho q)
    (hk : ∀ q, n + 1 ≤ q → K (xo q) (ho q)) : AskC laidC xs h K := by
  subst hA
  exact laid_ask l xo ho hn hc hs hH hX hx hm hk
end Go.Proofs.Ytbdifadabipfiaa.Co
