/- Contracts: counters. -/
import Derived.Test.YtbdifadabipfiaaCoM
import Derived.Test.YtbdifadabipfiaaEnJ
namespace Go.Proofs.Ytbdifadabipfiaa.Co
open Go Go.Eng Go.Proofs Go.Proofs.Ytbdifadabipfiaa.Tb Go.Pu
set_option maxRecDepth 100000
set_option maxHeartbeats 8000000
/-- Counters: how many, what they are. -/
structure Tb where
  n : Nat
  f : Nat → Int
def Tb.Ok (t : Tb) : Prop := t.n ≤ 12 ∧ ∀ q, q < t.n → 0 ≤ t.f q ∧ t.f q ≤ 7
def rowN (t : Tb) : HE := .ob (.row 1 t.n (fun q => [iC (t.f q)]) t.n)
def ownN (a n : Nat) : HE := .ob (.own [.c (.slc a 0 1 0 n n false)])
abbrev tabH (t : Tb) : Heap := [rowN t, ownN 0 t.n]
def chg (t : Tb) (msg by_ : Int) : Tb := ⟨t.n, fun q => if (q : Int) = msg then min (max (t.f q + by_) 0) 7 else t.f q⟩
theorem chg_ok {t : Tb} (h : t.Ok) (msg by_ : Int) : (chg t msg by_).Ok := ⟨h.1, fun q hq => by
  have := h.2 q hq
  simp only [chg]
  split <;> omega⟩
abbrev unitR : R := .tup []
abbrev changeC : Con (Tb × Int × Int) := DetCon (fun p => [.t (.one (.ptr 1 0)), iv .i64 p.2.1, iv .i64 p.2.2]) (fun p => tabH p.1) (fun p => p.1.Ok ∧ -10 ≤ p.2.2 ∧ p.2.2 ≤ 10) (fun _ => unitR) fun p => tabH (chg p.1 p.2.1 p.2.2)
noncomputable abbrev tabSCh : List (FuncId × Eng.Fn) := [(F.status_Table_change, fn.status_Table_change u0)]
theorem tabSCh_ok {d : Nat} : TabOk d tabSCh tt := .cons (ok.status_Table_change u0) (TabOk.nil)
theorem change_run (t : Tb) (msg b : Int) (ht : t.Ok) (hb : -10 ≤ b ∧ b ≤ 10) : clRunX 6 tt outs0 tabSCh 2 F.status_Table_change [] [.t (.one (.ptr 1 0)), iv .i64 msg, iv .i64 b] (tabH t) (fun x h => Trim 2 x h fun x h => x = unitR ∧ h = tabH (chg t msg b)) := by
  obtain ⟨hn, hf⟩ := ht
  have no : ¬ (0 ≤ msg ∧ msg < t.n) → Le (d := 0) 2 unitR (tabH t) unitR (tabH (chg t msg b)) := fun h1 => by
    refine Le.id rfl ?_ ?_
    · refine ⟨⟨rfl, rfl, rfl, fun q hq => ?_⟩, ⟨rfl, trivial⟩, trivial⟩
      show [iC (t.f q)] = [iC (if (q : Int) = msg then _ else _)]
      rw [if_neg (by have hq : q < t.n := hq; omega)]
    · rfl
  conv => whnf
  refine cD (fun h1 => ?_) (fun h1 => ?_)
  rotate_left
  · conv => whnf
    exact Trim.det (no (by omega))
  conv => whnf
  refine cD (fun h2 => ?_) (fun h2 => ?_)
  rotate_left
  · conv => whnf
    exact Trim.det (no (by omega))
  obtain ⟨k, rfl⟩ : ∃ k : Nat, msg = k := ⟨msg.toNat, by omega⟩
  have h3 := hf k (by omega)
  repeat((conv=>whnf);first|((with_reducible refine qS ?_ ?_ ?_);exact rfl;exact rfl)|with_reducible refine qB ?_|((with_reducible refine qI ?_ ?_);omega)|((with_reducible refine qDT ?_ ?_);omega)|((with_reducible refine qDF ?_ ?_);omega)|((with_reducible refine qNT ?_ ?_);omega)|((with_reducible refine qNF ?_ ?_);omega)|((with_reducible refine qU8 ?_ ?_);omega)|((with_reducible refine qU32 ?_ ?_);omega)|((with_reducible refine qU64 ?_ ?_);omega)|((with_reducible refine qU16 ?_ ?_);omega))
  conv => whnf
  try rw [zi k]
  repeat((conv=>whnf);first|((with_reducible refine qS ?_ ?_ ?_);exact rfl;exact rfl)|with_reducible refine qB ?_|((with_reducible refine qI ?_ ?_);omega)|((with_reducible refine qDT ?_ ?_);omega)|((with_reducible refine qDF ?_ ?_);omega)|((with_reducible refine qNT ?_ ?_);omega)|((with_reducible refine qNF ?_ ?_);omega)|((with_reducible refine qU8 ?_ ?_);omega)|((with_reducible refine qU32 ?_ ?_);omega)|((with_reducible refine qU64 ?_ ?_);omega)|((with_reducible refine qU16 ?_ ?_);omega))
  conv => whnf
  refine Trim.det ?_
  refine Le.id rfl ?_ ?_
  · refine ⟨⟨rfl, rfl, rfl, fun q hq => ?_⟩, ⟨rfl, trivial⟩, trivial⟩
    show (if q = 0 + (k : Int).toNat then _ else _) = [iC (if (q : Int) = (k : Int) then _ else _)]
    rw [zi k]
    by_cases e : q = k
    · subst e; rw [if_pos rfl, if_pos rfl]
    · rw [if_neg e, if_neg (by omega)]
  · rfl
theorem change_ok : ConOk Try.prog F.status_Table_change changeC := con_of_run (clRunX_ok (d := 6) ttOk outs0_ok tabSCh_ok 2) (fn_enters (ok.status_Table_change (D := 6) u0 _ (clRunX_ok (d := 6) ttOk .nil TabOk.nil 1))) fun p hp => change_run p.1 p.2.1 p.2.2 hp.1 hp.2
theorem mm (x : Int) : max 0 (min x 7) = min (max x 0) 7 := by omega
noncomputable abbrev tabSAd : List (FuncId × Eng.Fn) := [(F.ref18_Table_Add, fn.ref18_Table_Add u0)]
theorem tabSAd_ok {d : Nat} : TabOk d tabSAd tt := .cons (ok.ref18_Table_Add u0) (TabOk.nil)
theorem add_run (t : Tb) (msg b : Int) (ht : t.Ok) (hb : -10 ≤ b ∧ b ≤ 10) : clRunX 6 tt outs0 tabSAd 2 F.ref18_Table_Add [] [.t (.one (.ptr 1 0)), iv .i64 msg, iv .i64 b] (tabH t) (fun x h => Trim 2 x h fun x h => x = unitR ∧ h = tabH (chg t msg b)) := by
  obtain ⟨hn, hf⟩ := ht
  have no : ¬ (0 ≤ msg ∧ msg < t.n) → Le (d := 0) 2 unitR (tabH t) unitR (tabH (chg t msg b)) := fun h1 => by
    refine Le.id rfl ?_ ?_
    · refine ⟨⟨rfl, rfl, rfl, fun q hq => ?_⟩, ⟨rfl, trivial⟩, trivial⟩
      show [iC (t.f q)] = [iC (if (q : Int) = msg then _ else _)]
      rw [if_neg (by have hq : q < t.n := hq; omega)]
    · rfl
  conv => whnf
  refine cD (fun h1 => ?_) (fun h1 => ?_)
  rotate_left
  · conv => whnf
    exact Trim.det (no (by omega))
  conv => whnf
  refine cD (fun h2 => ?_) (fun h2 => ?_)
  rotate_left
  · conv => whnf
    exact Trim.det (no (by omega))
  obtain ⟨k, rfl⟩ : ∃ k : Nat, msg = k := ⟨msg.toNat, by omega⟩
  have h3 := hf k (by omega)
  repeat((conv=>whnf);first|((with_reducible refine qS ?_ ?_ ?_);exact rfl;exact rfl)|with_reducible refine qB ?_|((with_reducible refine qI ?_ ?_);omega)|((with_reducible refine qDT ?_ ?_);omega)|((with_reducible refine qDF ?_ ?_);omega)|((with_reducible refine qNT ?_ ?_);omega)|((with_reducible refine qNF ?_ ?_);omega)|((with_reducible refine qU8 ?_ ?_);omega)|((with_reducible refine qU32 ?_ ?_);omega)|((with_reducible refine qU64 ?_ ?_);omega)|((with_reducible refine qU16 ?_ ?_);omega))
  conv => whnf
  try rw [zi k]
  repeat((conv=>whnf);first|((with_reducible refine qS ?_ ?_ ?_);exact rfl;exact rfl)|with_reducible refine qB ?_|((with_reducible refine qI ?_ ?_);omega)|((with_reducible refine qDT ?_ ?_);omega)|((with_reducible refine qDF ?_ ?_);omega)|((with_reducible refine qNT ?_ ?_);omega)|((with_reducible refine qNF ?_ ?_);omega)|((with_reducible refine qU8 ?_ ?_);omega)|((with_reducible refine qU32 ?_ ?_);omega)|((with_reducible refine qU64 ?_ ?_);omega)|((with_reducible refine qU16 ?_ ?_);omega))
  conv => whnf
  refine Trim.det ?_
  refine Le.id rfl ?_ ?_
  · refine ⟨⟨rfl, rfl, rfl, fun q hq => ?_⟩, ⟨rfl, trivial⟩, trivial⟩
    show (if q = 0 + (k : Int).toNat then [iC (max 0 (min (t.f k + b) 7))] else _) = [iC (if (q : Int) = (k : Int) then _ else _)]
    rw [zi k, mm]
    by_cases e : q = k
    · subst e; rw [if_pos rfl, if_pos rfl]
    · rw [if_neg e, if_neg (by omega)]
  · rfl
theorem add_ok : ConOk Try.prog F.ref18_Table_Add changeC := con_of_run (clRunX_ok (d := 6) ttOk outs0_ok tabSAd_ok 2) (fn_enters (ok.ref18_Table_Add (D := 6) u0 _ (clRunX_ok (d := 6) ttOk .nil TabOk.nil 1))) fun p hp => add_run p.1 p.2.1 p.2.2 hp.1 hp.2
/-! ### Get -/
def getN (t : Tb) (msg : Int) : Int := if 0 ≤ msg ∧ msg < t.n then t.f msg.toNat else 0
abbrev getC : Con (Tb × Int) := DetCon (fun p => [.t (.one (.ptr 1 0)), iv .i64 p.2]) (fun p => tabH p.1) (fun p => p.1.Ok) (fun p => iv .i64 (getN p.1 p.2)) fun p => tabH p.1
noncomputable abbrev tabSGt : List (FuncId × Eng.Fn) := [(F.status_Table_Get, fn.status_Table_Get u0)]
theorem tabSGt_ok {d : Nat} : TabOk d tabSGt tt := .cons (ok.status_Table_Get u0) (TabOk.nil)
noncomputable abbrev tabSGr : List (FuncId × Eng.Fn) := [(F.ref18_Table_Get, fn.ref18_Table_Get u0)]
theorem tabSGr_ok {d : Nat} : TabOk d tabSGr tt := .cons (ok.ref18_Table_Get u0) (TabOk.nil)
theorem get_run (t : Tb) (msg : Int) (ht : t.Ok) : clRunX 5 tt outs0 tabSGt 2 F.status_Table_Get [] [.t (.one (.ptr 1 0)), iv .i64 msg] (tabH t) (fun x h => Trim 2 x h fun x h => x = iv .i64 (getN t msg) ∧ h = tabH t) := by
  obtain ⟨hn, hf⟩ := ht
  conv => whnf
  refine cD (fun h1 => ?_) (fun h1 => ?_)
  · conv => whnf
    rw [show getN t msg = 0 from if_neg (by omega)]
    refine Trim.det ?_
    conv => whnf
    refine Le.id rfl ?_ ?_
    all_goals(repeat'(first|exact leT_empty|exact trivial|exact rfl|exact .inl rfl|exact .inr rfl|exact .inr ⟨rfl,rfl⟩|exact Nat.le_refl _|exact Nat.zero_le _|exact fun _ _=>rfl|assumption|refine And.intro ?_ ?_|exact ul0|exact ul1 rfl|exact ul2 rfl rfl|exact ul3 rfl rfl rfl))
  conv => whnf
  refine cD (fun h2 => ?_) (fun h2 => ?_)
  · conv => whnf
    rw [show getN t msg = 0 from if_neg (by omega)]
    refine Trim.det ?_
    conv => whnf
    refine Le.id rfl ?_ ?_
    all_goals(repeat'(first|exact leT_empty|exact trivial|exact rfl|exact .inl rfl|exact .inr rfl|exact .inr ⟨rfl,rfl⟩|exact Nat.le_refl _|exact Nat.zero_le _|exact fun _ _=>rfl|assumption|refine And.intro ?_ ?_|exact ul0|exact ul1 rfl|exact ul2 rfl rfl|exact ul3 rfl rfl rfl))
  repeat((conv=>whnf);first|((with_reducible refine qS ?_ ?_ ?_);exact rfl;exact rfl)|with_reducible refine qB ?_|((with_reducible refine qI ?_ ?_);omega)|((with_reducible refine qDT ?_ ?_);omega)|((with_reducible refine qDF ?_ ?_);omega)|((with_reducible refine qNT ?_ ?_);omega)|((with_reducible refine qNF ?_ ?_);omega)|((with_reducible refine qU8 ?_ ?_);omega)|((with_reducible refine qU32 ?_ ?_);omega)|((with_reducible refine qU64 ?_ ?_);omega)|((with_reducible refine qU16 ?_ ?_);omega))
  conv => whnf
  rw [show getN t msg = t.f msg.toNat from if_pos (by omega)]
  try rw [za]
  refine Trim.det ?_
  conv => whnf
  refine Le.id rfl ?_ ?_
  all_goals(repeat'(first|exact leT_empty|exact trivial|exact rfl|exact .inl rfl|exact .inr rfl|exact .inr ⟨rfl,rfl⟩|exact Nat.le_refl _|exact Nat.zero_le _|exact fun _ _=>rfl|assumption|refine And.intro ?_ ?_|exact ul0|exact ul1 rfl|exact ul2 rfl rfl|exact ul3 rfl rfl rfl))
theorem getR_run (t : Tb) (msg : Int) (ht : t.Ok) : clRunX 5 tt outs0 tabSGr 2 F.ref18_Table_Get [] [.t (.one (.ptr 1 0)), iv .i64 msg] (tabH t) (fun x h => Trim 2 x h fun x h => x = iv .i64 (getN t msg) ∧ h = tabH t) := by
  obtain ⟨hn, hf⟩ := ht
  conv => whnf
  refine cD (fun h1 => ?_) (fun h1 => ?_)
  · conv => whnf
    rw [show getN t msg = 0 from if_neg (by omega)]
    refine Trim.det ?_
    conv => whnf
    refine Le.id rfl ?_ ?_
    all_goals(repeat'(first|exact leT_empty|exact trivial|exact rfl|exact .inl rfl|exact .inr rfl|exact .inr ⟨rfl,rfl⟩|exact Nat.le_refl _|exact Nat.zero_le _|exact fun _ _=>rfl|assumption|refine And.intro ?_ ?_|exact ul0|exact ul1 rfl|exact ul2 rfl rfl|exact ul3 rfl rfl rfl))
  conv => whnf
  refine cD (fun h2 => ?_) (fun h2 => ?_)
  · conv => whnf
    rw [show getN t msg = 0 from if_neg (by omega)]
    refine Trim.det ?_
    conv => whnf
    refine Le.id rfl ?_ ?_
    all_goals(repeat'(first|exact leT_empty|exact trivial|exact rfl|exact .inl rfl|exact .inr rfl|exact .inr ⟨rfl,rfl⟩|exact Nat.le_refl _|exact Nat.zero_le _|exact fun _ _=>rfl|assumption|refine And.intro ?_ ?_|exact ul0|exact ul1 rfl|exact ul2 rfl rfl|exact ul3 rfl rfl rfl))
  repeat((conv=>whnf);first|((with_reducible refine qS ?_ ?_ ?_);exact rfl;exact rfl)|with_reducible refine qB ?_|((with_reducible refine qI ?_ ?_);omega)|((with_reducible refine qDT ?_ ?_);omega)|((with_reducible refine qDF ?_ ?_);omega)|((with_reducible refine qNT ?_ ?_);omega)|((with_reducible refine qNF ?_ ?_);omega)|((with_reducible refine qU8 ?_ ?_);omega)|((with_reducible refine qU32 ?_ ?_);omega)|((with_reducible refine qU64 ?_ ?_);omega)|((with_reducible refine qU16 ?_ ?_);omega))
  conv => whnf
  rw [show getN t msg = t.f msg.toNat from if_pos (by omega)]
  try rw [za]
  refine Trim.det ?_
  conv => whnf
  refine Le.id rfl ?_ ?_
  all_goals(repeat'(first|exact leT_empty|exact trivial|exact rfl|exact .inl rfl|exact .inr rfl|exact .inr ⟨rfl,rfl⟩|exact Nat.le_refl _|exact Nat.zero_le _|exact fun _ _=>rfl|assumption|refine And.intro ?_ ?_|exact ul0|exact ul1 rfl|exact ul2 rfl rfl|exact ul3 rfl rfl rfl))
theorem get_ok : ConOk Try.prog F.status_Table_Get getC := con_of_run (clRunX_ok (d := 5) ttOk outs0_ok tabSGt_ok 2) (fn_enters (ok.status_Table_Get (D := 5) u0 _ (clRunX_ok (d := 5) ttOk .nil TabOk.nil 1))) fun p hp => get_run p.1 p.2 hp
theorem getR_ok : ConOk Try.prog F.ref18_Table_Get getC := con_of_run (clRunX_ok (d := 5) ttOk outs0_ok tabSGr_ok 2) (fn_enters (ok.ref18_Table_Get (D := 5) u0 _ (clRunX_ok (d := 5) ttOk .nil TabOk.nil 1))) fun p hp => getR_run p.1 p.2 hp
/-! ### Spread -/
def spreadN (t : Tb) : Int := if t.n = 0 then 0 else maxN t.f (t.n - 1) - minN t.f (t.n - 1)
def topN (t : Tb) : Int := if t.n = 0 then 0 else maxN t.f (t.n - 1)
theorem maxN_bd {f : Nat → Int} : ∀ {n : Nat}, (∀ q, q ≤ n → 0 ≤ f q ∧ f q ≤ 7) → 0 ≤ maxN f n ∧ maxN f n ≤ 7
  | 0, h => h 0 (Nat.le_refl _)
  | n + 1, h => by
    have h1 := maxN_bd (n := n) fun q hq => h q (by omega)
    have h2 := h (n + 1) (Nat.le_refl _)
    simp only [maxN]; omega
theorem minN_bd {f : Nat → Int} : ∀ {n : Nat}, (∀ q, q ≤ n → 0 ≤ f q ∧ f q ≤ 7) → 0 ≤ minN f n ∧ minN f n ≤ 7
  | 0, h => h 0 (Nat.le_refl _)
  | n + 1, h => by
    have h1 := minN_bd (n := n) fun q hq => h q (by omega)
    have h2 := h (n + 1) (Nat.le_refl _)
    simp only [minN]; omega
abbrev spreadC : Con Tb := DetCon (fun _ => [.t (.one (.ptr 1 0))]) (fun p => tabH p) (fun p => p.Ok) (fun p => iv .i64 (spreadN p)) fun p => tabH p
noncomputable abbrev tabSSp : List (FuncId × Eng.Fn) := [(F.status_Table_Spread, fn.status_Table_Spread u0)]
theorem tabSSp_ok {d : Nat} : TabOk d tabSSp tt := .cons (ok.status_Table_Spread u0) (TabOk.nil)
theorem spread_run (t : Tb) (ht : t.Ok) : clRunX 5 tt outsMx tabSSp 2 F.status_Table_Spread [] [.t (.one (.ptr 1 0))] (tabH t) (fun x h => Trim 2 x h fun x h => x = iv .i64 (spreadN t) ∧ h = tabH t) := by
  obtain ⟨hn, hf⟩ := ht
  conv => whnf
  refine cD (fun h1 => ?_) (fun h1 => ?_)
  · conv => whnf
    rw [show spreadN t = 0 from if_pos (by omega)]
    refine Trim.det ?_
    conv => whnf
    refine Le.id rfl ?_ ?_
    all_goals(repeat'(first|exact leT_empty|exact trivial|exact rfl|exact .inl rfl|exact .inr rfl|exact .inr ⟨rfl,rfl⟩|exact Nat.le_refl _|exact Nat.zero_le _|exact fun _ _=>rfl|assumption|refine And.intro ?_ ?_|exact ul0|exact ul1 rfl|exact ul2 rfl rfl|exact ul3 rfl rfl rfl))
  have h0 : t.n ≠ 0 := by omega
  have b1 := maxN_bd (f := t.f) (n := t.n - 1) fun q hq => hf q (by omega)
  have b2 := minN_bd (f := t.f) (n := t.n - 1) fun q hq => hf q (by omega)
  conv => whnf
  refine max_use (N := t.n) (n := t.n) (f := t.f) ⟨by omega, Nat.le_refl _, by omega⟩ ?_ ?_
  · repeat'(first|exact leT_empty|exact trivial|exact rfl|exact .inl rfl|exact .inr rfl|exact .inr ⟨rfl,rfl⟩|exact Nat.le_refl _|exact Nat.zero_le _|exact fun _ _=>rfl|assumption|refine And.intro ?_ ?_|exact ul0|exact ul1 rfl|exact ul2 rfl rfl|exact ul3 rfl rfl rfl)
  repeat((conv=>whnf);first|((with_reducible refine qS ?_ ?_ ?_);exact rfl;exact rfl)|with_reducible refine qB ?_|((with_reducible refine qI ?_ ?_);omega)|((with_reducible refine qDT ?_ ?_);omega)|((with_reducible refine qDF ?_ ?_);omega)|((with_reducible refine qNT ?_ ?_);omega)|((with_reducible refine qNF ?_ ?_);omega)|((with_reducible refine qU8 ?_ ?_);omega)|((with_reducible refine qU32 ?_ ?_);omega)|((with_reducible refine qU64 ?_ ?_);omega)|((with_reducible refine qU16 ?_ ?_);omega))
  conv => whnf
  refine min_use (N := t.n) (n := t.n) (f := t.f) ⟨by omega, Nat.le_refl _, by omega⟩ ?_ ?_
  · repeat'(first|exact leT_empty|exact trivial|exact rfl|exact .inl rfl|exact .inr rfl|exact .inr ⟨rfl,rfl⟩|exact Nat.le_refl _|exact Nat.zero_le _|exact fun _ _=>rfl|assumption|refine And.intro ?_ ?_|exact ul0|exact ul1 rfl|exact ul2 rfl rfl|exact ul3 rfl rfl rfl)
  repeat((conv=>whnf);first|((with_reducible refine qS ?_ ?_ ?_);exact rfl;exact rfl)|with_reducible refine qB ?_|((with_reducible refine qI ?_ ?_);omega)|((with_reducible refine qDT ?_ ?_);omega)|((with_reducible refine qDF ?_ ?_);omega)|((with_reducible refine qNT ?_ ?_);omega)|((with_reducible refine qNF ?_ ?_);omega)|((with_reducible refine qU8 ?_ ?_);omega)|((with_reducible refine qU32 ?_ ?_);omega)|((with_reducible refine qU64 ?_ ?_);omega)|((with_reducible refine qU16 ?_ ?_);omega))
  conv => whnf
  rw [show spreadN t = maxN t.f (t.n - 1) - minN t.f (t.n - 1) from if_neg h0]
  refine Trim.det ?_
  conv => whnf
  refine Le.id rfl ?_ ?_
  all_goals(repeat'(first|exact leT_empty|exact trivial|exact rfl|exact .inl rfl|exact .inr rfl|exact .inr ⟨rfl,rfl⟩|exact Nat.le_refl _|exact Nat.zero_le _|exact fun _ _=>rfl|assumption|refine And.intro ?_ ?_|exact ul0|exact ul1 rfl|exact ul2 rfl rfl|exact ul3 rfl rfl rfl))
theorem spread_ok : ConOk Try.prog F.status_Table_Spread spreadC := con_of_run (clRunX_ok (d := 5) ttOk outsMx_ok tabSSp_ok 2) (fn_enters (ok.status_Table_Spread (D := 5) u0 _ (clRunX_ok (d := 5) ttOk .nil TabOk.nil 1))) fun p hp => spread_run p hp
abbrev spreadRC : Con Tb := DetCon (fun _ => [.t (.one (.ptr 1 0))]) (fun p => tabH p) (fun p => p.Ok) (fun p => pairR (spreadN p, topN p)) fun p => tabH p
noncomputable abbrev tabSSr : List (FuncId × Eng.Fn) := [(F.ref18_Table_Spread, fn.ref18_Table_Spread u0)]
theorem tabSSr_ok {d : Nat} : TabOk d tabSSr tt := .cons (ok.ref18_Table_Spread u0) (TabOk.nil)
theorem spreadR_run (t : Tb) (ht : t.Ok) : clRunX 6 tt outs0 tabSSr 2 F.ref18_Table_Spread [] [.t (.one (.ptr 1 0))] (tabH t) (fun x h => Trim 2 x h fun x h => x = pairR (spreadN t, topN t) ∧ h = tabH t) := by
  obtain ⟨hn, hf⟩ := ht
  conv => whnf
  refine cD (fun h1 => ?_) (fun h1 => ?_)
  · conv => whnf
    rw [show spreadN t = 0 from if_pos (by omega), show topN t = 0 from if_pos (by omega)]
    refine Trim.det ?_
    conv => whnf
    refine Le.id rfl ?_ ?_
    all_goals(repeat'(first|exact leT_empty|exact trivial|exact rfl|exact .inl rfl|exact .inr rfl|exact .inr ⟨rfl,rfl⟩|exact Nat.le_refl _|exact Nat.zero_le _|exact fun _ _=>rfl|assumption|refine And.intro ?_ ?_|exact ul0|exact ul1 rfl|exact ul2 rfl rfl|exact ul3 rfl rfl rfl))
  have b1 := fun i (h : i < t.n) => maxN_bd (f := t.f) (n := i) fun q hq => hf q (by omega)
  have b2 := fun i (h : i < t.n) => minN_bd (f := t.f) (n := i) fun q hq => hf q (by omega)
  have h0 : t.n ≠ 0 := by omega
  have z1 : ∀ i, min (minN t.f (i - 1)) (t.f i) = minN t.f i := fun i => by
    cases i with
    | zero => show min (t.f 0) (t.f 0) = t.f 0; omega
    | succ i => rfl
  have z2 : ∀ i, max (maxN t.f (i - 1)) (t.f i) = maxN t.f i := fun i => by
    cases i with
    | zero => show max (t.f 0) (t.f 0) = t.f 0; omega
    | succ i => rfl
  repeat((conv=>whnf);first|((with_reducible refine qS ?_ ?_ ?_);exact rfl;exact rfl)|with_reducible refine qB ?_|((with_reducible refine qI ?_ ?_);omega)|((with_reducible refine qDT ?_ ?_);omega)|((with_reducible refine qDF ?_ ?_);omega)|((with_reducible refine qNT ?_ ?_);omega)|((with_reducible refine qNF ?_ ?_);omega)|((with_reducible refine qU8 ?_ ?_);omega)|((with_reducible refine qU32 ?_ ?_);omega)|((with_reducible refine qU64 ?_ ?_);omega)|((with_reducible refine qU16 ?_ ?_);omega))
  conv => whnf
  refine .rd (fun i : Nat => i ≤ t.n) (fun i => [(4, iv .i64 (minN t.f (i - 1))), (5, iv .i64 (maxN t.f (i - 1))), (6, iv .i64 i)]) (fun i => t.n - i) 0 (Nat.zero_le _) ?_ (fun i hi => ?_)
  · conv => whnf
    refine Le.id rfl ?_ ?_
    all_goals(repeat'(first|exact leT_empty|exact trivial|exact rfl|exact .inl rfl|exact .inr rfl|exact .inr ⟨rfl,rfl⟩|exact Nat.le_refl _|exact Nat.zero_le _|exact fun _ _=>rfl|assumption|refine And.intro ?_ ?_|exact ul0|exact ul1 rfl|exact ul2 rfl rfl|exact ul3 rfl rfl rfl))
  conv => whnf
  refine cD (fun h5 => ?_) (fun h5 => ?_)
  · repeat((conv=>whnf);first|((with_reducible refine qS ?_ ?_ ?_);exact rfl;exact rfl)|with_reducible refine qB ?_|((with_reducible refine qI ?_ ?_);omega)|((with_reducible refine qDT ?_ ?_);omega)|((with_reducible refine qDF ?_ ?_);omega)|((with_reducible refine qNT ?_ ?_);omega)|((with_reducible refine qNF ?_ ?_);omega)|((with_reducible refine qU8 ?_ ?_);omega)|((with_reducible refine qU32 ?_ ?_);omega)|((with_reducible refine qU64 ?_ ?_);omega)|((with_reducible refine qU16 ?_ ?_);omega))
    conv => whnf
    try rw [zi i]
    rw [z1 i, z2 i]
    refine ⟨i + 1, ⟨by omega, by omega⟩, ?_⟩
    conv => whnf
    refine Le.id rfl ?_ ?_
    all_goals(repeat'(first|exact leT_empty|exact trivial|exact rfl|exact .inl rfl|exact .inr rfl|exact .inr ⟨rfl,rfl⟩|exact Nat.le_refl _|exact Nat.zero_le _|exact fun _ _=>rfl|assumption|refine And.intro ?_ ?_|exact ul0|exact ul1 rfl|exact ul2 rfl rfl|exact ul3 rfl rfl rfl))
  obtain rfl : i = t.n := by omega
  have b3 := b1 (t.n - 1) (by omega)
  have b4 := b2 (t.n - 1) (by omega)
  repeat((conv=>whnf);first|((with_reducible refine qS ?_ ?_ ?_);exact rfl;exact rfl)|with_reducible refine qB ?_|((with_reducible refine qI ?_ ?_);omega)|((with_reducible refine qDT ?_ ?_);omega)|((with_reducible refine qDF ?_ ?_);omega)|((with_reducible refine qNT ?_ ?_);omega)|((with_reducible refine qNF ?_ ?_);omega)|((with_reducible refine qU8 ?_ ?_);omega)|((with_reducible refine qU32 ?_ ?_);omega)|((with_reducible refine qU64 ?_ ?_);omega)|((with_reducible refine qU16 ?_ ?_);omega))
  conv => whnf
  rw [show spreadN t = maxN t.f (t.n - 1) - minN t.f (t.n - 1) from if_neg h0, show topN t = maxN t.f (t.n - 1) from if_neg h0]
  refine Trim.det ?_
  conv => whnf
  refine Le.id rfl ?_ ?_
  all_goals(repeat'(first|exact leT_empty|exact trivial|exact rfl|exact .inl rfl|exact .inr rfl|exact .inr ⟨rfl,rfl⟩|exact Nat.le_refl _|exact Nat.zero_le _|exact fun _ _=>rfl|assumption|refine And.intro ?_ ?_|exact ul0|exact ul1 rfl|exact ul2 rfl rfl|exact ul3 rfl rfl rfl))
theorem spreadR_ok : ConOk Try.prog F.ref18_Table_Spread spreadRC := con_of_run (clRunX_ok (d := 6) ttOk outs0_ok tabSSr_ok 2) (fn_enters (ok.ref18_Table_Spread (D := 6) u0 _ (clRunX_ok (d := 6) ttOk .nil TabOk.nil 1))) fun p hp => spreadR_run p hp
/-! ### Level -/
def levelN (t : Tb) (silent wrong : Bool) : Int := if (silent || wrong) = true then 3 else if topN t = 7 then 2 else if 2 < spreadN t then 1 else 0
theorem maxN_ge {f : Nat → Int} : ∀ {n q : Nat}, q ≤ n → f q ≤ maxN f n
  | 0, q, h => by obtain rfl : q = 0 := by omega
                  exact Int.le_refl _
  | n + 1, q, h => by
    simp only [maxN]
    by_cases e : q = n + 1
    · subst e; omega
    · have := maxN_ge (f := f) (n := n) (q := q) (by omega); omega
theorem maxN_at {f : Nat → Int} : ∀ {n : Nat}, ∃ q, q ≤ n ∧ f q = maxN f n
  | 0 => ⟨0, Nat.le_refl _, rfl⟩
  | n + 1 => by
    obtain ⟨q, h1, h2⟩ := maxN_at (f := f) (n := n)
    simp only [maxN]
    by_cases e : maxN f n ≤ f (n + 1)
    · exact ⟨n + 1, Nat.le_refl _, by omega⟩
    · exact ⟨q, by omega, by omega⟩
theorem any7 {t : Tb} (ht : t.Ok) : anyB t.n (fun i => decide ((7 : Int) = t.f i)) = decide (topN t = 7) := by
  obtain ⟨hn, hf⟩ := ht
  unfold topN
  by_cases h0 : t.n = 0
  · rw [if_pos h0, h0]; rfl
  rw [if_neg h0]
  by_cases h : maxN t.f (t.n - 1) = 7
  · rw [decide_eq_true h, anyB_iff]
    obtain ⟨q, h1, h2⟩ := maxN_at (f := t.f) (n := t.n - 1)
    exact ⟨q, by omega, decide_eq_true (by omega)⟩
  · rw [decide_eq_false h, anyB_false]
    intro i hi
    have := maxN_ge (f := t.f) (n := t.n - 1) (q := i) (by omega)
    have := hf i hi
    have b1 := maxN_bd (f := t.f) (n := t.n - 1) fun q hq => hf q (by omega)
    exact decide_eq_false (by omega)
abbrev levelC : Con (Tb × Bool × Bool) := DetCon (fun p => [.t (.one (.ptr 1 0)), bv p.2.1, bv p.2.2]) (fun p => tabH p.1) (fun p => p.1.Ok) (fun p => iv .i64 (levelN p.1 p.2.1 p.2.2)) fun p => tabH p.1
abbrev outsSr : List (FuncId × Cx) := [(F.ref18_Table_Spread, AskC spreadRC)]
theorem outsSr_ok : OutsOk Try.prog outsSr := .cons (ask_ok spreadR_ok) .nil
noncomputable abbrev tabSLr : List (FuncId × Eng.Fn) := [(F.ref18_Level, fn.ref18_Level u0)]
theorem tabSLr_ok {d : Nat} : TabOk d tabSLr tt := .cons (ok.ref18_Level u0) (TabOk.nil)
theorem levelR_run (t : Tb) (a b : Bool) (ht : t.Ok) : clRunX 5 tt outsSr tabSLr 2 F.ref18_Level [] [.t (.one (.ptr 1 0)), bv a, bv b] (tabH t) (fun x h => Trim 2 x h fun x h => x = iv .i64 (levelN t a b) ∧ h = tabH t) := by
  cases a
  rotate_left
  · repeat((conv=>whnf);first|((with_reducible refine qS ?_ ?_ ?_);exact rfl;exact rfl)|with_reducible refine qB ?_|((with_reducible refine qI ?_ ?_);omega)|((with_reducible refine qDT ?_ ?_);omega)|((with_reducible refine qDF ?_ ?_);omega)|((with_reducible refine qNT ?_ ?_);omega)|((with_reducible refine qNF ?_ ?_);omega)|((with_reducible refine qU8 ?_ ?_);omega)|((with_reducible refine qU32 ?_ ?_);omega)|((with_reducible refine qU64 ?_ ?_);omega)|((with_reducible refine qU16 ?_ ?_);omega))
    conv => whnf
    refine Trim.det ?_
    conv => whnf
    refine Le.id rfl ?_ ?_
    all_goals(repeat'(first|exact leT_empty|exact trivial|exact rfl|exact .inl rfl|exact .inr rfl|exact .inr ⟨rfl,rfl⟩|exact Nat.le_refl _|exact Nat.zero_le _|exact fun _ _=>rfl|assumption|refine And.intro ?_ ?_|exact ul0|exact ul1 rfl|exact ul2 rfl rfl|exact ul3 rfl rfl rfl))
  cases b
  rotate_left
  · repeat((conv=>whnf);first|((with_reducible refine qS ?_ ?_ ?_);exact rfl;exact rfl)|with_reducible refine qB ?_|((with_reducible refine qI ?_ ?_);omega)|((with_reducible refine qDT ?_ ?_);omega)|((with_reducible refine qDF ?_ ?_);omega)|((with_reducible refine qNT ?_ ?_);omega)|((with_reducible refine qNF ?_ ?_);omega)|((with_reducible refine qU8 ?_ ?_);omega)|((with_reducible refine qU32 ?_ ?_);omega)|((with_reducible refine qU64 ?_ ?_);omega)|((with_reducible refine qU16 ?_ ?_);omega))
    conv => whnf
    refine Trim.det ?_
    conv => whnf
    refine Le.id rfl ?_ ?_
    all_goals(repeat'(first|exact leT_empty|exact trivial|exact rfl|exact .inl rfl|exact .inr rfl|exact .inr ⟨rfl,rfl⟩|exact Nat.le_refl _|exact Nat.zero_le _|exact fun _ _=>rfl|assumption|refine And.intro ?_ ?_|exact ul0|exact ul1 rfl|exact ul2 rfl rfl|exact ul3 rfl rfl rfl))
  have e : levelN t false false = if topN t = 7 then 2 else if 2 < spreadN t then 1 else 0 := rfl
  rw [e]
  repeat((conv=>whnf);first|((with_reducible refine qS ?_ ?_ ?_);exact rfl;exact rfl)|with_reducible refine qB ?_|((with_reducible refine qI ?_ ?_);omega)|((with_reducible refine qDT ?_ ?_);omega)|((with_reducible refine qDF ?_ ?_);omega)|((with_reducible refine qNT ?_ ?_);omega)|((with_reducible refine qNF ?_ ?_);omega)|((with_reducible refine qU8 ?_ ?_);omega)|((with_reducible refine qU32 ?_ ?_);omega)|((with_reducible refine qU64 ?_ ?_);omega)|((with_reducible refine qU16 ?_ ?_);omega))
  conv => whnf
  refine .det t [0, 1] (pairR (spreadN t, topN t)) (tabH t) ht rfl ?_ ?_ rfl rfl ?_
  · repeat'(first|exact leT_empty|exact trivial|exact rfl|exact .inl rfl|exact .inr rfl|exact .inr ⟨rfl,rfl⟩|exact Nat.le_refl _|exact Nat.zero_le _|exact fun _ _=>rfl|assumption|refine And.intro ?_ ?_|exact ul0|exact ul1 rfl|exact ul2 rfl rfl|exact ul3 rfl rfl rfl)
  · repeat'(first|exact leT_empty|exact trivial|exact rfl|exact .inl rfl|exact .inr rfl|exact .inr ⟨rfl,rfl⟩|exact Nat.le_refl _|exact Nat.zero_le _|exact fun _ _=>rfl|assumption|refine And.intro ?_ ?_|exact ul0|exact ul1 rfl|exact ul2 rfl rfl|exact ul3 rfl rfl rfl)
  repeat((conv=>whnf);first|((with_reducible refine qS ?_ ?_ ?_);exact rfl;exact rfl)|with_reducible refine qB ?_|((with_reducible refine qI ?_ ?_);omega)|((with_reducible refine qDT ?_ ?_);omega)|((with_reducible refine qDF ?_ ?_);omega)|((with_reducible refine qNT ?_ ?_);omega)|((with_reducible refine qNF ?_ ?_);omega)|((with_reducible refine qU8 ?_ ?_);omega)|((with_reducible refine qU32 ?_ ?_);omega)|((with_reducible refine qU64 ?_ ?_);omega)|((with_reducible refine qU16 ?_ ?_);omega))
  conv => whnf
  refine cD (fun h1 => ?_) (fun h1 => ?_)
  · repeat((conv=>whnf);first|((with_reducible refine qS ?_ ?_ ?_);exact rfl;exact rfl)|with_reducible refine qB ?_|((with_reducible refine qI ?_ ?_);omega)|((with_reducible refine qDT ?_ ?_);omega)|((with_reducible refine qDF ?_ ?_);omega)|((with_reducible refine qNT ?_ ?_);omega)|((with_reducible refine qNF ?_ ?_);omega)|((with_reducible refine qU8 ?_ ?_);omega)|((with_reducible refine qU32 ?_ ?_);omega)|((with_reducible refine qU64 ?_ ?_);omega)|((with_reducible refine qU16 ?_ ?_);omega))
    conv => whnf
    rw [if_pos h1]
    refine Trim.det ?_
    conv => whnf
    refine Le.id rfl ?_ ?_
    all_goals(repeat'(first|exact leT_empty|exact trivial|exact rfl|exact .inl rfl|exact .inr rfl|exact .inr ⟨rfl,rfl⟩|exact Nat.le_refl _|exact Nat.zero_le _|exact fun _ _=>rfl|assumption|refine And.intro ?_ ?_|exact ul0|exact ul1 rfl|exact ul2 rfl rfl|exact ul3 rfl rfl rfl))
  rw [if_neg h1]
  repeat((conv=>whnf);first|((with_reducible refine qS ?_ ?_ ?_);exact rfl;exact rfl)|with_reducible refine qB ?_|((with_reducible refine qI ?_ ?_);omega)|((with_reducible refine qDT ?_ ?_);omega)|((with_reducible refine qDF ?_ ?_);omega)|((with_reducible refine qNT ?_ ?_);omega)|((with_reducible refine qNF ?_ ?_);omega)|((with_reducible refine qU8 ?_ ?_);omega)|((with_reducible refine qU32 ?_ ?_);omega)|((with_reducible refine qU64 ?_ ?_);omega)|((with_reducible refine qU16 ?_ ?_);omega))
  conv => whnf
  refine cD (fun h2 => ?_) (fun h2 => ?_)
  · repeat((conv=>whnf);first|((with_reducible refine qS ?_ ?_ ?_);exact rfl;exact rfl)|with_reducible refine qB ?_|((with_reducible refine qI ?_ ?_);omega)|((with_reducible refine qDT ?_ ?_);omega)|((with_reducible refine qDF ?_ ?_);omega)|((with_reducible refine qNT ?_ ?_);omega)|((with_reducible refine qNF ?_ ?_);omega)|((with_reducible refine qU8 ?_ ?_);omega)|((with_reducible refine qU32 ?_ ?_);omega)|((with_reducible refine qU64 ?_ ?_);omega)|((with_reducible refine qU16 ?_ ?_);omega))
    conv => whnf
    rw [if_pos h2]
    refine Trim.det ?_
    conv => whnf
    refine Le.id rfl ?_ ?_
    all_goals(repeat'(first|exact leT_empty|exact trivial|exact rfl|exact .inl rfl|exact .inr rfl|exact .inr ⟨rfl,rfl⟩|exact Nat.le_refl _|exact Nat.zero_le _|exact fun _ _=>rfl|assumption|refine And.intro ?_ ?_|exact ul0|exact ul1 rfl|exact ul2 rfl rfl|exact ul3 rfl rfl rfl))
  · repeat((conv=>whnf);first|((with_reducible refine qS ?_ ?_ ?_);exact rfl;exact rfl)|with_reducible refine qB ?_|((with_reducible refine qI ?_ ?_);omega)|((with_reducible refine qDT ?_ ?_);omega)|((with_reducible refine qDF ?_ ?_);omega)|((with_reducible refine qNT ?_ ?_);omega)|((with_reducible refine qNF ?_ ?_);omega)|((with_reducible refine qU8 ?_ ?_);omega)|((with_reducible refine qU32 ?_ ?_);omega)|((with_reducible refine qU64 ?_ ?_);omega)|((with_reducible refine qU16 ?_ ?_);omega))
    conv => whnf
    rw [if_neg h2]
    refine Trim.det ?_
    conv => whnf
    refine Le.id rfl ?_ ?_
    all_goals(repeat'(first|exact leT_empty|exact trivial|exact rfl|exact .inl rfl|exact .inr rfl|exact .inr ⟨rfl,rfl⟩|exact Nat.le_refl _|exact Nat.zero_le _|exact fun _ _=>rfl|assumption|refine And.intro ?_ ?_|exact ul0|exact ul1 rfl|exact ul2 rfl rfl|exact ul3 rfl rfl rfl))
theorem levelR_ok : ConOk Try.prog F.ref18_Level levelC := con_of_run (clRunX_ok (d := 5) ttOk outsSr_ok tabSLr_ok 2) (fn_enters (ok.ref18_Level (D := 5) u0 _ (clRunX_ok (d := 5) ttOk .nil TabOk.nil 1))) fun p hp => levelR_run p.1 p.2.1 p.2.2 hp
end Go.Proofs.Ytbdifadabipfiaa.Co
