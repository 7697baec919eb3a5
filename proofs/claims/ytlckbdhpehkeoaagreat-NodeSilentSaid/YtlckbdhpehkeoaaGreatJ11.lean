/- Parts. -/
import Derived.Test.YtlckbdhpehkeoaaGreatJ10
namespace Go.Proofs.YtlckbdhpehkeoaaGreat.Co
open Go Go.Eng Go.Proofs Go.Proofs.YtlckbdhpehkeoaaGreat.Tb Go.Pu
set_option maxRecDepth 100000
set_option maxHeartbeats 16000000
abbrev rdM (x : Nat → Value) (r : Rd) : HE:=.ob (.own [.c (.v (x 0)),.c (.v (x 1)),.c (.v (x 2)),.c (.v (x 3)),.c (.v (x 4)),.c (.v (x 5)),.c (.v (x 6)),.c (.v (x 7)),.c (.v (x 8)),.c (.v (x 9)),.c (.v (x 10)),.c (.v (x 11)),.c (.v (x 12)),.c (.v (.int .u8 (rlI r.run))),.c (.v (.int .i64 (r.run.n : Int))),.arr 128 (rbF r.b),.c (.v (.int .i64 (r.b.length : Int))),.c (.v (.int .i64 (r.need : Int))),.c (.v (.int .u16 (r.sum : Int))),.c (.v (.int .i64 (r.fin : Int))),.c (.v (.bool r.laid))])
abbrev pshMC : Con ((Nat → Value) × Rd × Bool):=DetCon (fun p=>[.t (.one (.ptr 0 13)),iv .u8 (cI p.2.2)]) (fun p=>[rdM p.1 p.2.1]) (fun p=>p.2.1.Ok ∧ p.2.1.fin ≤ 1000000) (fun p=>iv .i64 ((p.2.1.push p.2.2).2 : Nat)) fun p=>[rdM p.1 (p.2.1.push p.2.2).1]
theorem psm_f_true_i1_true (x : Nat → Value) (r : Rd) (hr : r.Ok) (hf : r.fin ≤ 1000000) (g : r.need = 0) (g5 : r.run.n = 5) (hl : r.run.last = true) : clRunX 6 tt outsPsh tabPsh 5 F.code_Reader_Push [] [.t (.one (.ptr 0 13)),iv .u8 49] [rdM x r] (fun y h=>Trim 1 y h fun y h=>y = iv .i64 ((r.push true).2 : Nat) ∧ h = [rdM x (r.push true).1]):=by
 have hb:=hr.len
 obtain ⟨h1,h2,h3,h4,h5⟩:=hr
 have e0 : r.push true = if r.inB = true ∨ (r.run.n = 5 ∧ r.laid = false ∧ r.fin = 0) then
  if r.run.n = 5 ∧ true = r.run.last then (r,20)
  else if r.run.n = 5 then ({ r with run:=r.run.add true,laid:=!r.inB },0)
  else ({ r with run:=r.run.add true } : Rd).add true
 else r.tail true:=rfl
 have hin : r.inB = decide (r.need = 0 ∨ r.b.length < r.need + 15):=rfl
 have hi : r.inB = true:=by rw [hin]; exact decide_eq_true (.inl g)
 rw [if_pos (.inl hi)] at e0
 have hz : rlI r.run = 49:=by unfold rlI; rw [if_neg (by omega),hl]; rfl
 rw [if_pos ⟨g5,hl.symm⟩] at e0
 refine wB ?_
 refine Trim.det ?_
 rw [e0]
 exact wF
theorem psm_f_true_i1_false (x : Nat → Value) (r : Rd) (hr : r.Ok) (hf : r.fin ≤ 1000000) (g : r.need = 0) (g5 : r.run.n = 5) (hl : r.run.last = false) : clRunX 6 tt outsPsh tabPsh 5 F.code_Reader_Push [] [.t (.one (.ptr 0 13)),iv .u8 49] [rdM x r] (fun y h=>Trim 1 y h fun y h=>y = iv .i64 ((r.push true).2 : Nat) ∧ h = [rdM x (r.push true).1]):=by
 have hb:=hr.len
 obtain ⟨h1,h2,h3,h4,h5⟩:=hr
 have e0 : r.push true = if r.inB = true ∨ (r.run.n = 5 ∧ r.laid = false ∧ r.fin = 0) then
  if r.run.n = 5 ∧ true = r.run.last then (r,20)
  else if r.run.n = 5 then ({ r with run:=r.run.add true,laid:=!r.inB },0)
  else ({ r with run:=r.run.add true } : Rd).add true
 else r.tail true:=rfl
 have hin : r.inB = decide (r.need = 0 ∨ r.b.length < r.need + 15):=rfl
 have hi : r.inB = true:=by rw [hin]; exact decide_eq_true (.inl g)
 rw [if_pos (.inl hi)] at e0
 have hz : rlI r.run = 48:=by unfold rlI; rw [if_neg (by omega),hl]; rfl
 rw [if_neg (fun h=>by have h:=h.2; rw [hl] at h; cases h),if_pos g5,add_un (fun h=>by have h:=h.2; rw [hl] at h; cases h),hi] at e0
 refine wB ?_
 skip
 refine wB ?_
 skip
 refine Trim.det ?_
 rw [e0]
 exact wF
theorem psm_f_true_i2_true (x : Nat → Value) (r : Rd) (hr : r.Ok) (hf : r.fin ≤ 1000000) (g0 : ¬ r.need = 0) (g : r.b.length < r.need + 15) (g5 : r.run.n = 5) (hl : r.run.last = true) : clRunX 6 tt outsPsh tabPsh 5 F.code_Reader_Push [] [.t (.one (.ptr 0 13)),iv .u8 49] [rdM x r] (fun y h=>Trim 1 y h fun y h=>y = iv .i64 ((r.push true).2 : Nat) ∧ h = [rdM x (r.push true).1]):=by
 have hb:=hr.len
 obtain ⟨h1,h2,h3,h4,h5⟩:=hr
 have e0 : r.push true = if r.inB = true ∨ (r.run.n = 5 ∧ r.laid = false ∧ r.fin = 0) then
  if r.run.n = 5 ∧ true = r.run.last then (r,20)
  else if r.run.n = 5 then ({ r with run:=r.run.add true,laid:=!r.inB },0)
  else ({ r with run:=r.run.add true } : Rd).add true
 else r.tail true:=rfl
 have hin : r.inB = decide (r.need = 0 ∨ r.b.length < r.need + 15):=rfl
 have hi : r.inB = true:=by rw [hin]; exact decide_eq_true (.inr g)
 rw [if_pos (.inl hi)] at e0
 have hz : rlI r.run = 49:=by unfold rlI; rw [if_neg (by omega),hl]; rfl
 rw [if_pos ⟨g5,hl.symm⟩] at e0
 refine wB ?_
 refine Trim.det ?_
 rw [e0]
 exact wF
theorem psm_f_true_i2_false (x : Nat → Value) (r : Rd) (hr : r.Ok) (hf : r.fin ≤ 1000000) (g0 : ¬ r.need = 0) (g : r.b.length < r.need + 15) (g5 : r.run.n = 5) (hl : r.run.last = false) : clRunX 6 tt outsPsh tabPsh 5 F.code_Reader_Push [] [.t (.one (.ptr 0 13)),iv .u8 49] [rdM x r] (fun y h=>Trim 1 y h fun y h=>y = iv .i64 ((r.push true).2 : Nat) ∧ h = [rdM x (r.push true).1]):=by
 have hb:=hr.len
 obtain ⟨h1,h2,h3,h4,h5⟩:=hr
 have e0 : r.push true = if r.inB = true ∨ (r.run.n = 5 ∧ r.laid = false ∧ r.fin = 0) then
  if r.run.n = 5 ∧ true = r.run.last then (r,20)
  else if r.run.n = 5 then ({ r with run:=r.run.add true,laid:=!r.inB },0)
  else ({ r with run:=r.run.add true } : Rd).add true
 else r.tail true:=rfl
 have hin : r.inB = decide (r.need = 0 ∨ r.b.length < r.need + 15):=rfl
 have hi : r.inB = true:=by rw [hin]; exact decide_eq_true (.inr g)
 rw [if_pos (.inl hi)] at e0
 have hz : rlI r.run = 48:=by unfold rlI; rw [if_neg (by omega),hl]; rfl
 rw [if_neg (fun h=>by have h:=h.2; rw [hl] at h; cases h),if_pos g5,add_un (fun h=>by have h:=h.2; rw [hl] at h; cases h),hi] at e0
 refine wB ?_
 skip
 refine wB ?_
 rw [show decide ((r.b.length : Int) < (r.need : Int) + 15) = true from decide_eq_true (by omega)]
 refine Trim.det ?_
 rw [e0]
 exact wF
theorem psm_f_true_i3_true (x : Nat → Value) (r : Rd) (hr : r.Ok) (hf : r.fin ≤ 1000000) (g0 : ¬ r.need = 0) (g : ¬ r.b.length < r.need + 15) (g5 : r.run.n = 5) (gl : r.laid = false) (gf : r.fin = 0) (hl : r.run.last = true) : clRunX 6 tt outsPsh tabPsh 5 F.code_Reader_Push [] [.t (.one (.ptr 0 13)),iv .u8 49] [rdM x r] (fun y h=>Trim 1 y h fun y h=>y = iv .i64 ((r.push true).2 : Nat) ∧ h = [rdM x (r.push true).1]):=by
 have hb:=hr.len
 obtain ⟨h1,h2,h3,h4,h5⟩:=hr
 have e0 : r.push true = if r.inB = true ∨ (r.run.n = 5 ∧ r.laid = false ∧ r.fin = 0) then
  if r.run.n = 5 ∧ true = r.run.last then (r,20)
  else if r.run.n = 5 then ({ r with run:=r.run.add true,laid:=!r.inB },0)
  else ({ r with run:=r.run.add true } : Rd).add true
 else r.tail true:=rfl
 have hin : r.inB = decide (r.need = 0 ∨ r.b.length < r.need + 15):=rfl
 have hi : r.inB = false:=by rw [hin]; exact decide_eq_false (by omega)
 rw [if_pos (.inr ⟨g5,gl,gf⟩)] at e0
 have hz : rlI r.run = 49:=by unfold rlI; rw [if_neg (by omega),hl]; rfl
 rw [if_pos ⟨g5,hl.symm⟩] at e0
 refine wB ?_
 rw [gl]
 refine wB ?_
 refine Trim.det ?_
 rw [e0]
 exact wF
theorem psm_f_true_i3_false (x : Nat → Value) (r : Rd) (hr : r.Ok) (hf : r.fin ≤ 1000000) (g0 : ¬ r.need = 0) (g : ¬ r.b.length < r.need + 15) (g5 : r.run.n = 5) (gl : r.laid = false) (gf : r.fin = 0) (hl : r.run.last = false) : clRunX 6 tt outsPsh tabPsh 5 F.code_Reader_Push [] [.t (.one (.ptr 0 13)),iv .u8 49] [rdM x r] (fun y h=>Trim 1 y h fun y h=>y = iv .i64 ((r.push true).2 : Nat) ∧ h = [rdM x (r.push true).1]):=by
 have hb:=hr.len
 obtain ⟨h1,h2,h3,h4,h5⟩:=hr
 have e0 : r.push true = if r.inB = true ∨ (r.run.n = 5 ∧ r.laid = false ∧ r.fin = 0) then
  if r.run.n = 5 ∧ true = r.run.last then (r,20)
  else if r.run.n = 5 then ({ r with run:=r.run.add true,laid:=!r.inB },0)
  else ({ r with run:=r.run.add true } : Rd).add true
 else r.tail true:=rfl
 have hin : r.inB = decide (r.need = 0 ∨ r.b.length < r.need + 15):=rfl
 have hi : r.inB = false:=by rw [hin]; exact decide_eq_false (by omega)
 rw [if_pos (.inr ⟨g5,gl,gf⟩)] at e0
 have hz : rlI r.run = 48:=by unfold rlI; rw [if_neg (by omega),hl]; rfl
 rw [if_neg (fun h=>by have h:=h.2; rw [hl] at h; cases h),if_pos g5,add_un (fun h=>by have h:=h.2; rw [hl] at h; cases h),hi] at e0
 refine wB ?_
 rw [gl]
 refine wB ?_
 rw [show decide ((r.b.length : Int) < (r.need : Int) + 15) = false from decide_eq_false (by omega)]
 refine Trim.det ?_
 rw [e0]
 exact wF
theorem psm_f_false_i1_true (x : Nat → Value) (r : Rd) (hr : r.Ok) (hf : r.fin ≤ 1000000) (g : r.need = 0) (g5 : r.run.n = 5) (hl : r.run.last = true) : clRunX 6 tt outsPsh tabPsh 5 F.code_Reader_Push [] [.t (.one (.ptr 0 13)),iv .u8 48] [rdM x r] (fun y h=>Trim 1 y h fun y h=>y = iv .i64 ((r.push false).2 : Nat) ∧ h = [rdM x (r.push false).1]):=by
 have hb:=hr.len
 obtain ⟨h1,h2,h3,h4,h5⟩:=hr
 have e0 : r.push false = if r.inB = true ∨ (r.run.n = 5 ∧ r.laid = false ∧ r.fin = 0) then
  if r.run.n = 5 ∧ false = r.run.last then (r,20)
  else if r.run.n = 5 then ({ r with run:=r.run.add false,laid:=!r.inB },0)
  else ({ r with run:=r.run.add false } : Rd).add false
 else r.tail false:=rfl
 have hin : r.inB = decide (r.need = 0 ∨ r.b.length < r.need + 15):=rfl
 have hi : r.inB = true:=by rw [hin]; exact decide_eq_true (.inl g)
 rw [if_pos (.inl hi)] at e0
 have hz : rlI r.run = 49:=by unfold rlI; rw [if_neg (by omega),hl]; rfl
 rw [if_neg (fun h=>by have h:=h.2; rw [hl] at h; cases h),if_pos g5,add_un (fun h=>by have h:=h.2; rw [hl] at h; cases h),hi] at e0
 refine wB ?_
 skip
 refine wB ?_
 skip
 refine Trim.det ?_
 rw [e0]
 exact wF
theorem psm_f_false_i1_false (x : Nat → Value) (r : Rd) (hr : r.Ok) (hf : r.fin ≤ 1000000) (g : r.need = 0) (g5 : r.run.n = 5) (hl : r.run.last = false) : clRunX 6 tt outsPsh tabPsh 5 F.code_Reader_Push [] [.t (.one (.ptr 0 13)),iv .u8 48] [rdM x r] (fun y h=>Trim 1 y h fun y h=>y = iv .i64 ((r.push false).2 : Nat) ∧ h = [rdM x (r.push false).1]):=by
 have hb:=hr.len
 obtain ⟨h1,h2,h3,h4,h5⟩:=hr
 have e0 : r.push false = if r.inB = true ∨ (r.run.n = 5 ∧ r.laid = false ∧ r.fin = 0) then
  if r.run.n = 5 ∧ false = r.run.last then (r,20)
  else if r.run.n = 5 then ({ r with run:=r.run.add false,laid:=!r.inB },0)
  else ({ r with run:=r.run.add false } : Rd).add false
 else r.tail false:=rfl
 have hin : r.inB = decide (r.need = 0 ∨ r.b.length < r.need + 15):=rfl
 have hi : r.inB = true:=by rw [hin]; exact decide_eq_true (.inl g)
 rw [if_pos (.inl hi)] at e0
 have hz : rlI r.run = 48:=by unfold rlI; rw [if_neg (by omega),hl]; rfl
 rw [if_pos ⟨g5,hl.symm⟩] at e0
 refine wB ?_
 refine Trim.det ?_
 rw [e0]
 exact wF
theorem psm_f_false_i2_true (x : Nat → Value) (r : Rd) (hr : r.Ok) (hf : r.fin ≤ 1000000) (g0 : ¬ r.need = 0) (g : r.b.length < r.need + 15) (g5 : r.run.n = 5) (hl : r.run.last = true) : clRunX 6 tt outsPsh tabPsh 5 F.code_Reader_Push [] [.t (.one (.ptr 0 13)),iv .u8 48] [rdM x r] (fun y h=>Trim 1 y h fun y h=>y = iv .i64 ((r.push false).2 : Nat) ∧ h = [rdM x (r.push false).1]):=by
 have hb:=hr.len
 obtain ⟨h1,h2,h3,h4,h5⟩:=hr
 have e0 : r.push false = if r.inB = true ∨ (r.run.n = 5 ∧ r.laid = false ∧ r.fin = 0) then
  if r.run.n = 5 ∧ false = r.run.last then (r,20)
  else if r.run.n = 5 then ({ r with run:=r.run.add false,laid:=!r.inB },0)
  else ({ r with run:=r.run.add false } : Rd).add false
 else r.tail false:=rfl
 have hin : r.inB = decide (r.need = 0 ∨ r.b.length < r.need + 15):=rfl
 have hi : r.inB = true:=by rw [hin]; exact decide_eq_true (.inr g)
 rw [if_pos (.inl hi)] at e0
 have hz : rlI r.run = 49:=by unfold rlI; rw [if_neg (by omega),hl]; rfl
 rw [if_neg (fun h=>by have h:=h.2; rw [hl] at h; cases h),if_pos g5,add_un (fun h=>by have h:=h.2; rw [hl] at h; cases h),hi] at e0
 refine wB ?_
 skip
 refine wB ?_
 rw [show decide ((r.b.length : Int) < (r.need : Int) + 15) = true from decide_eq_true (by omega)]
 refine Trim.det ?_
 rw [e0]
 exact wF
theorem psm_f_false_i2_false (x : Nat → Value) (r : Rd) (hr : r.Ok) (hf : r.fin ≤ 1000000) (g0 : ¬ r.need = 0) (g : r.b.length < r.need + 15) (g5 : r.run.n = 5) (hl : r.run.last = false) : clRunX 6 tt outsPsh tabPsh 5 F.code_Reader_Push [] [.t (.one (.ptr 0 13)),iv .u8 48] [rdM x r] (fun y h=>Trim 1 y h fun y h=>y = iv .i64 ((r.push false).2 : Nat) ∧ h = [rdM x (r.push false).1]):=by
 have hb:=hr.len
 obtain ⟨h1,h2,h3,h4,h5⟩:=hr
 have e0 : r.push false = if r.inB = true ∨ (r.run.n = 5 ∧ r.laid = false ∧ r.fin = 0) then
  if r.run.n = 5 ∧ false = r.run.last then (r,20)
  else if r.run.n = 5 then ({ r with run:=r.run.add false,laid:=!r.inB },0)
  else ({ r with run:=r.run.add false } : Rd).add false
 else r.tail false:=rfl
 have hin : r.inB = decide (r.need = 0 ∨ r.b.length < r.need + 15):=rfl
 have hi : r.inB = true:=by rw [hin]; exact decide_eq_true (.inr g)
 rw [if_pos (.inl hi)] at e0
 have hz : rlI r.run = 48:=by unfold rlI; rw [if_neg (by omega),hl]; rfl
 rw [if_pos ⟨g5,hl.symm⟩] at e0
 refine wB ?_
 refine Trim.det ?_
 rw [e0]
 exact wF
theorem psm_f_false_i3_true (x : Nat → Value) (r : Rd) (hr : r.Ok) (hf : r.fin ≤ 1000000) (g0 : ¬ r.need = 0) (g : ¬ r.b.length < r.need + 15) (g5 : r.run.n = 5) (gl : r.laid = false) (gf : r.fin = 0) (hl : r.run.last = true) : clRunX 6 tt outsPsh tabPsh 5 F.code_Reader_Push [] [.t (.one (.ptr 0 13)),iv .u8 48] [rdM x r] (fun y h=>Trim 1 y h fun y h=>y = iv .i64 ((r.push false).2 : Nat) ∧ h = [rdM x (r.push false).1]):=by
 have hb:=hr.len
 obtain ⟨h1,h2,h3,h4,h5⟩:=hr
 have e0 : r.push false = if r.inB = true ∨ (r.run.n = 5 ∧ r.laid = false ∧ r.fin = 0) then
  if r.run.n = 5 ∧ false = r.run.last then (r,20)
  else if r.run.n = 5 then ({ r with run:=r.run.add false,laid:=!r.inB },0)
  else ({ r with run:=r.run.add false } : Rd).add false
 else r.tail false:=rfl
 have hin : r.inB = decide (r.need = 0 ∨ r.b.length < r.need + 15):=rfl
 have hi : r.inB = false:=by rw [hin]; exact decide_eq_false (by omega)
 rw [if_pos (.inr ⟨g5,gl,gf⟩)] at e0
 have hz : rlI r.run = 49:=by unfold rlI; rw [if_neg (by omega),hl]; rfl
 rw [if_neg (fun h=>by have h:=h.2; rw [hl] at h; cases h),if_pos g5,add_un (fun h=>by have h:=h.2; rw [hl] at h; cases h),hi] at e0
 refine wB ?_
 rw [gl]
 refine wB ?_
 rw [show decide ((r.b.length : Int) < (r.need : Int) + 15) = false from decide_eq_false (by omega)]
 refine Trim.det ?_
 rw [e0]
 exact wF
theorem psm_f_false_i3_false (x : Nat → Value) (r : Rd) (hr : r.Ok) (hf : r.fin ≤ 1000000) (g0 : ¬ r.need = 0) (g : ¬ r.b.length < r.need + 15) (g5 : r.run.n = 5) (gl : r.laid = false) (gf : r.fin = 0) (hl : r.run.last = false) : clRunX 6 tt outsPsh tabPsh 5 F.code_Reader_Push [] [.t (.one (.ptr 0 13)),iv .u8 48] [rdM x r] (fun y h=>Trim 1 y h fun y h=>y = iv .i64 ((r.push false).2 : Nat) ∧ h = [rdM x (r.push false).1]):=by
 have hb:=hr.len
 obtain ⟨h1,h2,h3,h4,h5⟩:=hr
 have e0 : r.push false = if r.inB = true ∨ (r.run.n = 5 ∧ r.laid = false ∧ r.fin = 0) then
  if r.run.n = 5 ∧ false = r.run.last then (r,20)
  else if r.run.n = 5 then ({ r with run:=r.run.add false,laid:=!r.inB },0)
  else ({ r with run:=r.run.add false } : Rd).add false
 else r.tail false:=rfl
 have hin : r.inB = decide (r.need = 0 ∨ r.b.length < r.need + 15):=rfl
 have hi : r.inB = false:=by rw [hin]; exact decide_eq_false (by omega)
 rw [if_pos (.inr ⟨g5,gl,gf⟩)] at e0
 have hz : rlI r.run = 48:=by unfold rlI; rw [if_neg (by omega),hl]; rfl
 rw [if_pos ⟨g5,hl.symm⟩] at e0
 refine wB ?_
 rw [gl]
 refine wB ?_
 refine Trim.det ?_
 rw [e0]
 exact wF
theorem psm_a_true_i1_true (x : Nat → Value) (r : Rd) (hr : r.Ok) (hf : r.fin ≤ 1000000) (g : r.need = 0) (g5 : ¬ r.run.n = 5) (hl : r.run.last = true) : clRunX 6 tt outsPsh tabPsh 5 F.code_Reader_Push [] [.t (.one (.ptr 0 13)),iv .u8 49] [rdM x r] (fun y h=>Trim 1 y h fun y h=>y = iv .i64 ((r.push true).2 : Nat) ∧ h = [rdM x (r.push true).1]):=by
 have hb:=hr.len
 obtain ⟨h1,h2,h3,h4,h5⟩:=hr
 have e0 : r.push true = if r.inB = true ∨ (r.run.n = 5 ∧ r.laid = false ∧ r.fin = 0) then
  if r.run.n = 5 ∧ true = r.run.last then (r,20)
  else if r.run.n = 5 then ({ r with run:=r.run.add true,laid:=!r.inB },0)
  else ({ r with run:=r.run.add true } : Rd).add true
 else r.tail true:=rfl
 have hin : r.inB = decide (r.need = 0 ∨ r.b.length < r.need + 15):=rfl
 have hi : r.inB = true:=by rw [hin]; exact decide_eq_true (.inl g)
 rw [if_pos (.inl hi)] at e0
 rw [if_neg (fun h=>g5 h.1),if_neg g5] at e0
 have hnb:=need_bd (r.b ++ [true])
 have e1 : ({ r with run:=r.run.add true } : Rd).add true = if 0 < r.need then ({ r with run:=r.run.add true,b:=r.b ++ [true],sum:=crcAdd r.sum true },0)
  else if (need (r.b ++ [true])).2 ≠ 0 then ({ r with run:=r.run.add true,b:=r.b ++ [true],sum:=crcAdd r.sum true },(need (r.b ++ [true])).2)
  else ({ r with run:=r.run.add true,b:=r.b ++ [true],sum:=crcAdd r.sum true,need:=(need (r.b ++ [true])).1 },0):=rfl
 rw [e1] at e0
 have hl1 : (r.b ++ [true]).length = r.b.length + 1:=by rw [List.length_append]; rfl
 have hC : C.v (.int .i64 ((r.b.length + 1 : Nat) : Int)) = C.v (.int .i64 (((r.b ++ [true]).length : Nat) : Int)):=by rw [hl1]
 have hA:=arr_up r.b true 49 rfl hb
 have hM : (r.b.length : Int) + ((min 1 (128 - (r.b.length : Int).toNat) : Nat) : Int) = ((r.b.length + 1 : Nat) : Int):=by omega
 have hS : mkStr (((r.b.length + 1 : Nat) : Int).toNat - 0) (fun i=>[rbF (r.b ++ [true]) (0 + i)]) = bs (r.b ++ [true]):=mkStr_bs (by rw [hl1]; rfl) fun q hq=>by
  have hq : q < r.b.length + 1:=hq
  show [rbF _ (0 + q)] = _
  unfold rbF
  rw [Nat.zero_add,if_pos (by rw [hl1]; exact hq)]
 by_cases gn : 0 < r.run.n
 ·have hz : rlI r.run = 49:=by unfold rlI; rw [if_neg (by omega),hl]; rfl
  have hR : C.v (.int .u8 (rlI r.run)) = C.v (.int .u8 (rlI ⟨r.run.last,r.run.n + 1⟩)):=by unfold rlI; rw [if_neg (by omega),if_neg (by show ¬ r.run.n + 1 = 0; omega)]
  rw [add_same (b:=true) gn hl.symm] at e0
  refine wB ?_
  rw [show decide ((49 : Int) = 49) = true from rfl]
  rw [hA,hM]
  refine add_use h4 ?_
  refine wB ?_
  rw [if_neg (by omega)] at e0
  refine cT (bytesB_mk fun q hq=>⟨_,rfl⟩) ?_
  refine wB ?_
  rw [hS]
  refine need_use (by rw [bs_size,List.length_append]; show r.b.length + 1 ≤ 1000; omega) ?_
  rw [rd_bs]
  rcases hnd : need (r.b ++ [true]) with ⟨nn,ee⟩
  rw [hnd] at e0
  simp only at e0
  by_cases h0 : ee = 0
  ·rw [if_neg (by simp [h0])] at e0
   subst h0
   refine wB ?_
   refine Trim.det ?_
   rw [e0]
   conv=>whnf
   refine Le.id rfl ?_ ?_
   ·refine ⟨⟨rfl,rfl,rfl,rfl,rfl,rfl,rfl,rfl,rfl,rfl,rfl,rfl,rfl,hR,rfl,⟨rfl,fun _ _=>rfl⟩,hC,rfl,rfl,rfl,rfl,trivial⟩,trivial⟩
   ·exact rfl
  ·rw [if_pos h0] at e0
   refine wB ?_
   refine Trim.det ?_
   rw [e0]
   conv=>whnf
   refine Le.id rfl ?_ ?_
   ·refine ⟨⟨rfl,rfl,rfl,rfl,rfl,rfl,rfl,rfl,rfl,rfl,rfl,rfl,rfl,hR,rfl,⟨rfl,fun _ _=>rfl⟩,hC,rfl,rfl,rfl,rfl,trivial⟩,trivial⟩
   ·exact rfl
 ·have hR : C.v (.int .u8 49) = C.v (.int .u8 (rlI ⟨true,1⟩)):=rfl
  rw [add_un (b:=true) (fun h=>gn h.1)] at e0
  refine wB ?_
  rw [show decide ((49 : Int) = 49) = true from rfl]
  rw [hA,hM]
  refine add_use h4 ?_
  refine wB ?_
  rw [if_neg (by omega)] at e0
  refine cT (bytesB_mk fun q hq=>⟨_,rfl⟩) ?_
  refine wB ?_
  rw [hS]
  refine need_use (by rw [bs_size,List.length_append]; show r.b.length + 1 ≤ 1000; omega) ?_
  rw [rd_bs]
  rcases hnd : need (r.b ++ [true]) with ⟨nn,ee⟩
  rw [hnd] at e0
  simp only at e0
  by_cases h0 : ee = 0
  ·rw [if_neg (by simp [h0])] at e0
   subst h0
   refine wB ?_
   refine Trim.det ?_
   rw [e0]
   conv=>whnf
   refine Le.id rfl ?_ ?_
   ·refine ⟨⟨rfl,rfl,rfl,rfl,rfl,rfl,rfl,rfl,rfl,rfl,rfl,rfl,rfl,hR,rfl,⟨rfl,fun _ _=>rfl⟩,hC,rfl,rfl,rfl,rfl,trivial⟩,trivial⟩
   ·exact rfl
  ·rw [if_pos h0] at e0
   refine wB ?_
   refine Trim.det ?_
   rw [e0]
   conv=>whnf
   refine Le.id rfl ?_ ?_
   ·refine ⟨⟨rfl,rfl,rfl,rfl,rfl,rfl,rfl,rfl,rfl,rfl,rfl,rfl,rfl,hR,rfl,⟨rfl,fun _ _=>rfl⟩,hC,rfl,rfl,rfl,rfl,trivial⟩,trivial⟩
   ·exact rfl
theorem psm_a_true_i1_false (x : Nat → Value) (r : Rd) (hr : r.Ok) (hf : r.fin ≤ 1000000) (g : r.need = 0) (g5 : ¬ r.run.n = 5) (hl : r.run.last = false) : clRunX 6 tt outsPsh tabPsh 5 F.code_Reader_Push [] [.t (.one (.ptr 0 13)),iv .u8 49] [rdM x r] (fun y h=>Trim 1 y h fun y h=>y = iv .i64 ((r.push true).2 : Nat) ∧ h = [rdM x (r.push true).1]):=by
 have hb:=hr.len
 obtain ⟨h1,h2,h3,h4,h5⟩:=hr
 have e0 : r.push true = if r.inB = true ∨ (r.run.n = 5 ∧ r.laid = false ∧ r.fin = 0) then
  if r.run.n = 5 ∧ true = r.run.last then (r,20)
  else if r.run.n = 5 then ({ r with run:=r.run.add true,laid:=!r.inB },0)
  else ({ r with run:=r.run.add true } : Rd).add true
 else r.tail true:=rfl
 have hin : r.inB = decide (r.need = 0 ∨ r.b.length < r.need + 15):=rfl
 have hi : r.inB = true:=by rw [hin]; exact decide_eq_true (.inl g)
 rw [if_pos (.inl hi)] at e0
 rw [if_neg (fun h=>g5 h.1),if_neg g5] at e0
 have hnb:=need_bd (r.b ++ [true])
 have e1 : ({ r with run:=r.run.add true } : Rd).add true = if 0 < r.need then ({ r with run:=r.run.add true,b:=r.b ++ [true],sum:=crcAdd r.sum true },0)
  else if (need (r.b ++ [true])).2 ≠ 0 then ({ r with run:=r.run.add true,b:=r.b ++ [true],sum:=crcAdd r.sum true },(need (r.b ++ [true])).2)
  else ({ r with run:=r.run.add true,b:=r.b ++ [true],sum:=crcAdd r.sum true,need:=(need (r.b ++ [true])).1 },0):=rfl
 rw [e1] at e0
 have hl1 : (r.b ++ [true]).length = r.b.length + 1:=by rw [List.length_append]; rfl
 have hC : C.v (.int .i64 ((r.b.length + 1 : Nat) : Int)) = C.v (.int .i64 (((r.b ++ [true]).length : Nat) : Int)):=by rw [hl1]
 have hA:=arr_up r.b true 49 rfl hb
 have hM : (r.b.length : Int) + ((min 1 (128 - (r.b.length : Int).toNat) : Nat) : Int) = ((r.b.length + 1 : Nat) : Int):=by omega
 have hS : mkStr (((r.b.length + 1 : Nat) : Int).toNat - 0) (fun i=>[rbF (r.b ++ [true]) (0 + i)]) = bs (r.b ++ [true]):=mkStr_bs (by rw [hl1]; rfl) fun q hq=>by
  have hq : q < r.b.length + 1:=hq
  show [rbF _ (0 + q)] = _
  unfold rbF
  rw [Nat.zero_add,if_pos (by rw [hl1]; exact hq)]
 have hz : 0 < r.run.n → rlI r.run = 48:=fun h=>by unfold rlI; rw [if_neg (by omega),hl]; rfl
 by_cases gn : 0 < r.run.n
 ·have hz:=hz gn
  have hR : C.v (.int .u8 49) = C.v (.int .u8 (rlI ⟨true,1⟩)):=rfl
  rw [add_un (b:=true) (fun h=>by have h:=h.2; rw [hl] at h; cases h)] at e0
  refine wB ?_
  rw [show decide ((49 : Int) = 49) = true from rfl]
  rw [hA,hM]
  refine add_use h4 ?_
  refine wB ?_
  rw [if_neg (by omega)] at e0
  refine cT (bytesB_mk fun q hq=>⟨_,rfl⟩) ?_
  refine wB ?_
  rw [hS]
  refine need_use (by rw [bs_size,List.length_append]; show r.b.length + 1 ≤ 1000; omega) ?_
  rw [rd_bs]
  rcases hnd : need (r.b ++ [true]) with ⟨nn,ee⟩
  rw [hnd] at e0
  simp only at e0
  by_cases h0 : ee = 0
  ·rw [if_neg (by simp [h0])] at e0
   subst h0
   refine wB ?_
   refine Trim.det ?_
   rw [e0]
   conv=>whnf
   refine Le.id rfl ?_ ?_
   ·refine ⟨⟨rfl,rfl,rfl,rfl,rfl,rfl,rfl,rfl,rfl,rfl,rfl,rfl,rfl,hR,rfl,⟨rfl,fun _ _=>rfl⟩,hC,rfl,rfl,rfl,rfl,trivial⟩,trivial⟩
   ·exact rfl
  ·rw [if_pos h0] at e0
   refine wB ?_
   refine Trim.det ?_
   rw [e0]
   conv=>whnf
   refine Le.id rfl ?_ ?_
   ·refine ⟨⟨rfl,rfl,rfl,rfl,rfl,rfl,rfl,rfl,rfl,rfl,rfl,rfl,rfl,hR,rfl,⟨rfl,fun _ _=>rfl⟩,hC,rfl,rfl,rfl,rfl,trivial⟩,trivial⟩
   ·exact rfl
 ·have hR : C.v (.int .u8 49) = C.v (.int .u8 (rlI ⟨true,1⟩)):=rfl
  rw [add_un (b:=true) (fun h=>gn h.1)] at e0
  refine wB ?_
  rw [show decide ((49 : Int) = 49) = true from rfl]
  rw [hA,hM]
  refine add_use h4 ?_
  refine wB ?_
  rw [if_neg (by omega)] at e0
  refine cT (bytesB_mk fun q hq=>⟨_,rfl⟩) ?_
  refine wB ?_
  rw [hS]
  refine need_use (by rw [bs_size,List.length_append]; show r.b.length + 1 ≤ 1000; omega) ?_
  rw [rd_bs]
  rcases hnd : need (r.b ++ [true]) with ⟨nn,ee⟩
  rw [hnd] at e0
  simp only at e0
  by_cases h0 : ee = 0
  ·rw [if_neg (by simp [h0])] at e0
   subst h0
   refine wB ?_
   refine Trim.det ?_
   rw [e0]
   conv=>whnf
   refine Le.id rfl ?_ ?_
   ·refine ⟨⟨rfl,rfl,rfl,rfl,rfl,rfl,rfl,rfl,rfl,rfl,rfl,rfl,rfl,hR,rfl,⟨rfl,fun _ _=>rfl⟩,hC,rfl,rfl,rfl,rfl,trivial⟩,trivial⟩
   ·exact rfl
  ·rw [if_pos h0] at e0
   refine wB ?_
   refine Trim.det ?_
   rw [e0]
   conv=>whnf
   refine Le.id rfl ?_ ?_
   ·refine ⟨⟨rfl,rfl,rfl,rfl,rfl,rfl,rfl,rfl,rfl,rfl,rfl,rfl,rfl,hR,rfl,⟨rfl,fun _ _=>rfl⟩,hC,rfl,rfl,rfl,rfl,trivial⟩,trivial⟩
   ·exact rfl
theorem psm_a_true_i2_true (x : Nat → Value) (r : Rd) (hr : r.Ok) (hf : r.fin ≤ 1000000) (g0 : ¬ r.need = 0) (g : r.b.length < r.need + 15) (g5 : ¬ r.run.n = 5) (hl : r.run.last = true) : clRunX 6 tt outsPsh tabPsh 5 F.code_Reader_Push [] [.t (.one (.ptr 0 13)),iv .u8 49] [rdM x r] (fun y h=>Trim 1 y h fun y h=>y = iv .i64 ((r.push true).2 : Nat) ∧ h = [rdM x (r.push true).1]):=by
 have hb:=hr.len
 obtain ⟨h1,h2,h3,h4,h5⟩:=hr
 have e0 : r.push true = if r.inB = true ∨ (r.run.n = 5 ∧ r.laid = false ∧ r.fin = 0) then
  if r.run.n = 5 ∧ true = r.run.last then (r,20)
  else if r.run.n = 5 then ({ r with run:=r.run.add true,laid:=!r.inB },0)
  else ({ r with run:=r.run.add true } : Rd).add true
 else r.tail true:=rfl
 have hin : r.inB = decide (r.need = 0 ∨ r.b.length < r.need + 15):=rfl
 have hi : r.inB = true:=by rw [hin]; exact decide_eq_true (.inr g)
 rw [if_pos (.inl hi)] at e0
 rw [if_neg (fun h=>g5 h.1),if_neg g5] at e0
 have hnb:=need_bd (r.b ++ [true])
 have e1 : ({ r with run:=r.run.add true } : Rd).add true = if 0 < r.need then ({ r with run:=r.run.add true,b:=r.b ++ [true],sum:=crcAdd r.sum true },0)
  else if (need (r.b ++ [true])).2 ≠ 0 then ({ r with run:=r.run.add true,b:=r.b ++ [true],sum:=crcAdd r.sum true },(need (r.b ++ [true])).2)
  else ({ r with run:=r.run.add true,b:=r.b ++ [true],sum:=crcAdd r.sum true,need:=(need (r.b ++ [true])).1 },0):=rfl
 rw [e1] at e0
 have hl1 : (r.b ++ [true]).length = r.b.length + 1:=by rw [List.length_append]; rfl
 have hC : C.v (.int .i64 ((r.b.length + 1 : Nat) : Int)) = C.v (.int .i64 (((r.b ++ [true]).length : Nat) : Int)):=by rw [hl1]
 have hA:=arr_up r.b true 49 rfl hb
 have hM : (r.b.length : Int) + ((min 1 (128 - (r.b.length : Int).toNat) : Nat) : Int) = ((r.b.length + 1 : Nat) : Int):=by omega
 have hS : mkStr (((r.b.length + 1 : Nat) : Int).toNat - 0) (fun i=>[rbF (r.b ++ [true]) (0 + i)]) = bs (r.b ++ [true]):=mkStr_bs (by rw [hl1]; rfl) fun q hq=>by
  have hq : q < r.b.length + 1:=hq
  show [rbF _ (0 + q)] = _
  unfold rbF
  rw [Nat.zero_add,if_pos (by rw [hl1]; exact hq)]
 by_cases gn : 0 < r.run.n
 ·have hz : rlI r.run = 49:=by unfold rlI; rw [if_neg (by omega),hl]; rfl
  have hR : C.v (.int .u8 (rlI r.run)) = C.v (.int .u8 (rlI ⟨r.run.last,r.run.n + 1⟩)):=by unfold rlI; rw [if_neg (by omega),if_neg (by show ¬ r.run.n + 1 = 0; omega)]
  rw [add_same (b:=true) gn hl.symm] at e0
  refine wB ?_
  rw [show decide ((49 : Int) = 49) = true from rfl]
  rw [hA,hM]
  refine add_use h4 ?_
  refine wB ?_
  rw [if_pos (by omega)] at e0
  refine Trim.det ?_
  rw [e0]
  conv=>whnf
  refine Le.id rfl ?_ ?_
  ·refine ⟨⟨rfl,rfl,rfl,rfl,rfl,rfl,rfl,rfl,rfl,rfl,rfl,rfl,rfl,hR,rfl,⟨rfl,fun _ _=>rfl⟩,hC,rfl,rfl,rfl,rfl,trivial⟩,trivial⟩
  ·exact rfl
 ·have hR : C.v (.int .u8 49) = C.v (.int .u8 (rlI ⟨true,1⟩)):=rfl
  rw [add_un (b:=true) (fun h=>gn h.1)] at e0
  refine wB ?_
  rw [show decide ((49 : Int) = 49) = true from rfl]
  rw [hA,hM]
  refine add_use h4 ?_
  refine wB ?_
  rw [if_pos (by omega)] at e0
  refine Trim.det ?_
  rw [e0]
  conv=>whnf
  refine Le.id rfl ?_ ?_
  ·refine ⟨⟨rfl,rfl,rfl,rfl,rfl,rfl,rfl,rfl,rfl,rfl,rfl,rfl,rfl,hR,rfl,⟨rfl,fun _ _=>rfl⟩,hC,rfl,rfl,rfl,rfl,trivial⟩,trivial⟩
  ·exact rfl
theorem psm_a_true_i2_false (x : Nat → Value) (r : Rd) (hr : r.Ok) (hf : r.fin ≤ 1000000) (g0 : ¬ r.need = 0) (g : r.b.length < r.need + 15) (g5 : ¬ r.run.n = 5) (hl : r.run.last = false) : clRunX 6 tt outsPsh tabPsh 5 F.code_Reader_Push [] [.t (.one (.ptr 0 13)),iv .u8 49] [rdM x r] (fun y h=>Trim 1 y h fun y h=>y = iv .i64 ((r.push true).2 : Nat) ∧ h = [rdM x (r.push true).1]):=by
 have hb:=hr.len
 obtain ⟨h1,h2,h3,h4,h5⟩:=hr
 have e0 : r.push true = if r.inB = true ∨ (r.run.n = 5 ∧ r.laid = false ∧ r.fin = 0) then
  if r.run.n = 5 ∧ true = r.run.last then (r,20)
  else if r.run.n = 5 then ({ r with run:=r.run.add true,laid:=!r.inB },0)
  else ({ r with run:=r.run.add true } : Rd).add true
 else r.tail true:=rfl
 have hin : r.inB = decide (r.need = 0 ∨ r.b.length < r.need + 15):=rfl
 have hi : r.inB = true:=by rw [hin]; exact decide_eq_true (.inr g)
 rw [if_pos (.inl hi)] at e0
 rw [if_neg (fun h=>g5 h.1),if_neg g5] at e0
 have hnb:=need_bd (r.b ++ [true])
 have e1 : ({ r with run:=r.run.add true } : Rd).add true = if 0 < r.need then ({ r with run:=r.run.add true,b:=r.b ++ [true],sum:=crcAdd r.sum true },0)
  else if (need (r.b ++ [true])).2 ≠ 0 then ({ r with run:=r.run.add true,b:=r.b ++ [true],sum:=crcAdd r.sum true },(need (r.b ++ [true])).2)
  else ({ r with run:=r.run.add true,b:=r.b ++ [true],sum:=crcAdd r.sum true,need:=(need (r.b ++ [true])).1 },0):=rfl
 rw [e1] at e0
 have hl1 : (r.b ++ [true]).length = r.b.length + 1:=by rw [List.length_append]; rfl
 have hC : C.v (.int .i64 ((r.b.length + 1 : Nat) : Int)) = C.v (.int .i64 (((r.b ++ [true]).length : Nat) : Int)):=by rw [hl1]
 have hA:=arr_up r.b true 49 rfl hb
 have hM : (r.b.length : Int) + ((min 1 (128 - (r.b.length : Int).toNat) : Nat) : Int) = ((r.b.length + 1 : Nat) : Int):=by omega
 have hS : mkStr (((r.b.length + 1 : Nat) : Int).toNat - 0) (fun i=>[rbF (r.b ++ [true]) (0 + i)]) = bs (r.b ++ [true]):=mkStr_bs (by rw [hl1]; rfl) fun q hq=>by
  have hq : q < r.b.length + 1:=hq
  show [rbF _ (0 + q)] = _
  unfold rbF
  rw [Nat.zero_add,if_pos (by rw [hl1]; exact hq)]
 have hz : 0 < r.run.n → rlI r.run = 48:=fun h=>by unfold rlI; rw [if_neg (by omega),hl]; rfl
 by_cases gn : 0 < r.run.n
 ·have hz:=hz gn
  have hR : C.v (.int .u8 49) = C.v (.int .u8 (rlI ⟨true,1⟩)):=rfl
  rw [add_un (b:=true) (fun h=>by have h:=h.2; rw [hl] at h; cases h)] at e0
  refine wB ?_
  rw [show decide ((49 : Int) = 49) = true from rfl]
  rw [hA,hM]
  refine add_use h4 ?_
  refine wB ?_
  rw [if_pos (by omega)] at e0
  refine Trim.det ?_
  rw [e0]
  conv=>whnf
  refine Le.id rfl ?_ ?_
  ·refine ⟨⟨rfl,rfl,rfl,rfl,rfl,rfl,rfl,rfl,rfl,rfl,rfl,rfl,rfl,hR,rfl,⟨rfl,fun _ _=>rfl⟩,hC,rfl,rfl,rfl,rfl,trivial⟩,trivial⟩
  ·exact rfl
 ·have hR : C.v (.int .u8 49) = C.v (.int .u8 (rlI ⟨true,1⟩)):=rfl
  rw [add_un (b:=true) (fun h=>gn h.1)] at e0
  refine wB ?_
  rw [show decide ((49 : Int) = 49) = true from rfl]
  rw [hA,hM]
  refine add_use h4 ?_
  refine wB ?_
  rw [if_pos (by omega)] at e0
  refine Trim.det ?_
  rw [e0]
  conv=>whnf
  refine Le.id rfl ?_ ?_
  ·refine ⟨⟨rfl,rfl,rfl,rfl,rfl,rfl,rfl,rfl,rfl,rfl,rfl,rfl,rfl,hR,rfl,⟨rfl,fun _ _=>rfl⟩,hC,rfl,rfl,rfl,rfl,trivial⟩,trivial⟩
  ·exact rfl
theorem psm_a_false_i1_true (x : Nat → Value) (r : Rd) (hr : r.Ok) (hf : r.fin ≤ 1000000) (g : r.need = 0) (g5 : ¬ r.run.n = 5) (hl : r.run.last = true) : clRunX 6 tt outsPsh tabPsh 5 F.code_Reader_Push [] [.t (.one (.ptr 0 13)),iv .u8 48] [rdM x r] (fun y h=>Trim 1 y h fun y h=>y = iv .i64 ((r.push false).2 : Nat) ∧ h = [rdM x (r.push false).1]):=by
 have hb:=hr.len
 obtain ⟨h1,h2,h3,h4,h5⟩:=hr
 have e0 : r.push false = if r.inB = true ∨ (r.run.n = 5 ∧ r.laid = false ∧ r.fin = 0) then
  if r.run.n = 5 ∧ false = r.run.last then (r,20)
  else if r.run.n = 5 then ({ r with run:=r.run.add false,laid:=!r.inB },0)
  else ({ r with run:=r.run.add false } : Rd).add false
 else r.tail false:=rfl
 have hin : r.inB = decide (r.need = 0 ∨ r.b.length < r.need + 15):=rfl
 have hi : r.inB = true:=by rw [hin]; exact decide_eq_true (.inl g)
 rw [if_pos (.inl hi)] at e0
 rw [if_neg (fun h=>g5 h.1),if_neg g5] at e0
 have hnb:=need_bd (r.b ++ [false])
 have e1 : ({ r with run:=r.run.add false } : Rd).add false = if 0 < r.need then ({ r with run:=r.run.add false,b:=r.b ++ [false],sum:=crcAdd r.sum false },0)
  else if (need (r.b ++ [false])).2 ≠ 0 then ({ r with run:=r.run.add false,b:=r.b ++ [false],sum:=crcAdd r.sum false },(need (r.b ++ [false])).2)
  else ({ r with run:=r.run.add false,b:=r.b ++ [false],sum:=crcAdd r.sum false,need:=(need (r.b ++ [false])).1 },0):=rfl
 rw [e1] at e0
 have hl1 : (r.b ++ [false]).length = r.b.length + 1:=by rw [List.length_append]; rfl
 have hC : C.v (.int .i64 ((r.b.length + 1 : Nat) : Int)) = C.v (.int .i64 (((r.b ++ [false]).length : Nat) : Int)):=by rw [hl1]
 have hA:=arr_up r.b false 48 rfl hb
 have hM : (r.b.length : Int) + ((min 1 (128 - (r.b.length : Int).toNat) : Nat) : Int) = ((r.b.length + 1 : Nat) : Int):=by omega
 have hS : mkStr (((r.b.length + 1 : Nat) : Int).toNat - 0) (fun i=>[rbF (r.b ++ [false]) (0 + i)]) = bs (r.b ++ [false]):=mkStr_bs (by rw [hl1]; rfl) fun q hq=>by
  have hq : q < r.b.length + 1:=hq
  show [rbF _ (0 + q)] = _
  unfold rbF
  rw [Nat.zero_add,if_pos (by rw [hl1]; exact hq)]
 have hz : 0 < r.run.n → rlI r.run = 49:=fun h=>by unfold rlI; rw [if_neg (by omega),hl]; rfl
 by_cases gn : 0 < r.run.n
 ·have hz:=hz gn
  have hR : C.v (.int .u8 48) = C.v (.int .u8 (rlI ⟨false,1⟩)):=rfl
  rw [add_un (b:=false) (fun h=>by have h:=h.2; rw [hl] at h; cases h)] at e0
  refine wB ?_
  rw [show decide ((48 : Int) = 49) = false from rfl]
  rw [hA,hM]
  refine add_use h4 ?_
  refine wB ?_
  rw [if_neg (by omega)] at e0
  refine cT (bytesB_mk fun q hq=>⟨_,rfl⟩) ?_
  refine wB ?_
  rw [hS]
  refine need_use (by rw [bs_size,List.length_append]; show r.b.length + 1 ≤ 1000; omega) ?_
  rw [rd_bs]
  rcases hnd : need (r.b ++ [false]) with ⟨nn,ee⟩
  rw [hnd] at e0
  simp only at e0
  by_cases h0 : ee = 0
  ·rw [if_neg (by simp [h0])] at e0
   subst h0
   refine wB ?_
   refine Trim.det ?_
   rw [e0]
   conv=>whnf
   refine Le.id rfl ?_ ?_
   ·refine ⟨⟨rfl,rfl,rfl,rfl,rfl,rfl,rfl,rfl,rfl,rfl,rfl,rfl,rfl,hR,rfl,⟨rfl,fun _ _=>rfl⟩,hC,rfl,rfl,rfl,rfl,trivial⟩,trivial⟩
   ·exact rfl
  ·rw [if_pos h0] at e0
   refine wB ?_
   refine Trim.det ?_
   rw [e0]
   conv=>whnf
   refine Le.id rfl ?_ ?_
   ·refine ⟨⟨rfl,rfl,rfl,rfl,rfl,rfl,rfl,rfl,rfl,rfl,rfl,rfl,rfl,hR,rfl,⟨rfl,fun _ _=>rfl⟩,hC,rfl,rfl,rfl,rfl,trivial⟩,trivial⟩
   ·exact rfl
 ·have hR : C.v (.int .u8 48) = C.v (.int .u8 (rlI ⟨false,1⟩)):=rfl
  rw [add_un (b:=false) (fun h=>gn h.1)] at e0
  refine wB ?_
  rw [show decide ((48 : Int) = 49) = false from rfl]
  rw [hA,hM]
  refine add_use h4 ?_
  refine wB ?_
  rw [if_neg (by omega)] at e0
  refine cT (bytesB_mk fun q hq=>⟨_,rfl⟩) ?_
  refine wB ?_
  rw [hS]
  refine need_use (by rw [bs_size,List.length_append]; show r.b.length + 1 ≤ 1000; omega) ?_
  rw [rd_bs]
  rcases hnd : need (r.b ++ [false]) with ⟨nn,ee⟩
  rw [hnd] at e0
  simp only at e0
  by_cases h0 : ee = 0
  ·rw [if_neg (by simp [h0])] at e0
   subst h0
   refine wB ?_
   refine Trim.det ?_
   rw [e0]
   conv=>whnf
   refine Le.id rfl ?_ ?_
   ·refine ⟨⟨rfl,rfl,rfl,rfl,rfl,rfl,rfl,rfl,rfl,rfl,rfl,rfl,rfl,hR,rfl,⟨rfl,fun _ _=>rfl⟩,hC,rfl,rfl,rfl,rfl,trivial⟩,trivial⟩
   ·exact rfl
  ·rw [if_pos h0] at e0
   refine wB ?_
   refine Trim.det ?_
   rw [e0]
   conv=>whnf
   refine Le.id rfl ?_ ?_
   ·refine ⟨⟨rfl,rfl,rfl,rfl,rfl,rfl,rfl,rfl,rfl,rfl,rfl,rfl,rfl,hR,rfl,⟨rfl,fun _ _=>rfl⟩,hC,rfl,rfl,rfl,rfl,trivial⟩,trivial⟩
   ·exact rfl
theorem psm_a_false_i1_false (x : Nat → Value) (r : Rd) (hr : r.Ok) (hf : r.fin ≤ 1000000) (g : r.need = 0) (g5 : ¬ r.run.n = 5) (hl : r.run.last = false) : clRunX 6 tt outsPsh tabPsh 5 F.code_Reader_Push [] [.t (.one (.ptr 0 13)),iv .u8 48] [rdM x r] (fun y h=>Trim 1 y h fun y h=>y = iv .i64 ((r.push false).2 : Nat) ∧ h = [rdM x (r.push false).1]):=by
 have hb:=hr.len
 obtain ⟨h1,h2,h3,h4,h5⟩:=hr
 have e0 : r.push false = if r.inB = true ∨ (r.run.n = 5 ∧ r.laid = false ∧ r.fin = 0) then
  if r.run.n = 5 ∧ false = r.run.last then (r,20)
  else if r.run.n = 5 then ({ r with run:=r.run.add false,laid:=!r.inB },0)
  else ({ r with run:=r.run.add false } : Rd).add false
 else r.tail false:=rfl
 have hin : r.inB = decide (r.need = 0 ∨ r.b.length < r.need + 15):=rfl
 have hi : r.inB = true:=by rw [hin]; exact decide_eq_true (.inl g)
 rw [if_pos (.inl hi)] at e0
 rw [if_neg (fun h=>g5 h.1),if_neg g5] at e0
 have hnb:=need_bd (r.b ++ [false])
 have e1 : ({ r with run:=r.run.add false } : Rd).add false = if 0 < r.need then ({ r with run:=r.run.add false,b:=r.b ++ [false],sum:=crcAdd r.sum false },0)
  else if (need (r.b ++ [false])).2 ≠ 0 then ({ r with run:=r.run.add false,b:=r.b ++ [false],sum:=crcAdd r.sum false },(need (r.b ++ [false])).2)
  else ({ r with run:=r.run.add false,b:=r.b ++ [false],sum:=crcAdd r.sum false,need:=(need (r.b ++ [false])).1 },0):=rfl
 rw [e1] at e0
 have hl1 : (r.b ++ [false]).length = r.b.length + 1:=by rw [List.length_append]; rfl
 have hC : C.v (.int .i64 ((r.b.length + 1 : Nat) : Int)) = C.v (.int .i64 (((r.b ++ [false]).length : Nat) : Int)):=by rw [hl1]
 have hA:=arr_up r.b false 48 rfl hb
 have hM : (r.b.length : Int) + ((min 1 (128 - (r.b.length : Int).toNat) : Nat) : Int) = ((r.b.length + 1 : Nat) : Int):=by omega
 have hS : mkStr (((r.b.length + 1 : Nat) : Int).toNat - 0) (fun i=>[rbF (r.b ++ [false]) (0 + i)]) = bs (r.b ++ [false]):=mkStr_bs (by rw [hl1]; rfl) fun q hq=>by
  have hq : q < r.b.length + 1:=hq
  show [rbF _ (0 + q)] = _
  unfold rbF
  rw [Nat.zero_add,if_pos (by rw [hl1]; exact hq)]
 by_cases gn : 0 < r.run.n
 ·have hz : rlI r.run = 48:=by unfold rlI; rw [if_neg (by omega),hl]; rfl
  have hR : C.v (.int .u8 (rlI r.run)) = C.v (.int .u8 (rlI ⟨r.run.last,r.run.n + 1⟩)):=by unfold rlI; rw [if_neg (by omega),if_neg (by show ¬ r.run.n + 1 = 0; omega)]
  rw [add_same (b:=false) gn hl.symm] at e0
  refine wB ?_
  rw [show decide ((48 : Int) = 49) = false from rfl]
  rw [hA,hM]
  refine add_use h4 ?_
  refine wB ?_
  rw [if_neg (by omega)] at e0
  refine cT (bytesB_mk fun q hq=>⟨_,rfl⟩) ?_
  refine wB ?_
  rw [hS]
  refine need_use (by rw [bs_size,List.length_append]; show r.b.length + 1 ≤ 1000; omega) ?_
  rw [rd_bs]
  rcases hnd : need (r.b ++ [false]) with ⟨nn,ee⟩
  rw [hnd] at e0
  simp only at e0
  by_cases h0 : ee = 0
  ·rw [if_neg (by simp [h0])] at e0
   subst h0
   refine wB ?_
   refine Trim.det ?_
   rw [e0]
   conv=>whnf
   refine Le.id rfl ?_ ?_
   ·refine ⟨⟨rfl,rfl,rfl,rfl,rfl,rfl,rfl,rfl,rfl,rfl,rfl,rfl,rfl,hR,rfl,⟨rfl,fun _ _=>rfl⟩,hC,rfl,rfl,rfl,rfl,trivial⟩,trivial⟩
   ·exact rfl
  ·rw [if_pos h0] at e0
   refine wB ?_
   refine Trim.det ?_
   rw [e0]
   conv=>whnf
   refine Le.id rfl ?_ ?_
   ·refine ⟨⟨rfl,rfl,rfl,rfl,rfl,rfl,rfl,rfl,rfl,rfl,rfl,rfl,rfl,hR,rfl,⟨rfl,fun _ _=>rfl⟩,hC,rfl,rfl,rfl,rfl,trivial⟩,trivial⟩
   ·exact rfl
 ·have hR : C.v (.int .u8 48) = C.v (.int .u8 (rlI ⟨false,1⟩)):=rfl
  rw [add_un (b:=false) (fun h=>gn h.1)] at e0
  refine wB ?_
  rw [show decide ((48 : Int) = 49) = false from rfl]
  rw [hA,hM]
  refine add_use h4 ?_
  refine wB ?_
  rw [if_neg (by omega)] at e0
  refine cT (bytesB_mk fun q hq=>⟨_,rfl⟩) ?_
  refine wB ?_
  rw [hS]
  refine need_use (by rw [bs_size,List.length_append]; show r.b.length + 1 ≤ 1000; omega) ?_
  rw [rd_bs]
  rcases hnd : need (r.b ++ [false]) with ⟨nn,ee⟩
  rw [hnd] at e0
  simp only at e0
  by_cases h0 : ee = 0
  ·rw [if_neg (by simp [h0])] at e0
   subst h0
   refine wB ?_
   refine Trim.det ?_
   rw [e0]
   conv=>whnf
   refine Le.id rfl ?_ ?_
   ·refine ⟨⟨rfl,rfl,rfl,rfl,rfl,rfl,rfl,rfl,rfl,rfl,rfl,rfl,rfl,hR,rfl,⟨rfl,fun _ _=>rfl⟩,hC,rfl,rfl,rfl,rfl,trivial⟩,trivial⟩
   ·exact rfl
  ·rw [if_pos h0] at e0
   refine wB ?_
   refine Trim.det ?_
   rw [e0]
   conv=>whnf
   refine Le.id rfl ?_ ?_
   ·refine ⟨⟨rfl,rfl,rfl,rfl,rfl,rfl,rfl,rfl,rfl,rfl,rfl,rfl,rfl,hR,rfl,⟨rfl,fun _ _=>rfl⟩,hC,rfl,rfl,rfl,rfl,trivial⟩,trivial⟩
   ·exact rfl
theorem psm_a_false_i2_true (x : Nat → Value) (r : Rd) (hr : r.Ok) (hf : r.fin ≤ 1000000) (g0 : ¬ r.need = 0) (g : r.b.length < r.need + 15) (g5 : ¬ r.run.n = 5) (hl : r.run.last = true) : clRunX 6 tt outsPsh tabPsh 5 F.code_Reader_Push [] [.t (.one (.ptr 0 13)),iv .u8 48] [rdM x r] (fun y h=>Trim 1 y h fun y h=>y = iv .i64 ((r.push false).2 : Nat) ∧ h = [rdM x (r.push false).1]):=by
 have hb:=hr.len
 obtain ⟨h1,h2,h3,h4,h5⟩:=hr
 have e0 : r.push false = if r.inB = true ∨ (r.run.n = 5 ∧ r.laid = false ∧ r.fin = 0) then
  if r.run.n = 5 ∧ false = r.run.last then (r,20)
  else if r.run.n = 5 then ({ r with run:=r.run.add false,laid:=!r.inB },0)
  else ({ r with run:=r.run.add false } : Rd).add false
 else r.tail false:=rfl
 have hin : r.inB = decide (r.need = 0 ∨ r.b.length < r.need + 15):=rfl
 have hi : r.inB = true:=by rw [hin]; exact decide_eq_true (.inr g)
 rw [if_pos (.inl hi)] at e0
 rw [if_neg (fun h=>g5 h.1),if_neg g5] at e0
 have hnb:=need_bd (r.b ++ [false])
 have e1 : ({ r with run:=r.run.add false } : Rd).add false = if 0 < r.need then ({ r with run:=r.run.add false,b:=r.b ++ [false],sum:=crcAdd r.sum false },0)
  else if (need (r.b ++ [false])).2 ≠ 0 then ({ r with run:=r.run.add false,b:=r.b ++ [false],sum:=crcAdd r.sum false },(need (r.b ++ [false])).2)
  else ({ r with run:=r.run.add false,b:=r.b ++ [false],sum:=crcAdd r.sum false,need:=(need (r.b ++ [false])).1 },0):=rfl
 rw [e1] at e0
 have hl1 : (r.b ++ [false]).length = r.b.length + 1:=by rw [List.length_append]; rfl
 have hC : C.v (.int .i64 ((r.b.length + 1 : Nat) : Int)) = C.v (.int .i64 (((r.b ++ [false]).length : Nat) : Int)):=by rw [hl1]
 have hA:=arr_up r.b false 48 rfl hb
 have hM : (r.b.length : Int) + ((min 1 (128 - (r.b.length : Int).toNat) : Nat) : Int) = ((r.b.length + 1 : Nat) : Int):=by omega
 have hS : mkStr (((r.b.length + 1 : Nat) : Int).toNat - 0) (fun i=>[rbF (r.b ++ [false]) (0 + i)]) = bs (r.b ++ [false]):=mkStr_bs (by rw [hl1]; rfl) fun q hq=>by
  have hq : q < r.b.length + 1:=hq
  show [rbF _ (0 + q)] = _
  unfold rbF
  rw [Nat.zero_add,if_pos (by rw [hl1]; exact hq)]
 have hz : 0 < r.run.n → rlI r.run = 49:=fun h=>by unfold rlI; rw [if_neg (by omega),hl]; rfl
 by_cases gn : 0 < r.run.n
 ·have hz:=hz gn
  have hR : C.v (.int .u8 48) = C.v (.int .u8 (rlI ⟨false,1⟩)):=rfl
  rw [add_un (b:=false) (fun h=>by have h:=h.2; rw [hl] at h; cases h)] at e0
  refine wB ?_
  rw [show decide ((48 : Int) = 49) = false from rfl]
  rw [hA,hM]
  refine add_use h4 ?_
  refine wB ?_
  rw [if_pos (by omega)] at e0
  refine Trim.det ?_
  rw [e0]
  conv=>whnf
  refine Le.id rfl ?_ ?_
  ·refine ⟨⟨rfl,rfl,rfl,rfl,rfl,rfl,rfl,rfl,rfl,rfl,rfl,rfl,rfl,hR,rfl,⟨rfl,fun _ _=>rfl⟩,hC,rfl,rfl,rfl,rfl,trivial⟩,trivial⟩
  ·exact rfl
 ·have hR : C.v (.int .u8 48) = C.v (.int .u8 (rlI ⟨false,1⟩)):=rfl
  rw [add_un (b:=false) (fun h=>gn h.1)] at e0
  refine wB ?_
  rw [show decide ((48 : Int) = 49) = false from rfl]
  rw [hA,hM]
  refine add_use h4 ?_
  refine wB ?_
  rw [if_pos (by omega)] at e0
  refine Trim.det ?_
  rw [e0]
  conv=>whnf
  refine Le.id rfl ?_ ?_
  ·refine ⟨⟨rfl,rfl,rfl,rfl,rfl,rfl,rfl,rfl,rfl,rfl,rfl,rfl,rfl,hR,rfl,⟨rfl,fun _ _=>rfl⟩,hC,rfl,rfl,rfl,rfl,trivial⟩,trivial⟩
  ·exact rfl
theorem psm_a_false_i2_false (x : Nat → Value) (r : Rd) (hr : r.Ok) (hf : r.fin ≤ 1000000) (g0 : ¬ r.need = 0) (g : r.b.length < r.need + 15) (g5 : ¬ r.run.n = 5) (hl : r.run.last = false) : clRunX 6 tt outsPsh tabPsh 5 F.code_Reader_Push [] [.t (.one (.ptr 0 13)),iv .u8 48] [rdM x r] (fun y h=>Trim 1 y h fun y h=>y = iv .i64 ((r.push false).2 : Nat) ∧ h = [rdM x (r.push false).1]):=by
 have hb:=hr.len
 obtain ⟨h1,h2,h3,h4,h5⟩:=hr
 have e0 : r.push false = if r.inB = true ∨ (r.run.n = 5 ∧ r.laid = false ∧ r.fin = 0) then
  if r.run.n = 5 ∧ false = r.run.last then (r,20)
  else if r.run.n = 5 then ({ r with run:=r.run.add false,laid:=!r.inB },0)
  else ({ r with run:=r.run.add false } : Rd).add false
 else r.tail false:=rfl
 have hin : r.inB = decide (r.need = 0 ∨ r.b.length < r.need + 15):=rfl
 have hi : r.inB = true:=by rw [hin]; exact decide_eq_true (.inr g)
 rw [if_pos (.inl hi)] at e0
 rw [if_neg (fun h=>g5 h.1),if_neg g5] at e0
 have hnb:=need_bd (r.b ++ [false])
 have e1 : ({ r with run:=r.run.add false } : Rd).add false = if 0 < r.need then ({ r with run:=r.run.add false,b:=r.b ++ [false],sum:=crcAdd r.sum false },0)
  else if (need (r.b ++ [false])).2 ≠ 0 then ({ r with run:=r.run.add false,b:=r.b ++ [false],sum:=crcAdd r.sum false },(need (r.b ++ [false])).2)
  else ({ r with run:=r.run.add false,b:=r.b ++ [false],sum:=crcAdd r.sum false,need:=(need (r.b ++ [false])).1 },0):=rfl
 rw [e1] at e0
 have hl1 : (r.b ++ [false]).length = r.b.length + 1:=by rw [List.length_append]; rfl
 have hC : C.v (.int .i64 ((r.b.length + 1 : Nat) : Int)) = C.v (.int .i64 (((r.b ++ [false]).length : Nat) : Int)):=by rw [hl1]
 have hA:=arr_up r.b false 48 rfl hb
 have hM : (r.b.length : Int) + ((min 1 (128 - (r.b.length : Int).toNat) : Nat) : Int) = ((r.b.length + 1 : Nat) : Int):=by omega
 have hS : mkStr (((r.b.length + 1 : Nat) : Int).toNat - 0) (fun i=>[rbF (r.b ++ [false]) (0 + i)]) = bs (r.b ++ [false]):=mkStr_bs (by rw [hl1]; rfl) fun q hq=>by
  have hq : q < r.b.length + 1:=hq
  show [rbF _ (0 + q)] = _
  unfold rbF
  rw [Nat.zero_add,if_pos (by rw [hl1]; exact hq)]
 by_cases gn : 0 < r.run.n
 ·have hz : rlI r.run = 48:=by unfold rlI; rw [if_neg (by omega),hl]; rfl
  have hR : C.v (.int .u8 (rlI r.run)) = C.v (.int .u8 (rlI ⟨r.run.last,r.run.n + 1⟩)):=by unfold rlI; rw [if_neg (by omega),if_neg (by show ¬ r.run.n + 1 = 0; omega)]
  rw [add_same (b:=false) gn hl.symm] at e0
  refine wB ?_
  rw [show decide ((48 : Int) = 49) = false from rfl]
  rw [hA,hM]
  refine add_use h4 ?_
  refine wB ?_
  rw [if_pos (by omega)] at e0
  refine Trim.det ?_
  rw [e0]
  conv=>whnf
  refine Le.id rfl ?_ ?_
  ·refine ⟨⟨rfl,rfl,rfl,rfl,rfl,rfl,rfl,rfl,rfl,rfl,rfl,rfl,rfl,hR,rfl,⟨rfl,fun _ _=>rfl⟩,hC,rfl,rfl,rfl,rfl,trivial⟩,trivial⟩
  ·exact rfl
 ·have hR : C.v (.int .u8 48) = C.v (.int .u8 (rlI ⟨false,1⟩)):=rfl
  rw [add_un (b:=false) (fun h=>gn h.1)] at e0
  refine wB ?_
  rw [show decide ((48 : Int) = 49) = false from rfl]
  rw [hA,hM]
  refine add_use h4 ?_
  refine wB ?_
  rw [if_pos (by omega)] at e0
  refine Trim.det ?_
  rw [e0]
  conv=>whnf
  refine Le.id rfl ?_ ?_
  ·refine ⟨⟨rfl,rfl,rfl,rfl,rfl,rfl,rfl,rfl,rfl,rfl,rfl,rfl,rfl,hR,rfl,⟨rfl,fun _ _=>rfl⟩,hC,rfl,rfl,rfl,rfl,trivial⟩,trivial⟩
  ·exact rfl
theorem psm_t_true_j1 (x : Nat → Value) (r : Rd) (hr : r.Ok) (hf : r.fin ≤ 1000000) (g0 : ¬ r.need = 0) (g : ¬ r.b.length < r.need + 15) (g5 : ¬ r.run.n = 5) : clRunX 6 tt outsPsh tabPsh 5 F.code_Reader_Push [] [.t (.one (.ptr 0 13)),iv .u8 49] [rdM x r] (fun y h=>Trim 1 y h fun y h=>y = iv .i64 ((r.push true).2 : Nat) ∧ h = [rdM x (r.push true).1]):=by
 have hb:=hr.len
 obtain ⟨h1,h2,h3,h4,h5⟩:=hr
 have e0 : r.push true = if r.inB = true ∨ (r.run.n = 5 ∧ r.laid = false ∧ r.fin = 0) then
  if r.run.n = 5 ∧ true = r.run.last then (r,20)
  else if r.run.n = 5 then ({ r with run:=r.run.add true,laid:=!r.inB },0)
  else ({ r with run:=r.run.add true } : Rd).add true
 else r.tail true:=rfl
 have hin : r.inB = decide (r.need = 0 ∨ r.b.length < r.need + 15):=rfl
 have hi : r.inB = false:=by rw [hin]; exact decide_eq_false (by omega)
 rw [if_neg (fun h=>by rcases h with h | h; rw [hi] at h; cases h; exact (fun h=>g5 h.1) h)] at e0
 have et : r.tail true = ({ r with fin:=r.fin + 1 },if r.fin + 1 = 2 then 0 else if true = false then 12 else if r.fin + 1 = 3 ∧ r.right = false then 40 else 0):=rfl
 rw [et] at e0
 have hq : r.right = decide (r.sum = 0):=by unfold Rd.right; rw [hi]; rfl
 by_cases f2 : r.fin + 1 = 2
 ·rw [if_pos f2] at e0
  refine wB ?_
  refine Trim.det ?_
  rw [e0]
  exact wF
 rw [if_neg f2,if_neg (by simp)] at e0
 by_cases f3 : r.fin + 1 = 3
 ·by_cases hs : r.sum = 0
  ·rw [if_neg (fun h=>by have h:=h.2; rw [hq,decide_eq_true hs] at h; cases h)] at e0
   refine wB ?_
   try rw [show decide ((r.sum : Int) = 0) = true from decide_eq_true (by omega)]
   refine wB ?_
   refine Trim.det ?_
   rw [e0]
   exact wF
  ·rw [if_pos ⟨f3,by rw [hq]; exact decide_eq_false hs⟩] at e0
   refine wB ?_
   try rw [show decide ((r.sum : Int) = 0) = false from decide_eq_false (by omega)]
   refine wB ?_
   refine Trim.det ?_
   rw [e0]
   exact wF
 rw [if_neg (fun h=>f3 h.1)] at e0
 refine wB ?_
 refine Trim.det ?_
 rw [e0]
 exact wF
theorem psm_t_true_j2 (x : Nat → Value) (r : Rd) (hr : r.Ok) (hf : r.fin ≤ 1000000) (g0 : ¬ r.need = 0) (g : ¬ r.b.length < r.need + 15) (g5 : r.run.n = 5) (gl : r.laid = true) : clRunX 6 tt outsPsh tabPsh 5 F.code_Reader_Push [] [.t (.one (.ptr 0 13)),iv .u8 49] [rdM x r] (fun y h=>Trim 1 y h fun y h=>y = iv .i64 ((r.push true).2 : Nat) ∧ h = [rdM x (r.push true).1]):=by
 have hb:=hr.len
 obtain ⟨h1,h2,h3,h4,h5⟩:=hr
 have e0 : r.push true = if r.inB = true ∨ (r.run.n = 5 ∧ r.laid = false ∧ r.fin = 0) then
  if r.run.n = 5 ∧ true = r.run.last then (r,20)
  else if r.run.n = 5 then ({ r with run:=r.run.add true,laid:=!r.inB },0)
  else ({ r with run:=r.run.add true } : Rd).add true
 else r.tail true:=rfl
 have hin : r.inB = decide (r.need = 0 ∨ r.b.length < r.need + 15):=rfl
 have hi : r.inB = false:=by rw [hin]; exact decide_eq_false (by omega)
 rw [if_neg (fun h=>by rcases h with h | h; rw [hi] at h; cases h; exact (fun h=>by have h:=h.2.1; rw [gl] at h; cases h) h)] at e0
 have et : r.tail true = ({ r with fin:=r.fin + 1 },if r.fin + 1 = 2 then 0 else if true = false then 12 else if r.fin + 1 = 3 ∧ r.right = false then 40 else 0):=rfl
 rw [et] at e0
 have hq : r.right = decide (r.sum = 0):=by unfold Rd.right; rw [hi]; rfl
 by_cases f2 : r.fin + 1 = 2
 ·rw [if_pos f2] at e0
  refine wB ?_
  rw [gl]
  refine wB ?_
  refine Trim.det ?_
  rw [e0]
  exact wF
 rw [if_neg f2,if_neg (by simp)] at e0
 by_cases f3 : r.fin + 1 = 3
 ·by_cases hs : r.sum = 0
  ·rw [if_neg (fun h=>by have h:=h.2; rw [hq,decide_eq_true hs] at h; cases h)] at e0
   refine wB ?_
   rw [gl]
   refine wB ?_
   try rw [show decide ((r.sum : Int) = 0) = true from decide_eq_true (by omega)]
   refine wB ?_
   refine Trim.det ?_
   rw [e0]
   exact wF
  ·rw [if_pos ⟨f3,by rw [hq]; exact decide_eq_false hs⟩] at e0
   refine wB ?_
   rw [gl]
   refine wB ?_
   try rw [show decide ((r.sum : Int) = 0) = false from decide_eq_false (by omega)]
   refine wB ?_
   refine Trim.det ?_
   rw [e0]
   exact wF
 rw [if_neg (fun h=>f3 h.1)] at e0
 refine wB ?_
 rw [gl]
 refine wB ?_
 refine Trim.det ?_
 rw [e0]
 exact wF
theorem psm_t_true_j3 (x : Nat → Value) (r : Rd) (hr : r.Ok) (hf : r.fin ≤ 1000000) (g0 : ¬ r.need = 0) (g : ¬ r.b.length < r.need + 15) (g5 : r.run.n = 5) (gl : r.laid = false) (gf : ¬ r.fin = 0) : clRunX 6 tt outsPsh tabPsh 5 F.code_Reader_Push [] [.t (.one (.ptr 0 13)),iv .u8 49] [rdM x r] (fun y h=>Trim 1 y h fun y h=>y = iv .i64 ((r.push true).2 : Nat) ∧ h = [rdM x (r.push true).1]):=by
 have hb:=hr.len
 obtain ⟨h1,h2,h3,h4,h5⟩:=hr
 have e0 : r.push true = if r.inB = true ∨ (r.run.n = 5 ∧ r.laid = false ∧ r.fin = 0) then
  if r.run.n = 5 ∧ true = r.run.last then (r,20)
  else if r.run.n = 5 then ({ r with run:=r.run.add true,laid:=!r.inB },0)
  else ({ r with run:=r.run.add true } : Rd).add true
 else r.tail true:=rfl
 have hin : r.inB = decide (r.need = 0 ∨ r.b.length < r.need + 15):=rfl
 have hi : r.inB = false:=by rw [hin]; exact decide_eq_false (by omega)
 rw [if_neg (fun h=>by rcases h with h | h; rw [hi] at h; cases h; exact (fun h=>gf h.2.2) h)] at e0
 have et : r.tail true = ({ r with fin:=r.fin + 1 },if r.fin + 1 = 2 then 0 else if true = false then 12 else if r.fin + 1 = 3 ∧ r.right = false then 40 else 0):=rfl
 rw [et] at e0
 have hq : r.right = decide (r.sum = 0):=by unfold Rd.right; rw [hi]; rfl
 by_cases f2 : r.fin + 1 = 2
 ·rw [if_pos f2] at e0
  refine wB ?_
  rw [gl]
  refine wB ?_
  refine Trim.det ?_
  rw [e0]
  exact wF
 rw [if_neg f2,if_neg (by simp)] at e0
 by_cases f3 : r.fin + 1 = 3
 ·by_cases hs : r.sum = 0
  ·rw [if_neg (fun h=>by have h:=h.2; rw [hq,decide_eq_true hs] at h; cases h)] at e0
   refine wB ?_
   rw [gl]
   refine wB ?_
   try rw [show decide ((r.sum : Int) = 0) = true from decide_eq_true (by omega)]
   refine wB ?_
   refine Trim.det ?_
   rw [e0]
   exact wF
  ·rw [if_pos ⟨f3,by rw [hq]; exact decide_eq_false hs⟩] at e0
   refine wB ?_
   rw [gl]
   refine wB ?_
   try rw [show decide ((r.sum : Int) = 0) = false from decide_eq_false (by omega)]
   refine wB ?_
   refine Trim.det ?_
   rw [e0]
   exact wF
 rw [if_neg (fun h=>f3 h.1)] at e0
 refine wB ?_
 rw [gl]
 refine wB ?_
 refine Trim.det ?_
 rw [e0]
 exact wF
theorem psm_t_false_j1 (x : Nat → Value) (r : Rd) (hr : r.Ok) (hf : r.fin ≤ 1000000) (g0 : ¬ r.need = 0) (g : ¬ r.b.length < r.need + 15) (g5 : ¬ r.run.n = 5) : clRunX 6 tt outsPsh tabPsh 5 F.code_Reader_Push [] [.t (.one (.ptr 0 13)),iv .u8 48] [rdM x r] (fun y h=>Trim 1 y h fun y h=>y = iv .i64 ((r.push false).2 : Nat) ∧ h = [rdM x (r.push false).1]):=by
 have hb:=hr.len
 obtain ⟨h1,h2,h3,h4,h5⟩:=hr
 have e0 : r.push false = if r.inB = true ∨ (r.run.n = 5 ∧ r.laid = false ∧ r.fin = 0) then
  if r.run.n = 5 ∧ false = r.run.last then (r,20)
  else if r.run.n = 5 then ({ r with run:=r.run.add false,laid:=!r.inB },0)
  else ({ r with run:=r.run.add false } : Rd).add false
 else r.tail false:=rfl
 have hin : r.inB = decide (r.need = 0 ∨ r.b.length < r.need + 15):=rfl
 have hi : r.inB = false:=by rw [hin]; exact decide_eq_false (by omega)
 rw [if_neg (fun h=>by rcases h with h | h; rw [hi] at h; cases h; exact (fun h=>g5 h.1) h)] at e0
 have et : r.tail false = ({ r with fin:=r.fin + 1 },if r.fin + 1 = 2 then 0 else if false = false then 12 else if r.fin + 1 = 3 ∧ r.right = false then 40 else 0):=rfl
 rw [et] at e0
 have hq : r.right = decide (r.sum = 0):=by unfold Rd.right; rw [hi]; rfl
 by_cases f2 : r.fin + 1 = 2
 ·rw [if_pos f2] at e0
  refine wB ?_
  refine Trim.det ?_
  rw [e0]
  exact wF
 rw [if_neg f2,if_pos rfl] at e0
 refine wB ?_
 refine Trim.det ?_
 rw [e0]
 exact wF
theorem psm_t_false_j2 (x : Nat → Value) (r : Rd) (hr : r.Ok) (hf : r.fin ≤ 1000000) (g0 : ¬ r.need = 0) (g : ¬ r.b.length < r.need + 15) (g5 : r.run.n = 5) (gl : r.laid = true) : clRunX 6 tt outsPsh tabPsh 5 F.code_Reader_Push [] [.t (.one (.ptr 0 13)),iv .u8 48] [rdM x r] (fun y h=>Trim 1 y h fun y h=>y = iv .i64 ((r.push false).2 : Nat) ∧ h = [rdM x (r.push false).1]):=by
 have hb:=hr.len
 obtain ⟨h1,h2,h3,h4,h5⟩:=hr
 have e0 : r.push false = if r.inB = true ∨ (r.run.n = 5 ∧ r.laid = false ∧ r.fin = 0) then
  if r.run.n = 5 ∧ false = r.run.last then (r,20)
  else if r.run.n = 5 then ({ r with run:=r.run.add false,laid:=!r.inB },0)
  else ({ r with run:=r.run.add false } : Rd).add false
 else r.tail false:=rfl
 have hin : r.inB = decide (r.need = 0 ∨ r.b.length < r.need + 15):=rfl
 have hi : r.inB = false:=by rw [hin]; exact decide_eq_false (by omega)
 rw [if_neg (fun h=>by rcases h with h | h; rw [hi] at h; cases h; exact (fun h=>by have h:=h.2.1; rw [gl] at h; cases h) h)] at e0
 have et : r.tail false = ({ r with fin:=r.fin + 1 },if r.fin + 1 = 2 then 0 else if false = false then 12 else if r.fin + 1 = 3 ∧ r.right = false then 40 else 0):=rfl
 rw [et] at e0
 have hq : r.right = decide (r.sum = 0):=by unfold Rd.right; rw [hi]; rfl
 by_cases f2 : r.fin + 1 = 2
 ·rw [if_pos f2] at e0
  refine wB ?_
  rw [gl]
  refine wB ?_
  refine Trim.det ?_
  rw [e0]
  exact wF
 rw [if_neg f2,if_pos rfl] at e0
 refine wB ?_
 rw [gl]
 refine wB ?_
 refine Trim.det ?_
 rw [e0]
 exact wF
theorem psm_t_false_j3 (x : Nat → Value) (r : Rd) (hr : r.Ok) (hf : r.fin ≤ 1000000) (g0 : ¬ r.need = 0) (g : ¬ r.b.length < r.need + 15) (g5 : r.run.n = 5) (gl : r.laid = false) (gf : ¬ r.fin = 0) : clRunX 6 tt outsPsh tabPsh 5 F.code_Reader_Push [] [.t (.one (.ptr 0 13)),iv .u8 48] [rdM x r] (fun y h=>Trim 1 y h fun y h=>y = iv .i64 ((r.push false).2 : Nat) ∧ h = [rdM x (r.push false).1]):=by
 have hb:=hr.len
 obtain ⟨h1,h2,h3,h4,h5⟩:=hr
 have e0 : r.push false = if r.inB = true ∨ (r.run.n = 5 ∧ r.laid = false ∧ r.fin = 0) then
  if r.run.n = 5 ∧ false = r.run.last then (r,20)
  else if r.run.n = 5 then ({ r with run:=r.run.add false,laid:=!r.inB },0)
  else ({ r with run:=r.run.add false } : Rd).add false
 else r.tail false:=rfl
 have hin : r.inB = decide (r.need = 0 ∨ r.b.length < r.need + 15):=rfl
 have hi : r.inB = false:=by rw [hin]; exact decide_eq_false (by omega)
 rw [if_neg (fun h=>by rcases h with h | h; rw [hi] at h; cases h; exact (fun h=>gf h.2.2) h)] at e0
 have et : r.tail false = ({ r with fin:=r.fin + 1 },if r.fin + 1 = 2 then 0 else if false = false then 12 else if r.fin + 1 = 3 ∧ r.right = false then 40 else 0):=rfl
 rw [et] at e0
 have hq : r.right = decide (r.sum = 0):=by unfold Rd.right; rw [hi]; rfl
 by_cases f2 : r.fin + 1 = 2
 ·rw [if_pos f2] at e0
  refine wB ?_
  rw [gl]
  refine wB ?_
  refine Trim.det ?_
  rw [e0]
  exact wF
 rw [if_neg f2,if_pos rfl] at e0
 refine wB ?_
 rw [gl]
 refine wB ?_
 refine Trim.det ?_
 rw [e0]
 exact wF
theorem psm_run (x : Nat → Value) (r : Rd) (c : Bool) (hr : r.Ok) (hf : r.fin ≤ 1000000) : clRunX 6 tt outsPsh tabPsh 5 F.code_Reader_Push [] [.t (.one (.ptr 0 13)),iv .u8 (cI c)] [rdM x r] (fun y h=>Trim 1 y h fun y h=>y = iv .i64 ((r.push c).2 : Nat) ∧ h = [rdM x (r.push c).1]):=by
 cases c
 ·by_cases g0 : r.need = 0
  ·by_cases g5 : r.run.n = 5
   ·cases hl : r.run.last
    ·exact psm_f_false_i1_false x r hr hf g0 g5 hl
    ·exact psm_f_false_i1_true x r hr hf g0 g5 hl
   ·cases hl : r.run.last
    ·exact psm_a_false_i1_false x r hr hf g0 g5 hl
    ·exact psm_a_false_i1_true x r hr hf g0 g5 hl
  by_cases g : r.b.length < r.need + 15
  ·by_cases g5 : r.run.n = 5
   ·cases hl : r.run.last
    ·exact psm_f_false_i2_false x r hr hf g0 g g5 hl
    ·exact psm_f_false_i2_true x r hr hf g0 g g5 hl
   ·cases hl : r.run.last
    ·exact psm_a_false_i2_false x r hr hf g0 g g5 hl
    ·exact psm_a_false_i2_true x r hr hf g0 g g5 hl
  by_cases g5 : r.run.n = 5
  ·cases gl : r.laid
   ·by_cases gf : r.fin = 0
    ·cases hl : r.run.last
     ·exact psm_f_false_i3_false x r hr hf g0 g g5 gl gf hl
     ·exact psm_f_false_i3_true x r hr hf g0 g g5 gl gf hl
    ·exact psm_t_false_j3 x r hr hf g0 g g5 gl gf
   ·exact psm_t_false_j2 x r hr hf g0 g g5 gl
  exact psm_t_false_j1 x r hr hf g0 g g5
 ·by_cases g0 : r.need = 0
  ·by_cases g5 : r.run.n = 5
   ·cases hl : r.run.last
    ·exact psm_f_true_i1_false x r hr hf g0 g5 hl
    ·exact psm_f_true_i1_true x r hr hf g0 g5 hl
   ·cases hl : r.run.last
    ·exact psm_a_true_i1_false x r hr hf g0 g5 hl
    ·exact psm_a_true_i1_true x r hr hf g0 g5 hl
  by_cases g : r.b.length < r.need + 15
  ·by_cases g5 : r.run.n = 5
   ·cases hl : r.run.last
    ·exact psm_f_true_i2_false x r hr hf g0 g g5 hl
    ·exact psm_f_true_i2_true x r hr hf g0 g g5 hl
   ·cases hl : r.run.last
    ·exact psm_a_true_i2_false x r hr hf g0 g g5 hl
    ·exact psm_a_true_i2_true x r hr hf g0 g g5 hl
  by_cases g5 : r.run.n = 5
  ·cases gl : r.laid
   ·by_cases gf : r.fin = 0
    ·cases hl : r.run.last
     ·exact psm_f_true_i3_false x r hr hf g0 g g5 gl gf hl
     ·exact psm_f_true_i3_true x r hr hf g0 g g5 gl gf hl
    ·exact psm_t_true_j3 x r hr hf g0 g g5 gl gf
   ·exact psm_t_true_j2 x r hr hf g0 g g5 gl
  exact psm_t_true_j1 x r hr hf g0 g g5
theorem psm_ok : ConOk Tryz.prog F.code_Reader_Push pshMC:=con_of_run (clRunX_ok (d:=6) ttOk outsPsh_ok tabPsh_ok 5) (fn_enters (ok.code_Reader_Push (D:=6) u0 _ (clRunX_ok (d:=6) ttOk .nil TabOk.nil 1))) fun p hp=>psm_run p.1 p.2.1 p.2.2 hp.1 hp.2
end Go.Proofs.YtlckbdhpehkeoaaGreat.Co
