/- Laws: what they share: a matrix as it comes in; closed runs; the rows. -/
import Derived.Test.YtdeaigaafdnehaaDoorCoC
import Derived.Test.YtdeaigaafdnehaaDoorLaP
namespace Go.Proofs.YtdeaigaafdnehaaDoor.La
open Go Go.Eng Go.Proofs Go.Proofs.YtdeaigaafdnehaaDoor.Tb Go.Proofs.YtdeaigaafdnehaaDoor.Co Go.Pu
set_option maxRecDepth 100000
set_option maxHeartbeats 8000000
theorem own : ownKnob Tryd.prog.godebug = none := by kernel_rfl
theorem kids : Kids Tryd.prog (· < Tryd.prog.types.size) := kids_rows (by kernel_rfl) (by kernel_rfl)
theorem full : ∀ t e, t < Tryd.prog.types.size → Tryd.prog.underlying t = some (.slice e) → 0 < Tryd.prog.cellsOf e := slices_full_of Tryd.prog (by kernel_rfl)
/-! ### Closed runs -/
abbrev trueC : Con Unit := RoCon (fun _ => []) (fun _ => []) (fun _ => True) fun _ => bv true
theorem true_use {h : Heap} {K : R → Heap → Prop} (hk : K (bv true) h) : AskC trueC [] h K := .use () [] trivial rfl trivial trivial hk
theorem con_closed {P : Program} {f : FuncId} {cl : Cl} (hc : ClOk P cl) (hE : Eng.Enters P f) (hr : cl f [] [] [] fun x _ => x = bv true) : ConOk P f trueC := by
  refine ⟨hE, fun p _ ρ w vs h1 h2 => ((hc _ _ _ _ _ hr).2 ρ w vs h1 h2).mono fun e w' ⟨v, he, x, ρ', h', k1, k2, k3, k4⟩ => ⟨v, he, trim_ok (n := 0) (fun m y hy => ?_) k2 k3 k4 (trim0 (F := bv true) (by rw [k1]; rfl) k1)⟩⟩
  have := h1.fresh m (.inr (Nat.zero_le _))
  rw [this] at hy; cases hy
/-! ### Arguments -/
abbrev i64 : Sh := .c (.int .i64)
abbrev u8 : Sh := .c (.int .u8)
abbrev u16 : Sh := .c (.int .u16)
abbrev matSh : List Sh := [i64, i64, i64, i64, i64, i64, i64, .c (.int .u32), .s [.int .i64], .s [.int .u32, .int .i64, .bool], .s [.int .i64, .int .i64, .int .i64, .int .i64, .int .i64, .int .i64]]
abbrev winSh : List Sh := [i64, i64, i64, i64, i64, i64]
theorem ok_i64 {v : Value} (h : okW (.int .i64) v) : ∃ n : Int, v = .int .i64 n ∧ I64 n := by
  cases v <;> first | exact h.elim | skip
  obtain ⟨rfl, h⟩ := h
  refine ⟨_, rfl, ?_⟩
  simpa [Lit.wf, IntKind.min, IntKind.max, IntKind.signed, IntKind.bits, I64] using h
theorem ok_u32 {v : Value} (h : okW (.int .u32) v) : ∃ n : Int, v = .int .u32 n ∧ U32 n := by
  cases v <;> first | exact h.elim | skip
  obtain ⟨rfl, h⟩ := h
  refine ⟨_, rfl, ?_⟩
  simpa [Lit.wf, IntKind.min, IntKind.max, IntKind.signed, IntKind.bits, U32] using h
theorem ok_u8 {v : Value} (h : okW (.int .u8) v) : ∃ n : Int, v = .int .u8 n ∧ 0 ≤ n ∧ n ≤ 255 := by
  cases v <;> first | exact h.elim | skip
  obtain ⟨rfl, h⟩ := h
  refine ⟨_, rfl, ?_⟩
  simpa [Lit.wf, IntKind.min, IntKind.max, IntKind.signed, IntKind.bits] using h
theorem ok_u16 {v : Value} (h : okW (.int .u16) v) : ∃ n : Int, v = .int .u16 n ∧ 0 ≤ n ∧ n ≤ 65535 := by
  cases v <;> first | exact h.elim | skip
  obtain ⟨rfl, h⟩ := h
  refine ⟨_, rfl, ?_⟩
  simpa [Lit.wf, IntKind.min, IntKind.max, IntKind.signed, IntKind.bits] using h
theorem ok_bool {v : Value} (h : okW .bool v) : ∃ b : Bool, v = .bool b := by
  cases v <;> first | exact h.elim | exact ⟨_, rfl⟩
theorem da_i64 {d : Da} (h : OkDa i64 d) : ∃ n : Int, d = .c (.int .i64 n) ∧ I64 n := by
  cases d with
  | c v => obtain ⟨n, rfl, g⟩ := ok_i64 h; exact ⟨n, rfl, g⟩
  | s _ _ _ _ => exact h.elim
theorem da_u32 {d : Da} (h : OkDa (.c (.int .u32)) d) : ∃ n : Int, d = .c (.int .u32 n) ∧ U32 n := by
  cases d with
  | c v => obtain ⟨n, rfl, g⟩ := ok_u32 h; exact ⟨n, rfl, g⟩
  | s _ _ _ _ => exact h.elim
theorem da_u8 {d : Da} (h : OkDa u8 d) : ∃ n : Int, d = .c (.int .u8 n) ∧ 0 ≤ n ∧ n ≤ 255 := by
  cases d with
  | c v => obtain ⟨n, rfl, g⟩ := ok_u8 h; exact ⟨n, rfl, g⟩
  | s _ _ _ _ => exact h.elim
theorem da_u16 {d : Da} (h : OkDa u16 d) : ∃ n : Int, d = .c (.int .u16 n) ∧ 0 ≤ n ∧ n ≤ 65535 := by
  cases d with
  | c v => obtain ⟨n, rfl, g⟩ := ok_u16 h; exact ⟨n, rfl, g⟩
  | s _ _ _ _ => exact h.elim
theorem da_bool {d : Da} (h : OkDa (.c .bool) d) : ∃ b : Bool, d = .c (.bool b) := by
  cases d with
  | c v => obtain ⟨n, rfl⟩ := ok_bool h; exact ⟨n, rfl⟩
  | s _ _ _ _ => exact h.elim
theorem da_sl {ks : List Ck} {d : Da} (h : OkDa (.s ks) d) : ∃ n cap nl F, d = .s n cap nl F ∧ n ≤ cap ∧ cap ≤ 9223372036854775807 ∧ ∀ i, i < n → All2 okW ks (F i) := by
  cases d with
  | c v => exact h.elim
  | s n cap nl F => exact ⟨n, cap, nl, F, rfl, h.1, h.2.1, h.2.2.2⟩
theorem two_0 {α β : Type} {p : α → β → Prop} {l : List β} (h : All2 p [] l) : l = [] := by cases l with | nil => rfl | cons _ _ => exact h.elim
theorem two_c {α β : Type} {p : α → β → Prop} {a : α} {aa : List α} {l : List β} (h : All2 p (a :: aa) l) : ∃ b bs, l = b :: bs ∧ p a b ∧ All2 p aa bs := by
  cases l with
  | nil => exact h.elim
  | cons b bs => exact ⟨b, bs, rfl, h.1, h.2⟩
theorem one_i64 {d : List Da} (h : All2 OkDa [i64] d) : ∃ n : Int, d = [.c (.int .i64 n)] ∧ I64 n := by
  obtain ⟨_, _, rfl, h1, h2⟩ := two_c h
  obtain rfl := two_0 h2
  obtain ⟨n, rfl, g⟩ := da_i64 h1
  exact ⟨n, rfl, g⟩
theorem one_u8 {d : List Da} (h : All2 OkDa [u8] d) : ∃ n : Int, d = [.c (.int .u8 n)] ∧ 0 ≤ n ∧ n ≤ 255 := by
  obtain ⟨_, _, rfl, h1, h2⟩ := two_c h
  obtain rfl := two_0 h2
  obtain ⟨n, rfl, g⟩ := da_u8 h1
  exact ⟨n, rfl, g⟩
theorem one_u16 {d : List Da} (h : All2 OkDa [u16] d) : ∃ n : Int, d = [.c (.int .u16 n)] ∧ 0 ≤ n ∧ n ≤ 65535 := by
  obtain ⟨_, _, rfl, h1, h2⟩ := two_c h
  obtain rfl := two_0 h2
  obtain ⟨n, rfl, g⟩ := da_u16 h1
  exact ⟨n, rfl, g⟩
theorem one_bool {d : List Da} (h : All2 OkDa [.c .bool] d) : ∃ b : Bool, d = [.c (.bool b)] := by
  obtain ⟨_, _, rfl, h1, h2⟩ := two_c h
  obtain rfl := two_0 h2
  obtain ⟨n, rfl⟩ := da_bool h1
  exact ⟨n, rfl⟩
/-- A list's first values. -/
theorem open_mat {d : List Da} (h : All2 OkDa matSh d) : ∃ (m : Mat) (c : Caps), m.Ok ∧ capsOk m c ∧ (∀ nm, xP nm (.agg matSh) d = matT m c nm (nm + 1) (nm + 2)) ∧ hs matSh d = matH m [] := by
  obtain ⟨_, _, rfl, h0, h⟩ := two_c h
  obtain ⟨_, _, rfl, h1, h⟩ := two_c h
  obtain ⟨_, _, rfl, h2, h⟩ := two_c h
  obtain ⟨_, _, rfl, h3, h⟩ := two_c h
  obtain ⟨_, _, rfl, h4, h⟩ := two_c h
  obtain ⟨_, _, rfl, h5, h⟩ := two_c h
  obtain ⟨_, _, rfl, h6, h⟩ := two_c h
  obtain ⟨_, _, rfl, h7, h⟩ := two_c h
  obtain ⟨_, _, rfl, h8, h⟩ := two_c h
  obtain ⟨_, _, rfl, h9, h⟩ := two_c h
  obtain ⟨_, _, rfl, h10, h⟩ := two_c h
  obtain rfl := two_0 h
  obtain ⟨n0, rfl, b0⟩ := da_i64 h0
  obtain ⟨n1, rfl, b1⟩ := da_i64 h1
  obtain ⟨n2, rfl, b2⟩ := da_i64 h2
  obtain ⟨n3, rfl, b3⟩ := da_i64 h3
  obtain ⟨n4, rfl, b4⟩ := da_i64 h4
  obtain ⟨n5, rfl, b5⟩ := da_i64 h5
  obtain ⟨n6, rfl, b6⟩ := da_i64 h6
  obtain ⟨n7, rfl, b7⟩ := da_u32 h7
  obtain ⟨l8, c8, z8, F8, rfl, q8, p8, e8⟩ := da_sl h8
  obtain ⟨l9, c9, z9, F9, rfl, q9, p9, e9⟩ := da_sl h9
  obtain ⟨l10, c10, z10, F10, rfl, q10, p10, e10⟩ := da_sl h10
  refine ⟨⟨n0, n1, n2, n3, n4, n5, n6, n7, l8, fun i => valI ((F8 i).headD undef), l9, fun i => ⟨valI ((F9 i).headD undef), valI ((F9 i).tail.headD undef), valB ((F9 i).tail.tail.headD undef)⟩,
    l10, fun i => ⟨valI ((F10 i).headD undef), valI ((F10 i).tail.headD undef), valI ((F10 i).tail.tail.headD undef), valI ((F10 i).tail.tail.tail.headD undef), valI ((F10 i).tail.tail.tail.tail.headD undef), valI ((F10 i).tail.tail.tail.tail.tail.headD undef)⟩⟩,
    ⟨c8, c9, c10, z8, z9, z10⟩, ⟨b0, b1, b2, b3, b4, b5, b6, b7, Nat.le_trans q8 p8, Nat.le_trans q9 p9, Nat.le_trans q10 p10, fun i hi => ?_, fun i hi => ?_, fun i hi => ?_⟩, ⟨q8, q9, q10⟩, fun nm => rfl, rfl⟩
  · obtain ⟨v, _, e, g, _⟩ := two_c (e8 i hi)
    obtain ⟨n, rfl, kg⟩ := ok_i64 g
    show I64 (valI ((F8 i).headD undef))
    rw [e]; exact kg
  · obtain ⟨v, _, e, g, h⟩ := two_c (e9 i hi)
    obtain ⟨n, rfl, kg⟩ := ok_u32 g
    obtain ⟨v', _, e', g', _⟩ := two_c h
    obtain ⟨n', rfl, kg'⟩ := ok_i64 g'
    subst e'
    show U32 (valI ((F9 i).headD undef)) ∧ I64 (valI ((F9 i).tail.headD undef))
    rw [e]; exact ⟨kg, kg'⟩
  · obtain ⟨v, _, e, g0, h⟩ := two_c (e10 i hi)
    obtain ⟨_, rfl, kg0⟩ := ok_i64 g0
    obtain ⟨v, _, e1, g1, h⟩ := two_c h
    obtain ⟨_, rfl, kg1⟩ := ok_i64 g1
    obtain ⟨v, _, e2, g2, h⟩ := two_c h
    obtain ⟨_, rfl, kg2⟩ := ok_i64 g2
    obtain ⟨v, _, e3, g3, h⟩ := two_c h
    obtain ⟨_, rfl, kg3⟩ := ok_i64 g3
    obtain ⟨v, _, e4, g4, h⟩ := two_c h
    obtain ⟨_, rfl, kg4⟩ := ok_i64 g4
    obtain ⟨v, _, e5, g5, h⟩ := two_c h
    obtain ⟨_, rfl, kg5⟩ := ok_i64 g5
    subst e5; subst e4; subst e3; subst e2; subst e1
    show I64 (valI ((F10 i).headD undef)) ∧ I64 (valI ((F10 i).tail.headD undef)) ∧ I64 (valI ((F10 i).tail.tail.headD undef)) ∧ I64 (valI ((F10 i).tail.tail.tail.headD undef)) ∧ I64 (valI ((F10 i).tail.tail.tail.tail.headD undef)) ∧ I64 (valI ((F10 i).tail.tail.tail.tail.tail.headD undef))
    rw [e]; exact ⟨kg0, kg1, kg2, kg3, kg4, kg5⟩
/-! ### Rows -/
theorem ds_len {H : Type} {enc : TypeId × Value → H} {P : Program} {w : World} {base : Nat} {spare : Nat → Bool} {held : Bool} : ∀ {ts : List TypeId} {vs : List Value} {ds : List (DataW H)} {ps : List MemPlace}, DataW.TrodAll enc P w base spare held ts vs ds ps → ds.length = ts.length
  | [], [], [], _, _ => rfl
  | _ :: _, _ :: _, _ :: _, _, ⟨_, _, _, h, _⟩ => by simp [ds_len h]
  | [], [], _ :: _, _, h => h.elim
  | [], _ :: _, _, _, h => h.elim
  | _ :: _, [], _, _, h => h.elim
  | _ :: _, _ :: _, [], _, h => h.elim
theorem row_of {H : Type} {enc : TypeId × Value → H} {f : FuncId} {F : Func} {s : ChangeSpec} {W : World} {base : Nat} {args : Array Value} {ds gs : List (DataW H)} {before : List MemPlace} {ps : List Pa} {cl : Cl}
    (hts : (F.params.toList.all fun t => decide (t < Tryd.prog.types.size)) = true) (hps : pasB Tryd.prog F.params.toList ps = true) (hres : F.resultTypes = #[4]) (hvs : s.vars = [])
    (hspec : ∀ ds : List (DataW H), ds.length = F.params.toList.length → s.fn H ds = { results := [.lit (.bool true)], args := ds })
    (hval : ∀ (j : Nat) t v, F.params[j]? = some t → args[j]? = some v → Value.okWide Tryd.prog W .any base t v) (hW : DataW.Whole enc Tryd.prog F.params.toList s.vars false W args.toList ds gs before)
    (hc : ClOk Tryd.prog cl) (hrun : ∀ D, OkAll ps D → cl f [] (xsP 0 ps D) (hsP ps D) fun x _ => x = bv true) :
    Calls Tryd.prog f args W fun e W' => ∃ v, e = .returned v ∧ s.post enc Tryd.prog F false true false false W args v W' :=
  law_body (C := Tryd.checked) kids full (fun t ht => of_decide_eq_true (List.all_eq_true.1 hts t ht)) hps hres Tryd.underlying4 hvs (by obtain ⟨p, q, hA, _⟩ := hW; exact hspec ds (ds_len hA)) hval hW hc hrun
end Go.Proofs.YtdeaigaafdnehaaDoor.La
