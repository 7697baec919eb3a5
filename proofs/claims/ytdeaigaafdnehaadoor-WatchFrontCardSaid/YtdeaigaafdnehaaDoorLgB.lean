/- Laws whose rows list variables: a world that holds them; nothing of the walk reads them. -/
import Derived.Test.YtdeaigaafdnehaaDoorLgA
import Derived.Test.YtdeaigaafdnehaaDoorEnM
import Derived.Test.YtdeaigaafdnehaaDoorCsD
import Derived.Test.YtdeaigaafdnehaaDoorTie
import Derived.Test.YtdeaigaafdnehaaDoorCards
import Derived.ProofKit
import Derived.OpenShut
import Derived.Deep.DeepHandedRow
import Derived.Lib.LaidTab
namespace Go.Proofs.YtdeaigaafdnehaaDoor.La
open Go Go.Eng Go.Proofs Go.Proofs.YtdeaigaafdnehaaDoor
set_option maxRecDepth 100000
/-- A world for the witness: the settled one, the two tables holding what start-up lays. -/
noncomputable def laidWorld (os : Os) : World :=
  let w0 := World.holding Tryd.prog os ⟨#[], #[], []⟩
  let put (h : Array Obj) (g : Nat) (cs : Array Value) : Array Obj := h.modify g fun
    | .cells _ t frozen => .cells cs t frozen
    | o => o
  { w0 with heap := put (put w0.heap 1 (Pinned.utf8FirstZ.map fun (z : Nat) => Value.int .u8 z).toArray) 2 (([128, 191, 160, 191, 128, 159, 144, 191, 128, 143] ++ List.replicate 22 0).map fun (z : Nat) => Value.int .u8 z).toArray }
abbrev laid2 : List (String × DataW Unit) := [("unicode/utf8.acceptRanges", Rows.laid_unicode_utf8_acceptRanges), ("unicode/utf8.first", Rows.laid_unicode_utf8_first)]
theorem laid_met (os : Os) (args : Array Value) : laidMet Tryd.prog laid2 ((laidWorld os).forCall (fun _ _ => 0) ⟨#[], args, []⟩).memory :=
  laidMet_of_run' 8 (by kernel_rfl) (by kernel_rfl)
theorem metH (os : Os) (args : Array Value) : laidMetH Tryd.prog laid2 ((laidWorld os).forCall (fun _ _ => 0) ⟨#[], args, []⟩).memory := laid_met os args
theorem one_row {ks : List Ck} {d : List Da} (h : All2 OkDa [.s ks] d) : ∃ n cap nl V, d = [.s n cap nl V] ∧ n ≤ cap ∧ cap ≤ 9223372036854775807 ∧ ∀ i, i < n → All2 okW ks (V i) := by
  obtain ⟨_, _, rfl, h1, h2⟩ := two_c h
  obtain rfl := two_0 h2
  obtain ⟨n, cap, nl, V, rfl, g⟩ := da_sl h1
  exact ⟨n, cap, nl, V, rfl, g⟩
theorem ok_str {v : Value} (h : okW .str v) : ∃ s : ByteArray, v = .string s ∧ s.size ≤ 9223372036854775807 := by
  cases v <;> first | exact h.elim | exact ⟨_, rfl, Nat.le_trans h (by decide)⟩
theorem one_str {d : List Da} (h : All2 OkDa [.c .str] d) : ∃ s : ByteArray, d = [.c (.string s)] ∧ s.size ≤ 9223372036854775807 := by
  obtain ⟨_, _, rfl, h1, h2⟩ := two_c h
  obtain rfl := two_0 h2
  match h1 with
  | h1 => rename_i b _; cases b with
    | c v => obtain ⟨s, rfl, g⟩ := ok_str h1; exact ⟨s, rfl, g⟩
    | s _ _ _ _ => exact h1.elim
theorem row_ofG {H : Type} {enc : TypeId × Value → H} {f : FuncId} {F : Func} {s : ChangeSpec} {W : World} {base : Nat} {args : Array Value} {ds gs : List (DataW H)} {before : List MemPlace} {ps : List Pa} {cl : Cl}
    (hts : (F.params.toList.all fun t => decide (t < Tryd.prog.types.size)) = true) (hps : pasB Tryd.prog F.params.toList ps = true) (hres : F.resultTypes = #[4]) (hvs : s.vars = [])
    (hspec : ∀ ds : List (DataW H), ds.length = F.params.toList.length → s.fn H ds = { results := [.lit (.bool true)], args := ds })
    (hval : ∀ (j : Nat) t v, F.params[j]? = some t → args[j]? = some v → Value.okWide Tryd.prog W .any base t v) (hW : DataW.Whole enc Tryd.prog F.params.toList s.vars false W args.toList ds gs before)
    (hsh : W.ShapedOpen Tryd.prog) (hc : ClOk Tryd.prog cl) (hrun : ∀ m D, OkAll ps D → cl f [] (xsP 0 ps D) (hsP ps D ++ [Co.glE m]) fun x _ => x = bv true) :
    Calls Tryd.prog f args W fun e W' => ∃ v, e = .returned v ∧ s.post enc Tryd.prog F false true false false W args v W' := by
  obtain ⟨m, hm⟩ := Tryd.laysM143.s1_3 W hsh
  exact law_bodyG (C := Tryd.checked) kids full (fun t ht => of_decide_eq_true (List.all_eq_true.1 hts t ht)) hps hres Tryd.underlying4 hvs (by obtain ⟨p, q, hA, _⟩ := hW; exact hspec ds (ds_len hA)) hm hval hW hc (hrun m)
end Go.Proofs.YtdeaigaafdnehaaDoor.La
