/- The engine, part M: a law's row where a program's variable is named. -/
import Derived.Test.YtdeaigaafdnehaaDoorEnL
namespace Go.Eng
open Go Go.ChangeShapes Go.WideShapes Go.RowKit Go.Deep
theorem rel_liesG {w : World} {h : Heap} {l : List (Nat × Nat)} {b : Nat} {v : Value} {o : Obj} (hl : Lies w h l) (hb : w.heap[b]? = some o) (ho : (Rw.gl b v).holds o) :
    Rel (fun n => (l ++ [(b, 0)])[n]?) (h ++ [.ob (.raw (.gl b v))]) w ∧ ∀ n c, ¬ Owns (fun n => (l ++ [(b, 0)])[n]?) (h ++ [.ob (.raw (.gl b v))]) n c := by
  have hlen := hl.length
  have key : ∀ {n : Nat} {e : HE}, (h ++ [HE.ob (.raw (.gl b v))])[n]? = some e → h[n]? = some e ∨ (n = h.length ∧ e = .ob (.raw (.gl b v))) := fun {n e} he => by
    by_cases hn : n < h.length
    · rw [List.getElem?_append_left hn] at he; exact .inl he
    · rw [List.getElem?_append_right (by omega)] at he
      obtain ⟨k, hk⟩ : ∃ k, n - h.length = k := ⟨_, rfl⟩
      rw [hk] at he
      cases k with
      | zero => right; simp at he; exact ⟨by omega, he.symm⟩
      | succ k => simp at he
  have nown : ∀ n c, ¬ Owns (fun n => (l ++ [(b, 0)])[n]?) (h ++ [HE.ob (.raw (.gl b v))]) n c := fun n c ⟨ob, o', h1, h2, _⟩ => by
    rcases key h1 with h1 | ⟨_, h1⟩
    · obtain ⟨_, _, _, _, _, e, _⟩ := hl.get h1; injection e with e; subst e; exact h2
    · injection h1 with h1; subst h1; exact h2
  refine ⟨⟨fun n hn => ?_, fun n ob hn => ?_, fun n m c hn _ => (nown _ _ hn).elim, fun n m c o ob2 hn _ _ => (nown _ _ hn).elim⟩, nown⟩
  · rcases hn with hn | hn
    · rcases key hn with h1 | ⟨_, h1⟩
      · obtain ⟨_, _, _, _, _, e, _⟩ := hl.get h1; cases e
      · cases h1
    · rw [List.length_append] at hn
      exact List.getElem?_eq_none (by rw [List.length_append, ← hlen]; exact hn)
  · rcases key hn with h1 | ⟨rfl, h1⟩
    · obtain ⟨sz, k, f, b', o', e, h2, h3, h4⟩ := hl.get h1
      injection e with e; subst e
      refine ⟨b', o', ?_, h3.keep (none_sub _) fun _ => rfl, h4⟩
      show (l ++ [(b, 0)])[n]? = some (b', o')
      rw [List.getElem?_append_left (List.getElem?_eq_some_iff.1 h2).1]; exact h2
    · injection h1 with h1; subst h1
      refine ⟨b, o, ?_, hb, ho, rfl⟩
      show (l ++ [(b, 0)])[h.length]? = some (b, 0)
      rw [hlen, List.getElem?_append_right (Nat.le_refl _), Nat.sub_self]; rfl
theorem law_bodyG {C : Checked} {H : Type} {enc : TypeId × Value → H} {f : FuncId} {F : Func} {s : ChangeSpec} {W : World} {base : Nat} {args : Array Value} {ds gs : List (DataW H)} {before : List MemPlace} {ps : List Pa} {tb : TypeId} {cl : Cl} {gb : Nat} {gv : Value}
    (kids : Kids C.prog (· < C.prog.types.size)) (full : ∀ t e, t < C.prog.types.size → C.prog.underlying t = some (.slice e) → 0 < C.prog.cellsOf e)
    (hts : ∀ t ∈ F.params.toList, t < C.prog.types.size) (hps : pasB C.prog F.params.toList ps = true) (hres : F.resultTypes = #[tb]) (htb : C.prog.underlying tb = some .bool) (hvs : s.vars = [])
    (hspec : s.fn H ds = { results := [.lit (.bool true)], args := ds }) (hg : W.cell? ⟨gb, 0, none⟩ = some gv)
    (hval : ∀ (j : Nat) t v, F.params[j]? = some t → args[j]? = some v → Value.okWide C.prog W .any base t v) (hW : DataW.Whole enc C.prog F.params.toList s.vars false W args.toList ds gs before)
    (hc : ClOk C.prog cl) (hrun : ∀ D, OkAll ps D → cl f [] (xsP 0 ps D) (hsP ps D ++ [.ob (.raw (.gl gb gv))]) fun x _ => x = bv true) :
    Calls C.prog f args W fun e W' => ∃ v, e = .returned v ∧ s.post enc C.prog F false true false false W args v W' := by
  have hW' := hW
  have hlt := hW.lt
  obtain ⟨p, q, hA, hV, rfl, hfz, hnd⟩ := hW
  rw [hvs] at hV
  obtain ⟨rfl, rfl⟩ := trodVars_none hV
  simp only [List.append_nil] at hlt hW'
  obtain ⟨o, ho, hh⟩ : ∃ o, W.heap[gb]? = some o ∧ (Rw.gl gb gv).holds o := by
    unfold World.cell? at hg
    simp only at hg
    split at hg
    · rename_i arr E fz e
      exact ⟨_, e, arr, E, fz, rfl, hg⟩
    · cases hg
  obtain ⟨D, locs, h1, h2', h3'⟩ := pas_ok hps (fun j t v a b => hval j t v (by simpa using a) (by simpa using b)) hA
  obtain ⟨h2, h3⟩ := rel_liesG h2' ho hh
  have h4 := h3' (fun n => (locs ++ [(gb, 0)])[n]?) 0 fun i y hi => by
    rw [Nat.zero_add, List.getElem?_append_left (List.getElem?_eq_some_iff.1 hi).1]; exact hi
  obtain ⟨_, h5⟩ := hc _ _ _ _ _ (hrun D h1)
  have h6 := h5 _ W args.toList h2 h4
  refine h6.mono fun e W' ⟨v, he, x, ρ', h', k1, k2, k3, k4⟩ => ?_
  subst k1
  have hv : v = .bool true := k4.1
  subst hv
  have hsame := grow_same k3 h3 hlt
  have hsp : s.fn H (ds ++ []) = { results := [.lit (.bool true)], args := ds } := by rw [List.append_nil]; exact hspec
  refine ⟨_, he, post_kept (pa := p) (by simpa using hW') (fun q hq => hlt q (by simpa using hq)) (fun b sp hd => ?_) (fun sp hsp' => ?_) (fun sp => ?_) ?_ k3.frozen (ok_one hres rfl (okWide_bool_mk htb _))⟩
  · rw [hsp, hres]
    exact trodAll_cons_mk (shut_bool htb _) trodAll_mk0
  · rw [hsp]
    exact trodAll_carry (DataW.TrodAll.respare kids full hts hA (fun q hq => hsp' q (by simpa using hq))) hsame
  · rw [hvs, hsp]
    rfl
  · have hkb : World.keptBut W W' fun _ => False := ⟨k3.os, k3.output, fun i hi => by
      have e1 := (World.keptBut_refl W fun _ => False).2.2 i hi
      rw [k3.keep i hi (h3 · i)]
      exact e1⟩
    exact World.keptBut_mono (fun _ h => h.elim) hkb
end Go.Eng
