/- Plain words, on: a frame's reader keeps within bounds. No program in sight. -/
import Derived.Test.YtdeaigaafdnehaaDoorPuQ
namespace Go.Pu
open Go.Eng
structure Rd.Ok (r : Rd) : Prop where
  need : r.need ≤ 103
  short : r.need = 0 → r.b.length ≤ 38 ∧ (gb r.b 13 = false → r.b.length ≤ 18)
  long : r.need ≠ 0 → r.b.length ≤ r.need + 15
  sum : r.sum < 32768
  run : r.run.n ≤ 5
theorem Rd.Ok.len {r : Rd} (h : r.Ok) : r.b.length ≤ 118 := by
  have h1 := h.need
  by_cases q : r.need = 0
  · have := (h.short q).1; omega
  · have := h.long q; omega
theorem rd0_ok : rd0.Ok := ⟨by decide, fun _ => ⟨by decide, fun _ => by decide⟩, fun h => absurd rfl h, by decide, by decide⟩
theorem Rd.inB_iff {r : Rd} : r.inB = true ↔ r.need = 0 ∨ r.b.length < r.need + 15 := by unfold Rd.inB; exact decide_eq_true_iff
theorem run_add_bd (r : Run) (c : Bool) (h : r.n ≠ 5) (h5 : r.n ≤ 5) : (r.add c).n ≤ 5 := by
  unfold Run.add
  split
  · show r.n + 1 ≤ 5; omega
  · show 1 ≤ 5; decide
theorem need_long (L : List Bool) (h : (need L).1 = 0) (h2 : (need L).2 = 0) : L.length ≤ 38 ∧ (gb L 13 = false → L.length ≤ 18) := by
  unfold need at h h2
  split at h
  · rename_i g; rw [if_pos g] at h2; cases h2
  · rename_i g1; rw [if_neg g1] at h2
    split at h
    · omega
    · rename_i g2; rw [if_neg g2] at h2
      split at h
      · rename_i g3; rw [if_pos g3] at h2
        refine ⟨?_, fun g => by rw [g3] at g; cases g⟩
        split at h
        · rename_i g4; rw [if_pos g4] at h2; cases h2
        · rename_i g4
          split at h
          · omega
          · split at h
            · cases h
            · simp at h
      · split at h
        · omega
        · split at h
          · cases h
          · simp at h
/-- What stays so: behind a bit that meets no error. -/
theorem push_ok {r : Rd} (h : r.Ok) {c : Bool} (he : (r.push c).2 = 0) : (r.push c).1.Ok := by
  obtain ⟨h1, h2, h3, h4, h5⟩ := h
  unfold Rd.push at he ⊢
  split
  · rename_i g
    rw [if_pos g] at he
    split
    · exact ⟨h1, h2, h3, h4, h5⟩
    · rename_i g1
      rw [if_neg g1] at he
      split
      · rename_i g2
        refine ⟨h1, h2, h3, h4, ?_⟩
        show (r.run.add c).n ≤ 5
        unfold Run.add
        rw [if_neg (fun g3 => g1 ⟨g2, g3.2⟩)]
        show 1 ≤ 5; decide
      · rename_i g2
        rw [if_neg g2] at he
        have hr := run_add_bd r.run c g2 h5
        have hin : r.need = 0 ∨ r.b.length < r.need + 15 := by
          rcases g with g | g
          · exact Rd.inB_iff.1 g
          · exact absurd g.1 g2
        unfold Rd.add at he ⊢
        split
        · rename_i g3
          have g3 : 0 < r.need := g3
          refine ⟨h1, fun e => ?_, fun _ => ?_, crcAdd_lt _ _, hr⟩
          · have e : r.need = 0 := e; omega
          · show (r.b ++ [c]).length ≤ r.need + 15
            rw [List.length_append]; show r.b.length + 1 ≤ r.need + 15; omega
        · rename_i g3
          rw [if_neg g3] at he
          have g3 : ¬ 0 < r.need := g3
          split
          · rename_i g4
            rw [if_pos g4] at he
            exact absurd he g4
          · rename_i g4
            have g4 : (need (r.b ++ [c])).2 = 0 := by
              refine Classical.byContradiction fun g => g4 ?_
              exact g
            have nb := need_bd (r.b ++ [c])
            refine ⟨?_, fun e => need_long _ e g4, fun e => ?_, crcAdd_lt _ _, hr⟩
            · show (need (r.b ++ [c])).1 ≤ 103; omega
            · show (r.b ++ [c]).length ≤ (need (r.b ++ [c])).1 + 15
              have := h2 (by omega)
              have hl : (r.b ++ [c]).length = r.b.length + 1 := by rw [List.length_append]; rfl
              have hg : 13 < r.b.length → gb (r.b ++ [c]) 13 = gb r.b 13 := fun h => gb_left h
              have hs : gb (r.b ++ [c]) 13 = false → r.b.length ≤ 18 := fun h => by
                by_cases k : 13 < r.b.length
                · exact this.2 (by rw [← hg k]; exact h)
                · omega
              have e : (need (r.b ++ [c])).1 ≠ 0 := e
              rw [hl] at nb ⊢
              rcases nb with nb | nb | ⟨_, nb, _⟩
              · exact absurd nb e
              · omega
              · have := hs nb; omega
  · exact ⟨h1, h2, h3, h4, h5⟩
theorem push_fin {r : Rd} {c : Bool} : (r.push c).1.fin ≤ r.fin + 1 := by
  unfold Rd.push
  split
  · split
    · exact Nat.le_succ _
    · split
      · exact Nat.le_succ _
      · unfold Rd.add
        split
        · exact Nat.le_succ _
        · split <;> exact Nat.le_succ _
  · exact Nat.le_refl _
end Go.Pu
