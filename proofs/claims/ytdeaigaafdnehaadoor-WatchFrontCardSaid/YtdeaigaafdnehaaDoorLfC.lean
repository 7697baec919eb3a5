/- Layer 26, in plain words: what is sent is seen as it was sent. -/
import Derived.Test.YtdeaigaafdnehaaDoorLfB
namespace Go.Pu
theorem stuffGo_head (r : Run) (c : Bool) (l : List Bool) : ∃ t, stuffGo r (c :: l) = c :: t := by
  unfold stuffGo
  split
  · exact ⟨_, rfl⟩
  · exact ⟨_, rfl⟩
theorem encB_head (f : Frm) (r : List Bool) : ∃ l, encB f ++ r = false :: l := by
  have h1 : ∃ t, arb f = false :: t := by
    unfold arb
    split
    · exact ⟨_, rfl⟩
    · exact ⟨_, rfl⟩
  obtain ⟨t, ht⟩ := h1
  have h2 : ∃ t, body f ++ ofN (crc (body f)) 15 = false :: t := by
    unfold body
    rw [ht]
    exact ⟨_, rfl⟩
  obtain ⟨t2, ht2⟩ := h2
  obtain ⟨t3, ht3⟩ := stuffGo_head run0 false t2
  refine ⟨t3 ++ List.replicate 10 true ++ r, ?_⟩
  unfold encB stuff
  rw [ht2, ht3]; rfl
theorem encB_pos (f : Frm) : 10 ≤ (encB f).length := by
  unfold encB
  rw [List.length_append, List.length_replicate]; omega
/-- A frame ahead of a row. -/
theorem fr_frame {f : Frm} (hf : f.ok) {r : List Bool} {n : Nat} {o : List Sn} (h : Fr r (n + (encB f).length) o) : Fr (encB f ++ r) n (⟨n, (encB f).length, f, 0⟩ :: o) := by
  obtain ⟨l, hl⟩ := encB_head f r
  have hd := dec_enc hf r
  have hp := encB_pos f
  have hlen : (encB f ++ r).length = (encB f).length + r.length := List.length_append
  have hdr : (encB f ++ r).drop (encB f).length = r := List.drop_left
  rw [hl] at hd hlen hdr ⊢
  have hlen : l.length + 1 = (encB f).length + r.length := hlen
  exact .ok hd (by omega) (by omega) (by rw [hdr]; exact h)
/-- Ones ahead of a row. -/
theorem fr_gap {r : List Bool} {o : List Sn} : ∀ (k n : Nat), Fr r (n + k) o → Fr (List.replicate k true ++ r) n o
  | 0, n, h => h
  | k + 1, n, h => by
    rw [List.replicate_succ]
    exact .one (fr_gap k (n + 1) (by rw [show n + 1 + k = n + (k + 1) by omega]; exact h))
/-- The row of frames with ones ahead of each, and what is to be seen of it. -/
def sentB : List (Frm × Nat) → List Bool
  | [] => []
  | (f, g) :: l => List.replicate g true ++ (encB f ++ sentB l)
def seenL (n : Nat) : List (Frm × Nat) → List Sn
  | [] => []
  | (f, g) :: l => ⟨n + g, (encB f).length, f, 0⟩ :: seenL (n + g + (encB f).length) l
theorem fr_sent : ∀ (l : List (Frm × Nat)) (n : Nat), (∀ x ∈ l, x.1.ok) → Fr (sentB l) n (seenL n l)
  | [], n, _ => .done n
  | (f, g) :: l, n, h => fr_gap g n (fr_frame (h _ (.head _)) (fr_sent l _ fun x hx => h x (.tail _ hx)))
theorem sent_app : ∀ (l m : List (Frm × Nat)), sentB (l ++ m) = sentB l ++ sentB m
  | [], m => rfl
  | (f, g) :: l, m => by
    show List.replicate g true ++ (encB f ++ sentB (l ++ m)) = _
    rw [sent_app l m]
    show _ = (List.replicate g true ++ (encB f ++ sentB l)) ++ sentB m
    simp only [List.append_assoc]
theorem seen_app : ∀ (l m : List (Frm × Nat)) (n : Nat), seenL n (l ++ m) = seenL n l ++ seenL (n + (sentB l).length) m
  | [], m, n => rfl
  | (f, g) :: l, m, n => by
    show _ :: seenL _ (l ++ m) = _ :: (seenL _ l ++ _)
    rw [seen_app l m]
    have e : (sentB ((f, g) :: l)).length = g + ((encB f).length + (sentB l).length) := by
      show (List.replicate g true ++ (encB f ++ sentB l)).length = _
      rw [List.length_append, List.length_append, List.length_replicate]
    rw [e, show n + g + (encB f).length + (sentB l).length = n + (g + ((encB f).length + (sentB l).length)) by omega]
theorem qn_rep (l : List Bool) : ∀ k, k ≤ qn (l ++ List.replicate k true)
  | 0 => Nat.zero_le _
  | k + 1 => by
    rw [List.replicate_succ', ← List.append_assoc, qn_app1]
    exact Nat.succ_le_succ (qn_rep l k)
/-- A row that ends with a frame ends quiet. -/
theorem qn_sent (l : List (Frm × Nat)) (f : Frm) (g : Nat) : 10 ≤ qn (sentB (l ++ [(f, g)])) := by
  rw [sent_app]
  show 10 ≤ qn (sentB l ++ (List.replicate g true ++ (encB f ++ [])))
  unfold encB
  rw [List.append_nil, ← List.append_assoc, ← List.append_assoc]
  exact qn_rep _ 10
theorem encB_len {f : Frm} (hf : f.ok) : (encB f).length ≤ 246 := by
  have h1 : (arb f).length ≤ 33 := by
    unfold arb
    split
    · simp only [List.length_cons, List.length_append, ofN_len, List.length_nil]; omega
    · simp only [List.length_cons, List.length_append, ofN_len, List.length_nil]; omega
  have h2 : (byB f.data).length ≤ 64 := by
    rw [byB_len]
    have := hf.2.1
    omega
  have h3 : (body f).length ≤ 103 := by
    unfold body
    rw [List.length_append, List.length_append, List.length_append, ofN_len]
    have : (if f.ext then [false, false] else [false]).length ≤ 2 := by split <;> simp
    omega
  have h4 := stuffGo_len run0 (body f ++ ofN (crc (body f)) 15)
  rw [List.length_append, ofN_len] at h4
  unfold encB stuff
  rw [List.length_append, List.length_replicate]
  omega
end Go.Pu
