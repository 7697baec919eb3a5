/- Layer 26, WatchBeats in plain words: which of what was sent are beats, and where. -/
import Derived.Test.YtdeaigaafdnehaaDoorLfE
import Derived.Test.YtdeaigaafdnehaaDoorCbN
namespace Go.Pu
open Go.Eng
theorem encB_len4 {f : Frm} (he : f.ext = false) (hs : f.data.size ≤ 4) : (encB f).length ≤ 142 := by
  have h1 : (arb f).length = 14 := by
    unfold arb
    rw [he, if_neg (by simp)]
    simp only [List.length_cons, List.length_append, ofN_len, List.length_nil]
  have h2 : (byB f.data).length ≤ 32 := by
    rw [byB_len]; omega
  have h3 : (body f).length ≤ 51 := by
    unfold body
    rw [List.length_append, List.length_append, List.length_append, ofN_len, h1, he, if_neg (by simp)]
    show 14 + 1 + 4 + _ ≤ 51
    omega
  have h4 := stuffGo_len run0 (body f ++ ofN (crc (body f)) 15)
  rw [List.length_append, ofN_len] at h4
  unfold encB stuff
  rw [List.length_append, List.length_replicate]
  omega
end Go.Pu
namespace Go.Proofs.YtdeaigaafdnehaaDoor.La
open Go Go.Eng Go.Proofs Go.Proofs.YtdeaigaafdnehaaDoor.Tb Go.Proofs.YtdeaigaafdnehaaDoor.Co Go.Pu
def fmsg : Frm := ⟨false, 99, false, ⟨#[109, 115, 103]⟩⟩
def fB (g c : Nat) : Frm := if c % 4 = 2 then fmsg else bldF m26 ((c / 4 % 2 : Nat) : Int) ((c / 8 % 2 : Nat) : Int) g (decide (c % 2 = 1))
theorem isM26 : isM m26 = true := by decide +kernel
theorem bldOk26 {a b : Nat} (ha : a < 2) (hb : b < 2) : bldOk m26 (a : Int) (b : Int) = true := by
  unfold bldOk
  rw [isM26, Bool.true_and]
  exact decide_eq_true ⟨by omega, by show (a : Int) < ((2 : Nat) : Int); omega, by omega, by show (b : Int) < 2; omega⟩
theorem bldF26 {a b g : Nat} {d : Bool} (ha : a < 2) (hb : b < 2) : bldF m26 (a : Int) (b : Int) g d = ⟨false, 16 + a, false, ⟨#[UInt8.ofNat b, UInt8.ofNat (if d then 1 else 0), UInt8.ofNat (g / 256), UInt8.ofNat (g % 256)]⟩⟩ := by
  unfold bldF
  rw [bldOk26 ha hb, if_pos rfl]
  show Frm.mk false ((16 : Int) + (a : Int)).toNat false (bldD m26 (b : Int) g d) = _
  rw [show ((16 : Int) + (a : Int)).toNat = 16 + a by omega]
  rfl
theorem by8 {n : Nat} (h : n < 256) : (UInt8.ofNat n).toNat = n := by
  show n % 256 = n
  omega
theorem btOk26 {a b g : Nat} {d : Bool} (ha : a < 2) (hb : b < 2) (hg : g < 65536) : btOk m26 (bldF m26 (a : Int) (b : Int) g d) = true := by
  have e := bldF26 (g := g) (d := d) ha hb
  have h0 : byN (bldF m26 (a : Int) (b : Int) g d).data 0 = b := by rw [e]; exact by8 (by omega)
  have h1 : byN (bldF m26 (a : Int) (b : Int) g d).data 1 = if d then 1 else 0 := by rw [e]; exact by8 (by split <;> omega)
  have h2 : byN (bldF m26 (a : Int) (b : Int) g d).data 2 = g / 256 := by rw [e]; exact by8 (by omega)
  have h3 : byN (bldF m26 (a : Int) (b : Int) g d).data 3 = g % 256 := by rw [e]; exact by8 (by omega)
  have hid : (bldF m26 (a : Int) (b : Int) g d).id = 16 + a := by rw [e]
  have hsz : (bldF m26 (a : Int) (b : Int) g d).data.size = 4 := by rw [e]; rfl
  have ho : btOf m26 (bldF m26 (a : Int) (b : Int) g d) = ⟨(a : Int), b, g, d⟩ := by
    unfold btOf
    rw [if_pos ⟨rfl, hsz⟩, h0, h1, h2, h3, hid]
    rw [show g / 256 * 256 + g % 256 = g by omega]
    have e1 : (((16 + a : Nat) : Int) - m26.ref) = (a : Int) := by show (((16 + a : Nat) : Int) - 16) = _; omega
    rw [e1]
    cases d <;> rfl
  unfold btOk
  rw [ho]
  show (!decide _ && (bldOk m26 (a : Int) (b : Int) && frmEq (bldF m26 (a : Int) (b : Int) g d) _)) = true
  rw [bldOk26 ha hb]
  have e2 : ¬ ((bldF m26 (a : Int) (b : Int) g d).data.size = 0 ∨ ((bldF m26 (a : Int) (b : Int) g d).id : Int) < m26.ref ∨ (m26.nM : Int) ≤ (bldF m26 (a : Int) (b : Int) g d).id - m26.ref) := by
    rw [hsz, hid]
    show ¬ (4 = 0 ∨ ((16 + a : Nat) : Int) < 16 ∨ ((2 : Nat) : Int) ≤ ((16 + a : Nat) : Int) - 16)
    omega
  rw [decide_eq_false e2]
  unfold frmEq strEq
  simp
theorem fB_bt {g c : Nat} (hg : g < 65536) : btOk m26 (fB g c) = !decide (c % 4 = 2) := by
  unfold fB
  by_cases h : c % 4 = 2
  · rw [if_pos h, decide_eq_true h]
    decide +kernel
  · rw [if_neg h, decide_eq_false h]
    exact btOk26 (Nat.mod_lt _ (by decide)) (Nat.mod_lt _ (by decide)) hg
theorem fB_ok (g c : Nat) : (fB g c).ok ∧ (fB g c).ext = false ∧ (fB g c).data.size ≤ 4 := by
  unfold fB
  by_cases h : c % 4 = 2
  · rw [if_pos h]
    exact ⟨by decide +kernel, rfl, by decide⟩
  · rw [if_neg h, bldF26 (Nat.mod_lt _ (by decide)) (Nat.mod_lt _ (by decide))]
    have hid : 16 + c / 4 % 2 < 2048 := by omega
    exact ⟨⟨fun e => absurd (show false = true from e) (by simp), (by decide : 4 ≤ 8), hid⟩, rfl, Nat.le_refl 4⟩
/-- The frames, three ones ahead of each. -/
def prB (g : Nat) (C : Nat → Nat) : Nat → List (Frm × Nat)
  | 0 => []
  | i + 1 => prB g C i ++ [(fB g (C i), 3)]
theorem prB_mem {g : Nat} {C : Nat → Nat} : ∀ {i : Nat} {x : Frm × Nat}, x ∈ prB g C i → ∃ c, x = (fB g c, 3)
  | 0, x, h => by cases h
  | i + 1, x, h => by
    rcases List.mem_append.1 h with h | h
    · exact prB_mem h
    · exact ⟨_, List.mem_singleton.1 h⟩
theorem prB_sent (g : Nat) (C : Nat → Nat) : ∀ i, (sentB (prB g C i)).length ≤ 145 * i
  | 0 => Nat.le_refl _
  | i + 1 => by
    show (sentB (prB g C i ++ [(fB g (C i), 3)])).length ≤ _
    rw [sent_app, List.length_append]
    show _ + (List.replicate 3 true ++ (encB (fB g (C i)) ++ [])).length ≤ _
    rw [List.append_nil, List.length_append, List.length_replicate]
    have := prB_sent g C i
    have := encB_len4 (fB_ok g (C i)).2.1 (fB_ok g (C i)).2.2
    omega
theorem prB_len (g : Nat) (C : Nat → Nat) : ∀ i, (seenL 0 (prB g C i)).length = i
  | 0 => rfl
  | i + 1 => by
    show (seenL 0 (prB g C i ++ [(fB g (C i), 3)])).length = _
    rw [seen_app, List.length_append, prB_len g C i]; rfl
theorem prB_gs {g : Nat} {C : Nat → Nat} : ∀ {i j : Nat}, j < i → gs (seenL 0 (prB g C i)) j = ⟨(sentB (prB g C j)).length + 3, (encB (fB g (C j))).length, fB g (C j), 0⟩
  | i + 1, j, h => by
    show gs (seenL 0 (prB g C i ++ [(fB g (C i), 3)])) j = _
    rw [seen_app]
    show gs (_ ++ [_]) j = _
    have hl := prB_len g C i
    rw [gs_snoc (by omega), hl]
    by_cases hj : j < i
    · rw [if_pos hj]; exact prB_gs hj
    · obtain rfl : j = i := by omega
      rw [if_neg hj, Nat.zero_add]
theorem prB_fr (g : Nat) (C : Nat → Nat) (i : Nat) : Fr (sentB (prB g C i)) 0 (seenL 0 (prB g C i)) := fr_sent _ 0 fun x hx => by
  obtain ⟨c, rfl⟩ := prB_mem hx
  exact (fB_ok g c).1
/-- Where the beats are. -/
def atB (g : Nat) (C : Nat → Nat) : Nat → List Nat
  | 0 => []
  | i + 1 => if C i % 4 = 2 then atB g C i else atB g C i ++ [(sentB (prB g C i)).length + 3]
theorem atB_len (g : Nat) (C : Nat → Nat) : ∀ i, (atB g C i).length ≤ i
  | 0 => Nat.le_refl _
  | i + 1 => by
    have := atB_len g C i
    unfold atB
    split
    · omega
    · rw [List.length_append]; show _ + 1 ≤ _; omega
theorem atB_bts {g : Nat} (hg : g < 65536) (C : Nat → Nat) (n : Nat) : ∀ {j : Nat}, j ≤ n → (btsL m26 (seenL 0 (prB g C n)) j).map (·.at_) = atB g C j
  | 0, _ => rfl
  | j + 1, h => by
    have ih := atB_bts hg C n (j := j) (by omega)
    have e := prB_gs (g := g) (C := C) (show j < n by omega)
    show (if btB m26 (gs _ j) then _ else _ : List Sn).map _ = (if _ then _ else _)
    have eb : btB m26 (gs (seenL 0 (prB g C n)) j) = !decide (C j % 4 = 2) := by
      rw [e]
      unfold btB
      rw [fB_bt hg]; simp
    rw [eb]
    by_cases h2 : C j % 4 = 2
    · rw [if_pos h2, decide_eq_true h2, if_neg (by simp)]; exact ih
    · rw [if_neg h2, decide_eq_false h2, if_pos (by simp), List.map_append, ih, e]; rfl
end Go.Proofs.YtdeaigaafdnehaaDoor.La
