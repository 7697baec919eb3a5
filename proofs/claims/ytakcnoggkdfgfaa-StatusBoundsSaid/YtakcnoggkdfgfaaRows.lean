/-
  No cell of these rows narrows 'for every input' (looked for: loops, veiled, ifaces, maps, wideKeys, modest, calm, conditions, laid).
  DERIVED. THE GIVEN ROWS OF THIS SEAT. 6 by the template 'for every input the law returns true; each argument reads behind the call as it read before'; 0 by the template 'total and deterministic' (their statements: YtakcnoggkdfgfaaTotals.lean).
  GIVEN WITH THE SEED: the statements are not yours to turn. If you find one false, say at which input.
  Laid BY PROGRAM, IN A SANDBOX (cutbox-rows.mjs): the forced cells as the released guide's own fill.sh prints them over the translation c82de51c4a07b3a5… (all of the seat's roots in one cut). By AI agents, Wed Nov 11 2026. No macro, syntax, notation, axiom, sorry.
-/
import Derived.Test.YtakcnoggkdfgfaaChecked
import GoSem.Claim
import GoSem.ClaimJoined
import GoSem.ClaimMapViews
import Derived.JoinedTies
import Derived.KernelRfl
namespace Go.Proofs.Ytakcnoggkdfgfaa
/- THE CELL 'sum', in the pinned program and in every row, IS THE sha256 OF THE DUMP (.gsa) THAT YtakcnoggkdfgfaaProg.lean LOADS. Nothing in Lean hashes anything: it is a label: what it is worth is what the hold of that sum in a sandbox is worth. -/
noncomputable def Try.pinned : Pinned := { name := "ytakcnoggkdfgfaa", sum := "c82de51c4a07b3a55737b38dfd48f70172a300157b1a946993491fc3c62a1c33", checked := Try.checked }
namespace Rows
def none {H : Type} : Left H := { results := [], args := [] }

/-- 'ostinatolaw19.StatusBounds': WHATEVER THE INPUT: true; the input reads as it did. -/
def statusBoundsSpec : ChangeSpec := { name := "statusBounds", fn := fun _ => fun
  | [d1, d2, d3] => { results := [.lit (.bool true)], args := [d1, d2, d3] }
  | _ => none }
def statusBoundsRow : OpenClaim := { program := "ytakcnoggkdfgfaa", sum := "c82de51c4a07b3a55737b38dfd48f70172a300157b1a946993491fc3c62a1c33", func := "ostinato/ostinatolaw19.StatusBounds", spec := "statusBounds", apart := false }
def StatusBoundsSaid : Prop := statusBoundsRow.holds Try.pinned (OpenSpec.ofChange statusBoundsSpec)

/-- ITS FALSE NEIGHBOUR: 'it returns false'. Refute it at one input. -/
def statusBoundsWrong : ChangeSpec := { name := "statusBounds", fn := fun _ => fun
  | [d1, d2, d3] => { results := [.lit (.bool false)], args := [d1, d2, d3] }
  | _ => none }
def StatusBoundsWrongFalsely : Prop := statusBoundsRow.holds Try.pinned (OpenSpec.ofChange statusBoundsWrong)

/-- 'ostinatolaw19.StatusSizes': WHATEVER THE INPUT: true; the input reads as it did. -/
def statusSizesSpec : ChangeSpec := { name := "statusSizes", fn := fun _ => fun
  | [d] => { results := [.lit (.bool true)], args := [d] }
  | _ => none }
def statusSizesRow : OpenClaim := { program := "ytakcnoggkdfgfaa", sum := "c82de51c4a07b3a55737b38dfd48f70172a300157b1a946993491fc3c62a1c33", func := "ostinato/ostinatolaw19.StatusSizes", spec := "statusSizes", apart := false }
def StatusSizesSaid : Prop := statusSizesRow.holds Try.pinned (OpenSpec.ofChange statusSizesSpec)

/-- ITS FALSE NEIGHBOUR: 'it returns false'. Refute it at one input. -/
def statusSizesWrong : ChangeSpec := { name := "statusSizes", fn := fun _ => fun
  | [d] => { results := [.lit (.bool false)], args := [d] }
  | _ => none }
def StatusSizesWrongFalsely : Prop := statusSizesRow.holds Try.pinned (OpenSpec.ofChange statusSizesWrong)

/-- 'ostinatolaw19.StatusPlays': WHATEVER THE INPUT: true; the input reads as it did. -/
def statusPlaysSpec : ChangeSpec := { name := "statusPlays", fn := fun _ => fun
  | [d1, d2, d3] => { results := [.lit (.bool true)], args := [d1, d2, d3] }
  | _ => none }
def statusPlaysRow : OpenClaim := { program := "ytakcnoggkdfgfaa", sum := "c82de51c4a07b3a55737b38dfd48f70172a300157b1a946993491fc3c62a1c33", func := "ostinato/ostinatolaw19.StatusPlays", spec := "statusPlays", apart := false }
def StatusPlaysSaid : Prop := statusPlaysRow.holds Try.pinned (OpenSpec.ofChange statusPlaysSpec)

/-- ITS FALSE NEIGHBOUR: 'it returns false'. Refute it at one input. -/
def statusPlaysWrong : ChangeSpec := { name := "statusPlays", fn := fun _ => fun
  | [d1, d2, d3] => { results := [.lit (.bool false)], args := [d1, d2, d3] }
  | _ => none }
def StatusPlaysWrongFalsely : Prop := statusPlaysRow.holds Try.pinned (OpenSpec.ofChange statusPlaysWrong)

/-- 'ostinatolaw19.StatusApart': WHATEVER THE INPUT: true; the input reads as it did. -/
def statusApartSpec : ChangeSpec := { name := "statusApart", fn := fun _ => fun
  | [d] => { results := [.lit (.bool true)], args := [d] }
  | _ => none }
def statusApartRow : OpenClaim := { program := "ytakcnoggkdfgfaa", sum := "c82de51c4a07b3a55737b38dfd48f70172a300157b1a946993491fc3c62a1c33", func := "ostinato/ostinatolaw19.StatusApart", spec := "statusApart", apart := false }
def StatusApartSaid : Prop := statusApartRow.holds Try.pinned (OpenSpec.ofChange statusApartSpec)

/-- ITS FALSE NEIGHBOUR: 'it returns false'. Refute it at one input. -/
def statusApartWrong : ChangeSpec := { name := "statusApart", fn := fun _ => fun
  | [d] => { results := [.lit (.bool false)], args := [d] }
  | _ => none }
def StatusApartWrongFalsely : Prop := statusApartRow.holds Try.pinned (OpenSpec.ofChange statusApartWrong)

/-- 'ostinatolaw20.LevelTells': WHATEVER THE INPUT: true; the input reads as it did. -/
def levelTellsSpec : ChangeSpec := { name := "levelTells", fn := fun _ => fun
  | [d1, d2, d3, d4] => { results := [.lit (.bool true)], args := [d1, d2, d3, d4] }
  | _ => none }
def levelTellsRow : OpenClaim := { program := "ytakcnoggkdfgfaa", sum := "c82de51c4a07b3a55737b38dfd48f70172a300157b1a946993491fc3c62a1c33", func := "ostinato/ostinatolaw20.LevelTells", spec := "levelTells", apart := false }
def LevelTellsSaid : Prop := levelTellsRow.holds Try.pinned (OpenSpec.ofChange levelTellsSpec)

/-- ITS FALSE NEIGHBOUR: 'it returns false'. Refute it at one input. -/
def levelTellsWrong : ChangeSpec := { name := "levelTells", fn := fun _ => fun
  | [d1, d2, d3, d4] => { results := [.lit (.bool false)], args := [d1, d2, d3, d4] }
  | _ => none }
def LevelTellsWrongFalsely : Prop := levelTellsRow.holds Try.pinned (OpenSpec.ofChange levelTellsWrong)

/-- 'ostinatolaw20.LevelGrows': WHATEVER THE INPUT: true; the input reads as it did. -/
def levelGrowsSpec : ChangeSpec := { name := "levelGrows", fn := fun _ => fun
  | [d1, d2] => { results := [.lit (.bool true)], args := [d1, d2] }
  | _ => none }
def levelGrowsRow : OpenClaim := { program := "ytakcnoggkdfgfaa", sum := "c82de51c4a07b3a55737b38dfd48f70172a300157b1a946993491fc3c62a1c33", func := "ostinato/ostinatolaw20.LevelGrows", spec := "levelGrows", apart := false }
def LevelGrowsSaid : Prop := levelGrowsRow.holds Try.pinned (OpenSpec.ofChange levelGrowsSpec)

/-- ITS FALSE NEIGHBOUR: 'it returns false'. Refute it at one input. -/
def levelGrowsWrong : ChangeSpec := { name := "levelGrows", fn := fun _ => fun
  | [d1, d2] => { results := [.lit (.bool false)], args := [d1, d2] }
  | _ => none }
def LevelGrowsWrongFalsely : Prop := levelGrowsRow.holds Try.pinned (OpenSpec.ofChange levelGrowsWrong)

/- THE SECOND FORM. 'bulk': how many values and letters a reading holds, each counted each time it is reached (what is shared counts as often as it is met; a slice's spare places count too). A statement '..UptoSaid' is the law's where the arguments, and the package variables that the reading takes, are together of bulk at most 1048576: NARROWER than '..Said'. Prove '..Said' where nothing that the law and all that it calls make is longer than what came in: it says more and counts as full. Else prove '..UptoSaid'. A law counts once. -/
mutual
def uptoBulk {H : Type} : DataW H → Nat
  | .lit (.string bytes) => bytes.length + 1
  | .lit _ => 1
  | .nil => 1
  | .ptr d => uptoBulk d + 1
  | .slice elems spare => uptoBulkAll elems + uptoBulkAll spare + 1
  | .agg parts => uptoBulkAll parts + 1
  | .iface _ d => uptoBulk d + 1
  | .map entries => uptoBulkEntries entries + 1
  | .held _ => 1
def uptoBulkAll {H : Type} : List (DataW H) → Nat
  | [] => 0
  | d :: r => uptoBulk d + uptoBulkAll r
def uptoBulkEntries {H : Type} : List (Lit × DataW H) → Nat
  | [] => 0
  | x :: r => uptoBulkEntry x + uptoBulkEntries r
def uptoBulkEntry {H : Type} : Lit × DataW H → Nat
  | (.string bytes, d) => bytes.length + uptoBulk d + 1
  | (_, d) => uptoBulk d + 1
 end
def uptoSmall : (H : Type) → List (DataW H) → Bool := fun _ ds => decide (uptoBulkAll ds ≤ 1048576)
def OpenSpec.upto (s : _root_.Go.ChangeSpec) : _root_.Go.OpenSpec := { _root_.Go.OpenSpec.ofChange s with cond := some uptoSmall }

/-- 'ostinatolaw19.StatusBounds', WHERE WHAT IT READS IS OF BULK AT MOST 1048576: true; the input reads as it did. -/
def statusBoundsUptoRow : OpenClaim := { program := "ytakcnoggkdfgfaa", sum := "c82de51c4a07b3a55737b38dfd48f70172a300157b1a946993491fc3c62a1c33", func := "ostinato/ostinatolaw19.StatusBounds", spec := "statusBounds", apart := false, narrowed := true }
def StatusBoundsUptoSaid : Prop := statusBoundsUptoRow.holds Try.pinned (OpenSpec.upto statusBoundsSpec)

/-- 'ostinatolaw19.StatusSizes', WHERE WHAT IT READS IS OF BULK AT MOST 1048576: true; the input reads as it did. -/
def statusSizesUptoRow : OpenClaim := { program := "ytakcnoggkdfgfaa", sum := "c82de51c4a07b3a55737b38dfd48f70172a300157b1a946993491fc3c62a1c33", func := "ostinato/ostinatolaw19.StatusSizes", spec := "statusSizes", apart := false, narrowed := true }
def StatusSizesUptoSaid : Prop := statusSizesUptoRow.holds Try.pinned (OpenSpec.upto statusSizesSpec)

/-- 'ostinatolaw19.StatusPlays', WHERE WHAT IT READS IS OF BULK AT MOST 1048576: true; the input reads as it did. -/
def statusPlaysUptoRow : OpenClaim := { program := "ytakcnoggkdfgfaa", sum := "c82de51c4a07b3a55737b38dfd48f70172a300157b1a946993491fc3c62a1c33", func := "ostinato/ostinatolaw19.StatusPlays", spec := "statusPlays", apart := false, narrowed := true }
def StatusPlaysUptoSaid : Prop := statusPlaysUptoRow.holds Try.pinned (OpenSpec.upto statusPlaysSpec)

/-- 'ostinatolaw19.StatusApart', WHERE WHAT IT READS IS OF BULK AT MOST 1048576: true; the input reads as it did. -/
def statusApartUptoRow : OpenClaim := { program := "ytakcnoggkdfgfaa", sum := "c82de51c4a07b3a55737b38dfd48f70172a300157b1a946993491fc3c62a1c33", func := "ostinato/ostinatolaw19.StatusApart", spec := "statusApart", apart := false, narrowed := true }
def StatusApartUptoSaid : Prop := statusApartUptoRow.holds Try.pinned (OpenSpec.upto statusApartSpec)

/-- 'ostinatolaw20.LevelTells', WHERE WHAT IT READS IS OF BULK AT MOST 1048576: true; the input reads as it did. -/
def levelTellsUptoRow : OpenClaim := { program := "ytakcnoggkdfgfaa", sum := "c82de51c4a07b3a55737b38dfd48f70172a300157b1a946993491fc3c62a1c33", func := "ostinato/ostinatolaw20.LevelTells", spec := "levelTells", apart := false, narrowed := true }
def LevelTellsUptoSaid : Prop := levelTellsUptoRow.holds Try.pinned (OpenSpec.upto levelTellsSpec)

/-- 'ostinatolaw20.LevelGrows', WHERE WHAT IT READS IS OF BULK AT MOST 1048576: true; the input reads as it did. -/
def levelGrowsUptoRow : OpenClaim := { program := "ytakcnoggkdfgfaa", sum := "c82de51c4a07b3a55737b38dfd48f70172a300157b1a946993491fc3c62a1c33", func := "ostinato/ostinatolaw20.LevelGrows", spec := "levelGrows", apart := false, narrowed := true }
def LevelGrowsUptoSaid : Prop := levelGrowsUptoRow.holds Try.pinned (OpenSpec.upto levelGrowsSpec)

end Rows
end Go.Proofs.Ytakcnoggkdfgfaa
