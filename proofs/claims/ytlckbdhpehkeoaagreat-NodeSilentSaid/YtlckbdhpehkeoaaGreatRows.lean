/-
  No cell of these rows narrows 'for every input' (looked for: loops, veiled, ifaces, maps, wideKeys, modest, calm, conditions, laid).
  DERIVED. THE GIVEN ROWS OF THIS SEAT. 16 by the template 'for every input the law returns true; each argument reads behind the call as it read before'; 0 by the template 'total and deterministic' (their statements: YtlckbdhpehkeoaaGreatTotals.lean).
  GIVEN WITH THE SEED: the statements are not yours to turn. If you find one false, say at which input.
  Laid BY PROGRAM, IN A SANDBOX (cutbox-rows.mjs): the forced cells as the released guide's own fill.sh prints them over the translation 5b17f66f49736e71… (all of the seat's roots in one cut). By AI agents, Wed Nov 11 2026. No macro, syntax, notation, axiom, sorry.
-/
import Derived.Test.YtlckbdhpehkeoaaGreatChecked
import GoSem.Claim
import GoSem.ClaimJoined
import GoSem.ClaimMapViews
import Derived.JoinedTies
import Derived.KernelRfl
namespace Go.Proofs.YtlckbdhpehkeoaaGreat
/- THE CELL 'sum', in the pinned program and in every row, IS THE sha256 OF THE DUMP (.gsa) THAT YtlckbdhpehkeoaaGreatProg.lean LOADS. Nothing in Lean hashes anything: it is a label: what it is worth is what the hold of that sum in a sandbox is worth. -/
noncomputable def Tryz.pinned : Pinned := { name := "ytlckbdhpehkeoaagreat", sum := "5b17f66f49736e714ed549aa0d55b88b5599f46eba09cf1fb7f5a12fd0a2688a", checked := Tryz.checked }
namespace Rows
def none {H : Type} : Left H := { results := [], args := [] }

/-- 'ostinatolaw24.NodeOwner': WHATEVER THE INPUT: true; the input reads as it did. -/
def nodeOwnerSpec : ChangeSpec := { name := "nodeOwner", fn := fun _ => fun
  | [d1, d2, d3] => { results := [.lit (.bool true)], args := [d1, d2, d3] }
  | _ => none }
def nodeOwnerRow : OpenClaim := { program := "ytlckbdhpehkeoaagreat", sum := "5b17f66f49736e714ed549aa0d55b88b5599f46eba09cf1fb7f5a12fd0a2688a", func := "ostinato/ostinatolaw24.NodeOwner", spec := "nodeOwner", unfollowed := true, recurses := true, apart := false }
def NodeOwnerSaid : Prop := nodeOwnerRow.holds Tryz.pinned (OpenSpec.ofChange nodeOwnerSpec)

/-- ITS FALSE NEIGHBOUR: 'it returns false'. Refute it at one input. -/
def nodeOwnerWrong : ChangeSpec := { name := "nodeOwner", fn := fun _ => fun
  | [d1, d2, d3] => { results := [.lit (.bool false)], args := [d1, d2, d3] }
  | _ => none }
def NodeOwnerWrongFalsely : Prop := nodeOwnerRow.holds Tryz.pinned (OpenSpec.ofChange nodeOwnerWrong)

/-- 'ostinatolaw24.NodeStands': WHATEVER THE INPUT: true; the input reads as it did. -/
def nodeStandsSpec : ChangeSpec := { name := "nodeStands", fn := fun _ => fun
  | [d] => { results := [.lit (.bool true)], args := [d] }
  | _ => none }
def nodeStandsRow : OpenClaim := { program := "ytlckbdhpehkeoaagreat", sum := "5b17f66f49736e714ed549aa0d55b88b5599f46eba09cf1fb7f5a12fd0a2688a", func := "ostinato/ostinatolaw24.NodeStands", spec := "nodeStands", unfollowed := true, recurses := true, apart := false }
def NodeStandsSaid : Prop := nodeStandsRow.holds Tryz.pinned (OpenSpec.ofChange nodeStandsSpec)

/-- ITS FALSE NEIGHBOUR: 'it returns false'. Refute it at one input. -/
def nodeStandsWrong : ChangeSpec := { name := "nodeStands", fn := fun _ => fun
  | [d] => { results := [.lit (.bool false)], args := [d] }
  | _ => none }
def NodeStandsWrongFalsely : Prop := nodeStandsRow.holds Tryz.pinned (OpenSpec.ofChange nodeStandsWrong)

/-- 'ostinatolaw24.NodeSilent': WHATEVER THE INPUT: true; the input reads as it did. -/
def nodeSilentSpec : ChangeSpec := { name := "nodeSilent", fn := fun _ => fun
  | [d1, d2] => { results := [.lit (.bool true)], args := [d1, d2] }
  | _ => none }
def nodeSilentRow : OpenClaim := { program := "ytlckbdhpehkeoaagreat", sum := "5b17f66f49736e714ed549aa0d55b88b5599f46eba09cf1fb7f5a12fd0a2688a", func := "ostinato/ostinatolaw24.NodeSilent", spec := "nodeSilent", unfollowed := true, recurses := true, apart := false }
def NodeSilentSaid : Prop := nodeSilentRow.holds Tryz.pinned (OpenSpec.ofChange nodeSilentSpec)

/-- ITS FALSE NEIGHBOUR: 'it returns false'. Refute it at one input. -/
def nodeSilentWrong : ChangeSpec := { name := "nodeSilent", fn := fun _ => fun
  | [d1, d2] => { results := [.lit (.bool false)], args := [d1, d2] }
  | _ => none }
def NodeSilentWrongFalsely : Prop := nodeSilentRow.holds Tryz.pinned (OpenSpec.ofChange nodeSilentWrong)

/-- 'ostinatolaw24.NodeWatch': WHATEVER THE INPUT: true; the input reads as it did. -/
def nodeWatchSpec : ChangeSpec := { name := "nodeWatch", fn := fun _ => fun
  | [d] => { results := [.lit (.bool true)], args := [d] }
  | _ => none }
def nodeWatchRow : OpenClaim := { program := "ytlckbdhpehkeoaagreat", sum := "5b17f66f49736e714ed549aa0d55b88b5599f46eba09cf1fb7f5a12fd0a2688a", func := "ostinato/ostinatolaw24.NodeWatch", spec := "nodeWatch", unfollowed := true, recurses := true, apart := false }
def NodeWatchSaid : Prop := nodeWatchRow.holds Tryz.pinned (OpenSpec.ofChange nodeWatchSpec)

/-- ITS FALSE NEIGHBOUR: 'it returns false'. Refute it at one input. -/
def nodeWatchWrong : ChangeSpec := { name := "nodeWatch", fn := fun _ => fun
  | [d] => { results := [.lit (.bool false)], args := [d] }
  | _ => none }
def NodeWatchWrongFalsely : Prop := nodeWatchRow.holds Tryz.pinned (OpenSpec.ofChange nodeWatchWrong)

/-- 'ostinatolaw24.NodeTakes': WHATEVER THE INPUT: true; the input reads as it did. -/
def nodeTakesSpec : ChangeSpec := { name := "nodeTakes", fn := fun _ => fun
  | [d1, d2, d3] => { results := [.lit (.bool true)], args := [d1, d2, d3] }
  | _ => none }
def nodeTakesRow : OpenClaim := { program := "ytlckbdhpehkeoaagreat", sum := "5b17f66f49736e714ed549aa0d55b88b5599f46eba09cf1fb7f5a12fd0a2688a", func := "ostinato/ostinatolaw24.NodeTakes", spec := "nodeTakes", unfollowed := true, recurses := true, apart := false }
def NodeTakesSaid : Prop := nodeTakesRow.holds Tryz.pinned (OpenSpec.ofChange nodeTakesSpec)

/-- ITS FALSE NEIGHBOUR: 'it returns false'. Refute it at one input. -/
def nodeTakesWrong : ChangeSpec := { name := "nodeTakes", fn := fun _ => fun
  | [d1, d2, d3] => { results := [.lit (.bool false)], args := [d1, d2, d3] }
  | _ => none }
def NodeTakesWrongFalsely : Prop := nodeTakesRow.holds Tryz.pinned (OpenSpec.ofChange nodeTakesWrong)

/-- 'ostinatolaw24.NodeGlobal': WHATEVER THE INPUT: true; the input reads as it did. -/
def nodeGlobalSpec : ChangeSpec := { name := "nodeGlobal", fn := fun _ => fun
  | [d1, d2] => { results := [.lit (.bool true)], args := [d1, d2] }
  | _ => none }
def nodeGlobalRow : OpenClaim := { program := "ytlckbdhpehkeoaagreat", sum := "5b17f66f49736e714ed549aa0d55b88b5599f46eba09cf1fb7f5a12fd0a2688a", func := "ostinato/ostinatolaw24.NodeGlobal", spec := "nodeGlobal", unfollowed := true, recurses := true, apart := false }
def NodeGlobalSaid : Prop := nodeGlobalRow.holds Tryz.pinned (OpenSpec.ofChange nodeGlobalSpec)

/-- ITS FALSE NEIGHBOUR: 'it returns false'. Refute it at one input. -/
def nodeGlobalWrong : ChangeSpec := { name := "nodeGlobal", fn := fun _ => fun
  | [d1, d2] => { results := [.lit (.bool false)], args := [d1, d2] }
  | _ => none }
def NodeGlobalWrongFalsely : Prop := nodeGlobalRow.holds Tryz.pinned (OpenSpec.ofChange nodeGlobalWrong)

/-- 'ostinatolaw24.NodeWrong': WHATEVER THE INPUT: true; the input reads as it did. -/
def nodeWrongSpec : ChangeSpec := { name := "nodeWrong", fn := fun _ => fun
  | [d1, d2, d3] => { results := [.lit (.bool true)], args := [d1, d2, d3] }
  | _ => none }
def nodeWrongRow : OpenClaim := { program := "ytlckbdhpehkeoaagreat", sum := "5b17f66f49736e714ed549aa0d55b88b5599f46eba09cf1fb7f5a12fd0a2688a", func := "ostinato/ostinatolaw24.NodeWrong", spec := "nodeWrong", unfollowed := true, recurses := true, apart := false }
def NodeWrongSaid : Prop := nodeWrongRow.holds Tryz.pinned (OpenSpec.ofChange nodeWrongSpec)

/-- ITS FALSE NEIGHBOUR: 'it returns false'. Refute it at one input. -/
def nodeWrongWrong : ChangeSpec := { name := "nodeWrong", fn := fun _ => fun
  | [d1, d2, d3] => { results := [.lit (.bool false)], args := [d1, d2, d3] }
  | _ => none }
def NodeWrongWrongFalsely : Prop := nodeWrongRow.holds Tryz.pinned (OpenSpec.ofChange nodeWrongWrong)

/-- 'ostinatolaw24.NodePlays': WHATEVER THE INPUT: true; the input reads as it did. -/
def nodePlaysSpec : ChangeSpec := { name := "nodePlays", fn := fun _ => fun
  | [d1, d2, d3] => { results := [.lit (.bool true)], args := [d1, d2, d3] }
  | _ => none }
def nodePlaysRow : OpenClaim := { program := "ytlckbdhpehkeoaagreat", sum := "5b17f66f49736e714ed549aa0d55b88b5599f46eba09cf1fb7f5a12fd0a2688a", func := "ostinato/ostinatolaw24.NodePlays", spec := "nodePlays", inPlace := ["maps.clone"], unfollowed := true, recurses := true, apart := false }
def NodePlaysSaid : Prop := nodePlaysRow.holds Tryz.pinned (OpenSpec.ofChange nodePlaysSpec)

/-- ITS FALSE NEIGHBOUR: 'it returns false'. Refute it at one input. -/
def nodePlaysWrong : ChangeSpec := { name := "nodePlays", fn := fun _ => fun
  | [d1, d2, d3] => { results := [.lit (.bool false)], args := [d1, d2, d3] }
  | _ => none }
def NodePlaysWrongFalsely : Prop := nodePlaysRow.holds Tryz.pinned (OpenSpec.ofChange nodePlaysWrong)

/-- 'ostinatolaw25.NetRefuses': WHATEVER THE INPUT: true; the input reads as it did. -/
def netRefusesSpec : ChangeSpec := { name := "netRefuses", fn := fun _ => fun
  | [d1, d2] => { results := [.lit (.bool true)], args := [d1, d2] }
  | _ => none }
def netRefusesRow : OpenClaim := { program := "ytlckbdhpehkeoaagreat", sum := "5b17f66f49736e714ed549aa0d55b88b5599f46eba09cf1fb7f5a12fd0a2688a", func := "ostinato/ostinatolaw25.NetRefuses", spec := "netRefuses", inPlace := ["internal/bytealg.IndexByteString"], unfollowed := true, recurses := true, apart := false }
def NetRefusesSaid : Prop := netRefusesRow.holds Tryz.pinned (OpenSpec.ofChange netRefusesSpec)

/-- ITS FALSE NEIGHBOUR: 'it returns false'. Refute it at one input. -/
def netRefusesWrong : ChangeSpec := { name := "netRefuses", fn := fun _ => fun
  | [d1, d2] => { results := [.lit (.bool false)], args := [d1, d2] }
  | _ => none }
def NetRefusesWrongFalsely : Prop := netRefusesRow.holds Tryz.pinned (OpenSpec.ofChange netRefusesWrong)

/-- 'ostinatolaw25.NetQuiet': WHATEVER THE INPUT: true; the input reads as it did. -/
def netQuietSpec : ChangeSpec := { name := "netQuiet", fn := fun _ => fun
  | [d1, d2, d3] => { results := [.lit (.bool true)], args := [d1, d2, d3] }
  | _ => none }
def netQuietRow : OpenClaim := { program := "ytlckbdhpehkeoaagreat", sum := "5b17f66f49736e714ed549aa0d55b88b5599f46eba09cf1fb7f5a12fd0a2688a", func := "ostinato/ostinatolaw25.NetQuiet", spec := "netQuiet", inPlace := ["internal/bytealg.IndexByteString"], unfollowed := true, recurses := true, apart := false }
def NetQuietSaid : Prop := netQuietRow.holds Tryz.pinned (OpenSpec.ofChange netQuietSpec)

/-- ITS FALSE NEIGHBOUR: 'it returns false'. Refute it at one input. -/
def netQuietWrong : ChangeSpec := { name := "netQuiet", fn := fun _ => fun
  | [d1, d2, d3] => { results := [.lit (.bool false)], args := [d1, d2, d3] }
  | _ => none }
def NetQuietWrongFalsely : Prop := netQuietRow.holds Tryz.pinned (OpenSpec.ofChange netQuietWrong)

/-- 'ostinatolaw25.NetSends': WHATEVER THE INPUT: true; the input reads as it did. -/
def netSendsSpec : ChangeSpec := { name := "netSends", fn := fun _ => fun
  | [d1, d2] => { results := [.lit (.bool true)], args := [d1, d2] }
  | _ => none }
def netSendsRow : OpenClaim := { program := "ytlckbdhpehkeoaagreat", sum := "5b17f66f49736e714ed549aa0d55b88b5599f46eba09cf1fb7f5a12fd0a2688a", func := "ostinato/ostinatolaw25.NetSends", spec := "netSends", inPlace := ["internal/bytealg.IndexByteString"], unfollowed := true, recurses := true, apart := false }
def NetSendsSaid : Prop := netSendsRow.holds Tryz.pinned (OpenSpec.ofChange netSendsSpec)

/-- ITS FALSE NEIGHBOUR: 'it returns false'. Refute it at one input. -/
def netSendsWrong : ChangeSpec := { name := "netSends", fn := fun _ => fun
  | [d1, d2] => { results := [.lit (.bool false)], args := [d1, d2] }
  | _ => none }
def NetSendsWrongFalsely : Prop := netSendsRow.holds Tryz.pinned (OpenSpec.ofChange netSendsWrong)

/-- 'ostinatolaw25.NetTurned': WHATEVER THE INPUT: true; the input reads as it did. -/
def netTurnedSpec : ChangeSpec := { name := "netTurned", fn := fun _ => fun
  | [d1, d2] => { results := [.lit (.bool true)], args := [d1, d2] }
  | _ => none }
def netTurnedRow : OpenClaim := { program := "ytlckbdhpehkeoaagreat", sum := "5b17f66f49736e714ed549aa0d55b88b5599f46eba09cf1fb7f5a12fd0a2688a", func := "ostinato/ostinatolaw25.NetTurned", spec := "netTurned", inPlace := ["internal/bytealg.IndexByteString"], unfollowed := true, recurses := true, apart := false }
def NetTurnedSaid : Prop := netTurnedRow.holds Tryz.pinned (OpenSpec.ofChange netTurnedSpec)

/-- ITS FALSE NEIGHBOUR: 'it returns false'. Refute it at one input. -/
def netTurnedWrong : ChangeSpec := { name := "netTurned", fn := fun _ => fun
  | [d1, d2] => { results := [.lit (.bool false)], args := [d1, d2] }
  | _ => none }
def NetTurnedWrongFalsely : Prop := netTurnedRow.holds Tryz.pinned (OpenSpec.ofChange netTurnedWrong)

/-- 'ostinatolaw25.NetTwice': WHATEVER THE INPUT: true; the input reads as it did. -/
def netTwiceSpec : ChangeSpec := { name := "netTwice", fn := fun _ => fun
  | [d1, d2, d3] => { results := [.lit (.bool true)], args := [d1, d2, d3] }
  | _ => none }
def netTwiceRow : OpenClaim := { program := "ytlckbdhpehkeoaagreat", sum := "5b17f66f49736e714ed549aa0d55b88b5599f46eba09cf1fb7f5a12fd0a2688a", func := "ostinato/ostinatolaw25.NetTwice", spec := "netTwice", inPlace := ["internal/bytealg.IndexByteString"], unfollowed := true, recurses := true, apart := false }
def NetTwiceSaid : Prop := netTwiceRow.holds Tryz.pinned (OpenSpec.ofChange netTwiceSpec)

/-- ITS FALSE NEIGHBOUR: 'it returns false'. Refute it at one input. -/
def netTwiceWrong : ChangeSpec := { name := "netTwice", fn := fun _ => fun
  | [d1, d2, d3] => { results := [.lit (.bool false)], args := [d1, d2, d3] }
  | _ => none }
def NetTwiceWrongFalsely : Prop := netTwiceRow.holds Tryz.pinned (OpenSpec.ofChange netTwiceWrong)

/-- 'ostinatolaw25.NetDead': WHATEVER THE INPUT: true; the input reads as it did. -/
def netDeadSpec : ChangeSpec := { name := "netDead", fn := fun _ => fun
  | [d1, d2] => { results := [.lit (.bool true)], args := [d1, d2] }
  | _ => none }
def netDeadRow : OpenClaim := { program := "ytlckbdhpehkeoaagreat", sum := "5b17f66f49736e714ed549aa0d55b88b5599f46eba09cf1fb7f5a12fd0a2688a", func := "ostinato/ostinatolaw25.NetDead", spec := "netDead", inPlace := ["internal/bytealg.IndexByteString"], unfollowed := true, recurses := true, apart := false }
def NetDeadSaid : Prop := netDeadRow.holds Tryz.pinned (OpenSpec.ofChange netDeadSpec)

/-- ITS FALSE NEIGHBOUR: 'it returns false'. Refute it at one input. -/
def netDeadWrong : ChangeSpec := { name := "netDead", fn := fun _ => fun
  | [d1, d2] => { results := [.lit (.bool false)], args := [d1, d2] }
  | _ => none }
def NetDeadWrongFalsely : Prop := netDeadRow.holds Tryz.pinned (OpenSpec.ofChange netDeadWrong)

/-- 'ostinatolaw25.NetClocks': WHATEVER THE INPUT: true; the input reads as it did. -/
def netClocksSpec : ChangeSpec := { name := "netClocks", fn := fun _ => fun
  | [d1, d2] => { results := [.lit (.bool true)], args := [d1, d2] }
  | _ => none }
def netClocksRow : OpenClaim := { program := "ytlckbdhpehkeoaagreat", sum := "5b17f66f49736e714ed549aa0d55b88b5599f46eba09cf1fb7f5a12fd0a2688a", func := "ostinato/ostinatolaw25.NetClocks", spec := "netClocks", inPlace := ["internal/bytealg.IndexByteString"], unfollowed := true, recurses := true, apart := false }
def NetClocksSaid : Prop := netClocksRow.holds Tryz.pinned (OpenSpec.ofChange netClocksSpec)

/-- ITS FALSE NEIGHBOUR: 'it returns false'. Refute it at one input. -/
def netClocksWrong : ChangeSpec := { name := "netClocks", fn := fun _ => fun
  | [d1, d2] => { results := [.lit (.bool false)], args := [d1, d2] }
  | _ => none }
def NetClocksWrongFalsely : Prop := netClocksRow.holds Tryz.pinned (OpenSpec.ofChange netClocksWrong)

/-- 'ostinatolaw25.NetPlays': WHATEVER THE INPUT: true; the input reads as it did. -/
def netPlaysSpec : ChangeSpec := { name := "netPlays", fn := fun _ => fun
  | [d1, d2, d3] => { results := [.lit (.bool true)], args := [d1, d2, d3] }
  | _ => none }
def netPlaysRow : OpenClaim := { program := "ytlckbdhpehkeoaagreat", sum := "5b17f66f49736e714ed549aa0d55b88b5599f46eba09cf1fb7f5a12fd0a2688a", func := "ostinato/ostinatolaw25.NetPlays", spec := "netPlays", inPlace := ["internal/bytealg.IndexByteString", "maps.clone"], unfollowed := true, recurses := true, apart := false }
def NetPlaysSaid : Prop := netPlaysRow.holds Tryz.pinned (OpenSpec.ofChange netPlaysSpec)

/-- ITS FALSE NEIGHBOUR: 'it returns false'. Refute it at one input. -/
def netPlaysWrong : ChangeSpec := { name := "netPlays", fn := fun _ => fun
  | [d1, d2, d3] => { results := [.lit (.bool false)], args := [d1, d2, d3] }
  | _ => none }
def NetPlaysWrongFalsely : Prop := netPlaysRow.holds Tryz.pinned (OpenSpec.ofChange netPlaysWrong)

/- THE SECOND FORM. 'bulk': how many values and letters a reading holds, each counted each time it is reached (what is shared counts as often as it is met; a slice's spare places count too). A statement '..UptoSaid' is the law's where the arguments, and the package variables that the reading takes, are together of bulk at most 1048576: NARROWER than '..Said'. Prove '..Said' where nothing that the law and all that it calls make is longer than what came in: it says more and counts as full. Else prove '..UptoSaid'. A law counts once. -/
mutual
def uptoBulk {H : Type} : DataW H → Nat
  | .lit (.string bytes) => bytes.length + 1
  | .lit _ => 1
  | .nil => 1
  | .ptr d => uptoBulk d + 1
  | .slice elems spare => uptoBulkAll elems + uptoBulkAll spare + 1
  | .agg parts => uptoBulkAll parts + 1
  | .iface _ d => uptoBulk d + 1
  | .map entries => uptoBulkEntries entries + 1
  | .held _ => 1
def uptoBulkAll {H : Type} : List (DataW H) → Nat
  | [] => 0
  | d :: r => uptoBulk d + uptoBulkAll r
def uptoBulkEntries {H : Type} : List (Lit × DataW H) → Nat
  | [] => 0
  | x :: r => uptoBulkEntry x + uptoBulkEntries r
def uptoBulkEntry {H : Type} : Lit × DataW H → Nat
  | (.string bytes, d) => bytes.length + uptoBulk d + 1
  | (_, d) => uptoBulk d + 1
 end
def uptoSmall : (H : Type) → List (DataW H) → Bool := fun _ ds => decide (uptoBulkAll ds ≤ 1048576)
def OpenSpec.upto (s : _root_.Go.ChangeSpec) : _root_.Go.OpenSpec := { _root_.Go.OpenSpec.ofChange s with cond := some uptoSmall }

/-- 'ostinatolaw24.NodeOwner', WHERE WHAT IT READS IS OF BULK AT MOST 1048576: true; the input reads as it did. -/
def nodeOwnerUptoRow : OpenClaim := { program := "ytlckbdhpehkeoaagreat", sum := "5b17f66f49736e714ed549aa0d55b88b5599f46eba09cf1fb7f5a12fd0a2688a", func := "ostinato/ostinatolaw24.NodeOwner", spec := "nodeOwner", unfollowed := true, recurses := true, apart := false, narrowed := true }
def NodeOwnerUptoSaid : Prop := nodeOwnerUptoRow.holds Tryz.pinned (OpenSpec.upto nodeOwnerSpec)

/-- 'ostinatolaw24.NodeStands', WHERE WHAT IT READS IS OF BULK AT MOST 1048576: true; the input reads as it did. -/
def nodeStandsUptoRow : OpenClaim := { program := "ytlckbdhpehkeoaagreat", sum := "5b17f66f49736e714ed549aa0d55b88b5599f46eba09cf1fb7f5a12fd0a2688a", func := "ostinato/ostinatolaw24.NodeStands", spec := "nodeStands", unfollowed := true, recurses := true, apart := false, narrowed := true }
def NodeStandsUptoSaid : Prop := nodeStandsUptoRow.holds Tryz.pinned (OpenSpec.upto nodeStandsSpec)

/-- 'ostinatolaw24.NodeSilent', WHERE WHAT IT READS IS OF BULK AT MOST 1048576: true; the input reads as it did. -/
def nodeSilentUptoRow : OpenClaim := { program := "ytlckbdhpehkeoaagreat", sum := "5b17f66f49736e714ed549aa0d55b88b5599f46eba09cf1fb7f5a12fd0a2688a", func := "ostinato/ostinatolaw24.NodeSilent", spec := "nodeSilent", unfollowed := true, recurses := true, apart := false, narrowed := true }
def NodeSilentUptoSaid : Prop := nodeSilentUptoRow.holds Tryz.pinned (OpenSpec.upto nodeSilentSpec)

/-- 'ostinatolaw24.NodeWatch', WHERE WHAT IT READS IS OF BULK AT MOST 1048576: true; the input reads as it did. -/
def nodeWatchUptoRow : OpenClaim := { program := "ytlckbdhpehkeoaagreat", sum := "5b17f66f49736e714ed549aa0d55b88b5599f46eba09cf1fb7f5a12fd0a2688a", func := "ostinato/ostinatolaw24.NodeWatch", spec := "nodeWatch", unfollowed := true, recurses := true, apart := false, narrowed := true }
def NodeWatchUptoSaid : Prop := nodeWatchUptoRow.holds Tryz.pinned (OpenSpec.upto nodeWatchSpec)

/-- 'ostinatolaw24.NodeTakes', WHERE WHAT IT READS IS OF BULK AT MOST 1048576: true; the input reads as it did. -/
def nodeTakesUptoRow : OpenClaim := { program := "ytlckbdhpehkeoaagreat", sum := "5b17f66f49736e714ed549aa0d55b88b5599f46eba09cf1fb7f5a12fd0a2688a", func := "ostinato/ostinatolaw24.NodeTakes", spec := "nodeTakes", unfollowed := true, recurses := true, apart := false, narrowed := true }
def NodeTakesUptoSaid : Prop := nodeTakesUptoRow.holds Tryz.pinned (OpenSpec.upto nodeTakesSpec)

/-- 'ostinatolaw24.NodeGlobal', WHERE WHAT IT READS IS OF BULK AT MOST 1048576: true; the input reads as it did. -/
def nodeGlobalUptoRow : OpenClaim := { program := "ytlckbdhpehkeoaagreat", sum := "5b17f66f49736e714ed549aa0d55b88b5599f46eba09cf1fb7f5a12fd0a2688a", func := "ostinato/ostinatolaw24.NodeGlobal", spec := "nodeGlobal", unfollowed := true, recurses := true, apart := false, narrowed := true }
def NodeGlobalUptoSaid : Prop := nodeGlobalUptoRow.holds Tryz.pinned (OpenSpec.upto nodeGlobalSpec)

/-- 'ostinatolaw24.NodeWrong', WHERE WHAT IT READS IS OF BULK AT MOST 1048576: true; the input reads as it did. -/
def nodeWrongUptoRow : OpenClaim := { program := "ytlckbdhpehkeoaagreat", sum := "5b17f66f49736e714ed549aa0d55b88b5599f46eba09cf1fb7f5a12fd0a2688a", func := "ostinato/ostinatolaw24.NodeWrong", spec := "nodeWrong", unfollowed := true, recurses := true, apart := false, narrowed := true }
def NodeWrongUptoSaid : Prop := nodeWrongUptoRow.holds Tryz.pinned (OpenSpec.upto nodeWrongSpec)

/-- 'ostinatolaw24.NodePlays', WHERE WHAT IT READS IS OF BULK AT MOST 1048576: true; the input reads as it did. -/
def nodePlaysUptoRow : OpenClaim := { program := "ytlckbdhpehkeoaagreat", sum := "5b17f66f49736e714ed549aa0d55b88b5599f46eba09cf1fb7f5a12fd0a2688a", func := "ostinato/ostinatolaw24.NodePlays", spec := "nodePlays", inPlace := ["maps.clone"], unfollowed := true, recurses := true, apart := false, narrowed := true }
def NodePlaysUptoSaid : Prop := nodePlaysUptoRow.holds Tryz.pinned (OpenSpec.upto nodePlaysSpec)

/-- 'ostinatolaw25.NetRefuses', WHERE WHAT IT READS IS OF BULK AT MOST 1048576: true; the input reads as it did. -/
def netRefusesUptoRow : OpenClaim := { program := "ytlckbdhpehkeoaagreat", sum := "5b17f66f49736e714ed549aa0d55b88b5599f46eba09cf1fb7f5a12fd0a2688a", func := "ostinato/ostinatolaw25.NetRefuses", spec := "netRefuses", inPlace := ["internal/bytealg.IndexByteString"], unfollowed := true, recurses := true, apart := false, narrowed := true }
def NetRefusesUptoSaid : Prop := netRefusesUptoRow.holds Tryz.pinned (OpenSpec.upto netRefusesSpec)

/-- 'ostinatolaw25.NetQuiet', WHERE WHAT IT READS IS OF BULK AT MOST 1048576: true; the input reads as it did. -/
def netQuietUptoRow : OpenClaim := { program := "ytlckbdhpehkeoaagreat", sum := "5b17f66f49736e714ed549aa0d55b88b5599f46eba09cf1fb7f5a12fd0a2688a", func := "ostinato/ostinatolaw25.NetQuiet", spec := "netQuiet", inPlace := ["internal/bytealg.IndexByteString"], unfollowed := true, recurses := true, apart := false, narrowed := true }
def NetQuietUptoSaid : Prop := netQuietUptoRow.holds Tryz.pinned (OpenSpec.upto netQuietSpec)

/-- 'ostinatolaw25.NetSends', WHERE WHAT IT READS IS OF BULK AT MOST 1048576: true; the input reads as it did. -/
def netSendsUptoRow : OpenClaim := { program := "ytlckbdhpehkeoaagreat", sum := "5b17f66f49736e714ed549aa0d55b88b5599f46eba09cf1fb7f5a12fd0a2688a", func := "ostinato/ostinatolaw25.NetSends", spec := "netSends", inPlace := ["internal/bytealg.IndexByteString"], unfollowed := true, recurses := true, apart := false, narrowed := true }
def NetSendsUptoSaid : Prop := netSendsUptoRow.holds Tryz.pinned (OpenSpec.upto netSendsSpec)

/-- 'ostinatolaw25.NetTurned', WHERE WHAT IT READS IS OF BULK AT MOST 1048576: true; the input reads as it did. -/
def netTurnedUptoRow : OpenClaim := { program := "ytlckbdhpehkeoaagreat", sum := "5b17f66f49736e714ed549aa0d55b88b5599f46eba09cf1fb7f5a12fd0a2688a", func := "ostinato/ostinatolaw25.NetTurned", spec := "netTurned", inPlace := ["internal/bytealg.IndexByteString"], unfollowed := true, recurses := true, apart := false, narrowed := true }
def NetTurnedUptoSaid : Prop := netTurnedUptoRow.holds Tryz.pinned (OpenSpec.upto netTurnedSpec)

/-- 'ostinatolaw25.NetTwice', WHERE WHAT IT READS IS OF BULK AT MOST 1048576: true; the input reads as it did. -/
def netTwiceUptoRow : OpenClaim := { program := "ytlckbdhpehkeoaagreat", sum := "5b17f66f49736e714ed549aa0d55b88b5599f46eba09cf1fb7f5a12fd0a2688a", func := "ostinato/ostinatolaw25.NetTwice", spec := "netTwice", inPlace := ["internal/bytealg.IndexByteString"], unfollowed := true, recurses := true, apart := false, narrowed := true }
def NetTwiceUptoSaid : Prop := netTwiceUptoRow.holds Tryz.pinned (OpenSpec.upto netTwiceSpec)

/-- 'ostinatolaw25.NetDead', WHERE WHAT IT READS IS OF BULK AT MOST 1048576: true; the input reads as it did. -/
def netDeadUptoRow : OpenClaim := { program := "ytlckbdhpehkeoaagreat", sum := "5b17f66f49736e714ed549aa0d55b88b5599f46eba09cf1fb7f5a12fd0a2688a", func := "ostinato/ostinatolaw25.NetDead", spec := "netDead", inPlace := ["internal/bytealg.IndexByteString"], unfollowed := true, recurses := true, apart := false, narrowed := true }
def NetDeadUptoSaid : Prop := netDeadUptoRow.holds Tryz.pinned (OpenSpec.upto netDeadSpec)

/-- 'ostinatolaw25.NetClocks', WHERE WHAT IT READS IS OF BULK AT MOST 1048576: true; the input reads as it did. -/
def netClocksUptoRow : OpenClaim := { program := "ytlckbdhpehkeoaagreat", sum := "5b17f66f49736e714ed549aa0d55b88b5599f46eba09cf1fb7f5a12fd0a2688a", func := "ostinato/ostinatolaw25.NetClocks", spec := "netClocks", inPlace := ["internal/bytealg.IndexByteString"], unfollowed := true, recurses := true, apart := false, narrowed := true }
def NetClocksUptoSaid : Prop := netClocksUptoRow.holds Tryz.pinned (OpenSpec.upto netClocksSpec)

/-- 'ostinatolaw25.NetPlays', WHERE WHAT IT READS IS OF BULK AT MOST 1048576: true; the input reads as it did. -/
def netPlaysUptoRow : OpenClaim := { program := "ytlckbdhpehkeoaagreat", sum := "5b17f66f49736e714ed549aa0d55b88b5599f46eba09cf1fb7f5a12fd0a2688a", func := "ostinato/ostinatolaw25.NetPlays", spec := "netPlays", inPlace := ["internal/bytealg.IndexByteString", "maps.clone"], unfollowed := true, recurses := true, apart := false, narrowed := true }
def NetPlaysUptoSaid : Prop := netPlaysUptoRow.holds Tryz.pinned (OpenSpec.upto netPlaysSpec)

end Rows
end Go.Proofs.YtlckbdhpehkeoaaGreat
