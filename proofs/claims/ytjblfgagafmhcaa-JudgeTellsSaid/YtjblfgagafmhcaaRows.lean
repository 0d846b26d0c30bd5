/-
  No cell of these rows narrows 'for every input' (looked for: loops, veiled, ifaces, maps, wideKeys, modest, calm, conditions, laid).
  DERIVED. THE GIVEN ROWS OF THIS SEAT. 5 by the template 'for every input the law returns true; each argument reads behind the call as it read before'; 0 by the template 'total and deterministic' (their statements: YtjblfgagafmhcaaTotals.lean).
  GIVEN WITH THE SEED: the statements are not yours to turn. If you find one false, say at which input.
  Laid BY PROGRAM, IN A SANDBOX (cutbox-rows.mjs): the forced cells as the released guide's own fill.sh prints them over the translation 0d246c5d9124f8cd… (all of the seat's roots in one cut). By AI agents, Wed Nov 11 2026. No macro, syntax, notation, axiom, sorry.
-/
import Derived.Test.YtjblfgagafmhcaaChecked
import GoSem.Claim
import GoSem.ClaimJoined
import GoSem.ClaimMapViews
import Derived.JoinedTies
import Derived.KernelRfl
namespace Go.Proofs.Ytjblfgagafmhcaa
/- THE CELL 'sum', in the pinned program and in every row, IS THE sha256 OF THE DUMP (.gsa) THAT YtjblfgagafmhcaaProg.lean LOADS. Nothing in Lean hashes anything: it is a label: what it is worth is what the hold of that sum in a sandbox is worth. -/
noncomputable def Try.pinned : Pinned := { name := "ytjblfgagafmhcaa", sum := "0d246c5d9124f8cd9882b789d277b0202954b8d45a31108ce2fff0abca9de265", checked := Try.checked }
namespace Rows
def none {H : Type} : Left H := { results := [], args := [] }

/-- 'footwaylaw20.JudgeTells': WHATEVER THE INPUT: true; the input reads as it did. -/
def judgeTellsSpec : ChangeSpec := { name := "judgeTells", fn := fun _ => fun
  | [d1, d2, d3, d4, d5, d6] => { results := [.lit (.bool true)], args := [d1, d2, d3, d4, d5, d6] }
  | _ => none }
def judgeTellsRow : OpenClaim := { program := "ytjblfgagafmhcaa", sum := "0d246c5d9124f8cd9882b789d277b0202954b8d45a31108ce2fff0abca9de265", func := "footway/footwaylaw20.JudgeTells", spec := "judgeTells", unfollowed := true, recurses := true, plainKeys := false, apart := false }
def JudgeTellsSaid : Prop := judgeTellsRow.holds Try.pinned (OpenSpec.ofChange judgeTellsSpec)

/-- ITS FALSE NEIGHBOUR: 'it returns false'. Refute it at one input. -/
def judgeTellsWrong : ChangeSpec := { name := "judgeTells", fn := fun _ => fun
  | [d1, d2, d3, d4, d5, d6] => { results := [.lit (.bool false)], args := [d1, d2, d3, d4, d5, d6] }
  | _ => none }
def JudgeTellsWrongFalsely : Prop := judgeTellsRow.holds Try.pinned (OpenSpec.ofChange judgeTellsWrong)

/-- 'footwaylaw08.FdbFlushes': WHATEVER THE INPUT: true; the input reads as it did. -/
def fdbFlushesSpec : ChangeSpec := { name := "fdbFlushes", fn := fun _ => fun
  | [d1, d2, d3, d4] => { results := [.lit (.bool true)], args := [d1, d2, d3, d4] }
  | _ => none }
def fdbFlushesRow : OpenClaim := { program := "ytjblfgagafmhcaa", sum := "0d246c5d9124f8cd9882b789d277b0202954b8d45a31108ce2fff0abca9de265", func := "footway/footwaylaw08.FdbFlushes", spec := "fdbFlushes", unfollowed := true, recurses := true, plainKeys := false, apart := false }
def FdbFlushesSaid : Prop := fdbFlushesRow.holds Try.pinned (OpenSpec.ofChange fdbFlushesSpec)

/-- ITS FALSE NEIGHBOUR: 'it returns false'. Refute it at one input. -/
def fdbFlushesWrong : ChangeSpec := { name := "fdbFlushes", fn := fun _ => fun
  | [d1, d2, d3, d4] => { results := [.lit (.bool false)], args := [d1, d2, d3, d4] }
  | _ => none }
def FdbFlushesWrongFalsely : Prop := fdbFlushesRow.holds Try.pinned (OpenSpec.ofChange fdbFlushesWrong)

/-- 'footwaylaw16.TreeSpans': WHATEVER THE INPUT: true; the input reads as it did. -/
def treeSpansSpec : ChangeSpec := { name := "treeSpans", fn := fun _ => fun
  | [d] => { results := [.lit (.bool true)], args := [d] }
  | _ => none }
def treeSpansRow : OpenClaim := { program := "ytjblfgagafmhcaa", sum := "0d246c5d9124f8cd9882b789d277b0202954b8d45a31108ce2fff0abca9de265", func := "footway/footwaylaw16.TreeSpans", spec := "treeSpans", unfollowed := true, recurses := true, plainKeys := false, apart := false }
def TreeSpansSaid : Prop := treeSpansRow.holds Try.pinned (OpenSpec.ofChange treeSpansSpec)

/-- ITS FALSE NEIGHBOUR: 'it returns false'. Refute it at one input. -/
def treeSpansWrong : ChangeSpec := { name := "treeSpans", fn := fun _ => fun
  | [d] => { results := [.lit (.bool false)], args := [d] }
  | _ => none }
def TreeSpansWrongFalsely : Prop := treeSpansRow.holds Try.pinned (OpenSpec.ofChange treeSpansWrong)

/-- 'footwaylaw08.FdbForgets': WHATEVER THE INPUT: true; the input reads as it did. -/
def fdbForgetsSpec : ChangeSpec := { name := "fdbForgets", fn := fun _ => fun
  | [d1, d2, d3, d4] => { results := [.lit (.bool true)], args := [d1, d2, d3, d4] }
  | _ => none }
def fdbForgetsRow : OpenClaim := { program := "ytjblfgagafmhcaa", sum := "0d246c5d9124f8cd9882b789d277b0202954b8d45a31108ce2fff0abca9de265", func := "footway/footwaylaw08.FdbForgets", spec := "fdbForgets", unfollowed := true, recurses := true, plainKeys := false, apart := false }
def FdbForgetsSaid : Prop := fdbForgetsRow.holds Try.pinned (OpenSpec.ofChange fdbForgetsSpec)

/-- ITS FALSE NEIGHBOUR: 'it returns false'. Refute it at one input. -/
def fdbForgetsWrong : ChangeSpec := { name := "fdbForgets", fn := fun _ => fun
  | [d1, d2, d3, d4] => { results := [.lit (.bool false)], args := [d1, d2, d3, d4] }
  | _ => none }
def FdbForgetsWrongFalsely : Prop := fdbForgetsRow.holds Try.pinned (OpenSpec.ofChange fdbForgetsWrong)

/-- 'footwaylaw17.FloodTree': WHATEVER THE INPUT: true; the input reads as it did. -/
def floodTreeSpec : ChangeSpec := { name := "floodTree", fn := fun _ => fun
  | [d1, d2, d3, d4] => { results := [.lit (.bool true)], args := [d1, d2, d3, d4] }
  | _ => none }
def floodTreeRow : OpenClaim := { program := "ytjblfgagafmhcaa", sum := "0d246c5d9124f8cd9882b789d277b0202954b8d45a31108ce2fff0abca9de265", func := "footway/footwaylaw17.FloodTree", spec := "floodTree", unfollowed := true, recurses := true, plainKeys := false, apart := false }
def FloodTreeSaid : Prop := floodTreeRow.holds Try.pinned (OpenSpec.ofChange floodTreeSpec)

/-- ITS FALSE NEIGHBOUR: 'it returns false'. Refute it at one input. -/
def floodTreeWrong : ChangeSpec := { name := "floodTree", fn := fun _ => fun
  | [d1, d2, d3, d4] => { results := [.lit (.bool false)], args := [d1, d2, d3, d4] }
  | _ => none }
def FloodTreeWrongFalsely : Prop := floodTreeRow.holds Try.pinned (OpenSpec.ofChange floodTreeWrong)

/- THE SECOND FORM. 'bulk': how many values and letters a reading holds, each counted each time it is reached (what is shared counts as often as it is met; a slice's spare places count too). A statement '..UptoSaid' is the law's where the arguments, and the package variables that the reading takes, are together of bulk at most 1048576: NARROWER than '..Said'. Prove '..Said' where nothing that the law and all that it calls make is longer than what came in: it says more and counts as full. Else prove '..UptoSaid'. A law counts once. -/
mutual
def uptoBulk {H : Type} : DataW H → Nat
  | .lit (.string bytes) => bytes.length + 1
  | .lit _ => 1
  | .nil => 1
  | .ptr d => uptoBulk d + 1
  | .slice elems spare => uptoBulkAll elems + uptoBulkAll spare + 1
  | .agg parts => uptoBulkAll parts + 1
  | .iface _ d => uptoBulk d + 1
  | .map entries => uptoBulkEntries entries + 1
  | .held _ => 1
def uptoBulkAll {H : Type} : List (DataW H) → Nat
  | [] => 0
  | d :: r => uptoBulk d + uptoBulkAll r
def uptoBulkEntries {H : Type} : List (Lit × DataW H) → Nat
  | [] => 0
  | x :: r => uptoBulkEntry x + uptoBulkEntries r
def uptoBulkEntry {H : Type} : Lit × DataW H → Nat
  | (.string bytes, d) => bytes.length + uptoBulk d + 1
  | (_, d) => uptoBulk d + 1
 end
def uptoSmall : (H : Type) → List (DataW H) → Bool := fun _ ds => decide (uptoBulkAll ds ≤ 1048576)
def OpenSpec.upto (s : _root_.Go.ChangeSpec) : _root_.Go.OpenSpec := { _root_.Go.OpenSpec.ofChange s with cond := some uptoSmall }

/-- 'footwaylaw20.JudgeTells', WHERE WHAT IT READS IS OF BULK AT MOST 1048576: true; the input reads as it did. -/
def judgeTellsUptoRow : OpenClaim := { program := "ytjblfgagafmhcaa", sum := "0d246c5d9124f8cd9882b789d277b0202954b8d45a31108ce2fff0abca9de265", func := "footway/footwaylaw20.JudgeTells", spec := "judgeTells", unfollowed := true, recurses := true, plainKeys := false, apart := false, narrowed := true }
def JudgeTellsUptoSaid : Prop := judgeTellsUptoRow.holds Try.pinned (OpenSpec.upto judgeTellsSpec)

/-- 'footwaylaw08.FdbFlushes', WHERE WHAT IT READS IS OF BULK AT MOST 1048576: true; the input reads as it did. -/
def fdbFlushesUptoRow : OpenClaim := { program := "ytjblfgagafmhcaa", sum := "0d246c5d9124f8cd9882b789d277b0202954b8d45a31108ce2fff0abca9de265", func := "footway/footwaylaw08.FdbFlushes", spec := "fdbFlushes", unfollowed := true, recurses := true, plainKeys := false, apart := false, narrowed := true }
def FdbFlushesUptoSaid : Prop := fdbFlushesUptoRow.holds Try.pinned (OpenSpec.upto fdbFlushesSpec)

/-- 'footwaylaw16.TreeSpans', WHERE WHAT IT READS IS OF BULK AT MOST 1048576: true; the input reads as it did. -/
def treeSpansUptoRow : OpenClaim := { program := "ytjblfgagafmhcaa", sum := "0d246c5d9124f8cd9882b789d277b0202954b8d45a31108ce2fff0abca9de265", func := "footway/footwaylaw16.TreeSpans", spec := "treeSpans", unfollowed := true, recurses := true, plainKeys := false, apart := false, narrowed := true }
def TreeSpansUptoSaid : Prop := treeSpansUptoRow.holds Try.pinned (OpenSpec.upto treeSpansSpec)

/-- 'footwaylaw08.FdbForgets', WHERE WHAT IT READS IS OF BULK AT MOST 1048576: true; the input reads as it did. -/
def fdbForgetsUptoRow : OpenClaim := { program := "ytjblfgagafmhcaa", sum := "0d246c5d9124f8cd9882b789d277b0202954b8d45a31108ce2fff0abca9de265", func := "footway/footwaylaw08.FdbForgets", spec := "fdbForgets", unfollowed := true, recurses := true, plainKeys := false, apart := false, narrowed := true }
def FdbForgetsUptoSaid : Prop := fdbForgetsUptoRow.holds Try.pinned (OpenSpec.upto fdbForgetsSpec)

/-- 'footwaylaw17.FloodTree', WHERE WHAT IT READS IS OF BULK AT MOST 1048576: true; the input reads as it did. -/
def floodTreeUptoRow : OpenClaim := { program := "ytjblfgagafmhcaa", sum := "0d246c5d9124f8cd9882b789d277b0202954b8d45a31108ce2fff0abca9de265", func := "footway/footwaylaw17.FloodTree", spec := "floodTree", unfollowed := true, recurses := true, plainKeys := false, apart := false, narrowed := true }
def FloodTreeUptoSaid : Prop := floodTreeUptoRow.holds Try.pinned (OpenSpec.upto floodTreeSpec)

end Rows
end Go.Proofs.Ytjblfgagafmhcaa
