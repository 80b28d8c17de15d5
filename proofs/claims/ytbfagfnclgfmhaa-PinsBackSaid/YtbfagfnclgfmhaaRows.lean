/-
  No cell of these rows narrows 'for every input' (looked for: loops, veiled, ifaces, maps, wideKeys, modest, calm, conditions, laid).
  DERIVED. THE GIVEN ROWS OF THIS SEAT. 5 by the template 'for every input the law returns true; each argument reads behind the call as it read before'; 0 by the template 'total and deterministic' (their statements: YtbfagfnclgfmhaaTotals.lean).
  GIVEN WITH THE SEED: the statements are not yours to turn. If you find one false, say at which input.
  Laid BY PROGRAM, IN A SANDBOX (cutbox-rows.mjs): the forced cells as the released guide's own fill.sh prints them over the translation 8ea8b085ee8da76e… (all of the seat's roots in one cut). By AI agents, Wed Nov 11 2026. No macro, syntax, notation, axiom, sorry.
-/
import Derived.Test.YtbfagfnclgfmhaaChecked
import GoSem.Claim
import GoSem.ClaimJoined
import GoSem.ClaimMapViews
import Derived.JoinedTies
import Derived.KernelRfl
namespace Go.Proofs.Ytbfagfnclgfmhaa
/- THE CELL 'sum', in the pinned program and in every row, IS THE sha256 OF THE DUMP (.gsa) THAT YtbfagfnclgfmhaaProg.lean LOADS. Nothing in Lean hashes anything: it is a label: what it is worth is what the hold of that sum in a sandbox is worth. -/
noncomputable def Try.pinned : Pinned := { name := "ytbfagfnclgfmhaa", sum := "8ea8b085ee8da76e9aad8aecd0e02cccbe7426a7bfdc3cb580b771c68b9975a9", checked := Try.checked }
namespace Rows
def none {H : Type} : Left H := { results := [], args := [] }

/-- 'tansylaw17.PinsFull': WHATEVER THE INPUT: true; the input reads as it did. -/
def pinsFullSpec : ChangeSpec := { name := "pinsFull", fn := fun _ => fun
  | [d1, d2] => { results := [.lit (.bool true)], args := [d1, d2] }
  | _ => none }
def pinsFullRow : OpenClaim := { program := "ytbfagfnclgfmhaa", sum := "8ea8b085ee8da76e9aad8aecd0e02cccbe7426a7bfdc3cb580b771c68b9975a9", func := "tansy/tansylaw17.PinsFull", spec := "pinsFull", inPlace := ["slices.overlaps[tansy/api.Pin]"], unfollowed := true, recurses := true, apart := false }
def PinsFullSaid : Prop := pinsFullRow.holds Try.pinned (OpenSpec.ofChange pinsFullSpec)

/-- ITS FALSE NEIGHBOUR: 'it returns false'. Refute it at one input. -/
def pinsFullWrong : ChangeSpec := { name := "pinsFull", fn := fun _ => fun
  | [d1, d2] => { results := [.lit (.bool false)], args := [d1, d2] }
  | _ => none }
def PinsFullWrongFalsely : Prop := pinsFullRow.holds Try.pinned (OpenSpec.ofChange pinsFullWrong)

/-- 'tansylaw17.PinsCount': WHATEVER THE INPUT: true; the input reads as it did. -/
def pinsCountSpec : ChangeSpec := { name := "pinsCount", fn := fun _ => fun
  | [d] => { results := [.lit (.bool true)], args := [d] }
  | _ => none }
def pinsCountRow : OpenClaim := { program := "ytbfagfnclgfmhaa", sum := "8ea8b085ee8da76e9aad8aecd0e02cccbe7426a7bfdc3cb580b771c68b9975a9", func := "tansy/tansylaw17.PinsCount", spec := "pinsCount", inPlace := ["slices.overlaps[tansy/api.Pin]"], unfollowed := true, recurses := true, apart := false }
def PinsCountSaid : Prop := pinsCountRow.holds Try.pinned (OpenSpec.ofChange pinsCountSpec)

/-- ITS FALSE NEIGHBOUR: 'it returns false'. Refute it at one input. -/
def pinsCountWrong : ChangeSpec := { name := "pinsCount", fn := fun _ => fun
  | [d] => { results := [.lit (.bool false)], args := [d] }
  | _ => none }
def PinsCountWrongFalsely : Prop := pinsCountRow.holds Try.pinned (OpenSpec.ofChange pinsCountWrong)

/-- 'tansylaw17.PinsBack': WHATEVER THE INPUT: true; the input reads as it did. -/
def pinsBackSpec : ChangeSpec := { name := "pinsBack", fn := fun _ => fun
  | [d1, d2, d3] => { results := [.lit (.bool true)], args := [d1, d2, d3] }
  | _ => none }
def pinsBackRow : OpenClaim := { program := "ytbfagfnclgfmhaa", sum := "8ea8b085ee8da76e9aad8aecd0e02cccbe7426a7bfdc3cb580b771c68b9975a9", func := "tansy/tansylaw17.PinsBack", spec := "pinsBack", inPlace := ["slices.overlaps[tansy/api.Pin]"], unfollowed := true, recurses := true, apart := false }
def PinsBackSaid : Prop := pinsBackRow.holds Try.pinned (OpenSpec.ofChange pinsBackSpec)

/-- ITS FALSE NEIGHBOUR: 'it returns false'. Refute it at one input. -/
def pinsBackWrong : ChangeSpec := { name := "pinsBack", fn := fun _ => fun
  | [d1, d2, d3] => { results := [.lit (.bool false)], args := [d1, d2, d3] }
  | _ => none }
def PinsBackWrongFalsely : Prop := pinsBackRow.holds Try.pinned (OpenSpec.ofChange pinsBackWrong)

/-- 'tansylaw17.PinsOrder': WHATEVER THE INPUT: true; the input reads as it did. -/
def pinsOrderSpec : ChangeSpec := { name := "pinsOrder", fn := fun _ => fun
  | [d1, d2, d3] => { results := [.lit (.bool true)], args := [d1, d2, d3] }
  | _ => none }
def pinsOrderRow : OpenClaim := { program := "ytbfagfnclgfmhaa", sum := "8ea8b085ee8da76e9aad8aecd0e02cccbe7426a7bfdc3cb580b771c68b9975a9", func := "tansy/tansylaw17.PinsOrder", spec := "pinsOrder", inPlace := ["slices.overlaps[tansy/api.Pin]"], unfollowed := true, recurses := true, apart := false }
def PinsOrderSaid : Prop := pinsOrderRow.holds Try.pinned (OpenSpec.ofChange pinsOrderSpec)

/-- ITS FALSE NEIGHBOUR: 'it returns false'. Refute it at one input. -/
def pinsOrderWrong : ChangeSpec := { name := "pinsOrder", fn := fun _ => fun
  | [d1, d2, d3] => { results := [.lit (.bool false)], args := [d1, d2, d3] }
  | _ => none }
def PinsOrderWrongFalsely : Prop := pinsOrderRow.holds Try.pinned (OpenSpec.ofChange pinsOrderWrong)

/-- 'tansylaw17.PinsDoes': WHATEVER THE INPUT: true; the input reads as it did. -/
def pinsDoesSpec : ChangeSpec := { name := "pinsDoes", fn := fun _ => fun
  | [d1, d2, d3] => { results := [.lit (.bool true)], args := [d1, d2, d3] }
  | _ => none }
def pinsDoesRow : OpenClaim := { program := "ytbfagfnclgfmhaa", sum := "8ea8b085ee8da76e9aad8aecd0e02cccbe7426a7bfdc3cb580b771c68b9975a9", func := "tansy/tansylaw17.PinsDoes", spec := "pinsDoes", inPlace := ["slices.overlaps[tansy/api.Pin]"], unfollowed := true, recurses := true, apart := false }
def PinsDoesSaid : Prop := pinsDoesRow.holds Try.pinned (OpenSpec.ofChange pinsDoesSpec)

/-- ITS FALSE NEIGHBOUR: 'it returns false'. Refute it at one input. -/
def pinsDoesWrong : ChangeSpec := { name := "pinsDoes", fn := fun _ => fun
  | [d1, d2, d3] => { results := [.lit (.bool false)], args := [d1, d2, d3] }
  | _ => none }
def PinsDoesWrongFalsely : Prop := pinsDoesRow.holds Try.pinned (OpenSpec.ofChange pinsDoesWrong)

/- THE SECOND FORM. 'bulk': how many values and letters a reading holds, each counted each time it is reached (what is shared counts as often as it is met; a slice's spare places count too). A statement '..UptoSaid' is the law's where the arguments, and the package variables that the reading takes, are together of bulk at most 1048576: NARROWER than '..Said'. Prove '..Said' where nothing that the law and all that it calls make is longer than what came in: it says more and counts as full. Else prove '..UptoSaid'. A law counts once. -/
mutual
def uptoBulk {H : Type} : DataW H → Nat
  | .lit (.string bytes) => bytes.length + 1
  | .lit _ => 1
  | .nil => 1
  | .ptr d => uptoBulk d + 1
  | .slice elems spare => uptoBulkAll elems + uptoBulkAll spare + 1
  | .agg parts => uptoBulkAll parts + 1
  | .iface _ d => uptoBulk d + 1
  | .map entries => uptoBulkEntries entries + 1
  | .held _ => 1
def uptoBulkAll {H : Type} : List (DataW H) → Nat
  | [] => 0
  | d :: r => uptoBulk d + uptoBulkAll r
def uptoBulkEntries {H : Type} : List (Lit × DataW H) → Nat
  | [] => 0
  | x :: r => uptoBulkEntry x + uptoBulkEntries r
def uptoBulkEntry {H : Type} : Lit × DataW H → Nat
  | (.string bytes, d) => bytes.length + uptoBulk d + 1
  | (_, d) => uptoBulk d + 1
 end
def uptoSmall : (H : Type) → List (DataW H) → Bool := fun _ ds => decide (uptoBulkAll ds ≤ 1048576)
def OpenSpec.upto (s : _root_.Go.ChangeSpec) : _root_.Go.OpenSpec := { _root_.Go.OpenSpec.ofChange s with cond := some uptoSmall }

/-- 'tansylaw17.PinsFull', WHERE WHAT IT READS IS OF BULK AT MOST 1048576: true; the input reads as it did. -/
def pinsFullUptoRow : OpenClaim := { program := "ytbfagfnclgfmhaa", sum := "8ea8b085ee8da76e9aad8aecd0e02cccbe7426a7bfdc3cb580b771c68b9975a9", func := "tansy/tansylaw17.PinsFull", spec := "pinsFull", inPlace := ["slices.overlaps[tansy/api.Pin]"], unfollowed := true, recurses := true, apart := false, narrowed := true }
def PinsFullUptoSaid : Prop := pinsFullUptoRow.holds Try.pinned (OpenSpec.upto pinsFullSpec)

/-- 'tansylaw17.PinsCount', WHERE WHAT IT READS IS OF BULK AT MOST 1048576: true; the input reads as it did. -/
def pinsCountUptoRow : OpenClaim := { program := "ytbfagfnclgfmhaa", sum := "8ea8b085ee8da76e9aad8aecd0e02cccbe7426a7bfdc3cb580b771c68b9975a9", func := "tansy/tansylaw17.PinsCount", spec := "pinsCount", inPlace := ["slices.overlaps[tansy/api.Pin]"], unfollowed := true, recurses := true, apart := false, narrowed := true }
def PinsCountUptoSaid : Prop := pinsCountUptoRow.holds Try.pinned (OpenSpec.upto pinsCountSpec)

/-- 'tansylaw17.PinsBack', WHERE WHAT IT READS IS OF BULK AT MOST 1048576: true; the input reads as it did. -/
def pinsBackUptoRow : OpenClaim := { program := "ytbfagfnclgfmhaa", sum := "8ea8b085ee8da76e9aad8aecd0e02cccbe7426a7bfdc3cb580b771c68b9975a9", func := "tansy/tansylaw17.PinsBack", spec := "pinsBack", inPlace := ["slices.overlaps[tansy/api.Pin]"], unfollowed := true, recurses := true, apart := false, narrowed := true }
def PinsBackUptoSaid : Prop := pinsBackUptoRow.holds Try.pinned (OpenSpec.upto pinsBackSpec)

/-- 'tansylaw17.PinsOrder', WHERE WHAT IT READS IS OF BULK AT MOST 1048576: true; the input reads as it did. -/
def pinsOrderUptoRow : OpenClaim := { program := "ytbfagfnclgfmhaa", sum := "8ea8b085ee8da76e9aad8aecd0e02cccbe7426a7bfdc3cb580b771c68b9975a9", func := "tansy/tansylaw17.PinsOrder", spec := "pinsOrder", inPlace := ["slices.overlaps[tansy/api.Pin]"], unfollowed := true, recurses := true, apart := false, narrowed := true }
def PinsOrderUptoSaid : Prop := pinsOrderUptoRow.holds Try.pinned (OpenSpec.upto pinsOrderSpec)

/-- 'tansylaw17.PinsDoes', WHERE WHAT IT READS IS OF BULK AT MOST 1048576: true; the input reads as it did. -/
def pinsDoesUptoRow : OpenClaim := { program := "ytbfagfnclgfmhaa", sum := "8ea8b085ee8da76e9aad8aecd0e02cccbe7426a7bfdc3cb580b771c68b9975a9", func := "tansy/tansylaw17.PinsDoes", spec := "pinsDoes", inPlace := ["slices.overlaps[tansy/api.Pin]"], unfollowed := true, recurses := true, apart := false, narrowed := true }
def PinsDoesUptoSaid : Prop := pinsDoesUptoRow.holds Try.pinned (OpenSpec.upto pinsDoesSpec)

end Rows
end Go.Proofs.Ytbfagfnclgfmhaa
