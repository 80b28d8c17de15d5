/-
  No cell of these rows narrows 'for every input' (looked for: loops, veiled, ifaces, maps, wideKeys, modest, calm, conditions, laid).
  DERIVED. THE GIVEN ROWS OF THIS SEAT. 7 by the template 'for every input the law returns true; each argument reads behind the call as it read before'; 0 by the template 'total and deterministic' (their statements: YtfopmdnpjokjcaaTotals.lean).
  GIVEN WITH THE SEED: the statements are not yours to turn. If you find one false, say at which input.
  Laid BY PROGRAM, IN A SANDBOX (cutbox-rows.mjs): the forced cells as the released guide's own fill.sh prints them over the translation 7c10ad17e41b24f2… (all of the seat's roots in one cut). By AI agents, Wed Nov 11 2026. No macro, syntax, notation, axiom, sorry.
-/
import Derived.Test.YtfopmdnpjokjcaaChecked
import GoSem.Claim
import GoSem.ClaimJoined
import GoSem.ClaimMapViews
import Derived.JoinedTies
import Derived.KernelRfl
namespace Go.Proofs.Ytfopmdnpjokjcaa
/- THE CELL 'sum', in the pinned program and in every row, IS THE sha256 OF THE DUMP (.gsa) THAT YtfopmdnpjokjcaaProg.lean LOADS. Nothing in Lean hashes anything: it is a label: what it is worth is what the hold of that sum in a sandbox is worth. -/
noncomputable def Try.pinned : Pinned := { name := "ytfopmdnpjokjcaa", sum := "7c10ad17e41b24f2583f8f8d6cb7a4815fc400a29d6122d1db453f7a44fc1362", checked := Try.checked }
namespace Rows
def none {H : Type} : Left H := { results := [], args := [] }

/-- 'tansylaw12.RankOrders': WHATEVER THE INPUT: true; the input reads as it did. -/
def rankOrdersSpec : ChangeSpec := { name := "rankOrders", fn := fun _ => fun
  | [d] => { results := [.lit (.bool true)], args := [d] }
  | _ => none }
def rankOrdersRow : OpenClaim := { program := "ytfopmdnpjokjcaa", sum := "7c10ad17e41b24f2583f8f8d6cb7a4815fc400a29d6122d1db453f7a44fc1362", func := "tansy/tansylaw12.RankOrders", spec := "rankOrders", inPlace := ["math.Float64frombits", "math.Float64bits"], unfollowed := true, recurses := true, apart := false }
def RankOrdersSaid : Prop := rankOrdersRow.holds Try.pinned (OpenSpec.ofChange rankOrdersSpec)

/-- ITS FALSE NEIGHBOUR: 'it returns false'. Refute it at one input. -/
def rankOrdersWrong : ChangeSpec := { name := "rankOrders", fn := fun _ => fun
  | [d] => { results := [.lit (.bool false)], args := [d] }
  | _ => none }
def RankOrdersWrongFalsely : Prop := rankOrdersRow.holds Try.pinned (OpenSpec.ofChange rankOrdersWrong)

/-- 'tansylaw12.RankFlip': WHATEVER THE INPUT: true; the input reads as it did. -/
def rankFlipSpec : ChangeSpec := { name := "rankFlip", fn := fun _ => fun
  | [d1, d2] => { results := [.lit (.bool true)], args := [d1, d2] }
  | _ => none }
def rankFlipRow : OpenClaim := { program := "ytfopmdnpjokjcaa", sum := "7c10ad17e41b24f2583f8f8d6cb7a4815fc400a29d6122d1db453f7a44fc1362", func := "tansy/tansylaw12.RankFlip", spec := "rankFlip", inPlace := ["math.Float64frombits", "math.Float64bits"], unfollowed := true, recurses := true, apart := false }
def RankFlipSaid : Prop := rankFlipRow.holds Try.pinned (OpenSpec.ofChange rankFlipSpec)

/-- ITS FALSE NEIGHBOUR: 'it returns false'. Refute it at one input. -/
def rankFlipWrong : ChangeSpec := { name := "rankFlip", fn := fun _ => fun
  | [d1, d2] => { results := [.lit (.bool false)], args := [d1, d2] }
  | _ => none }
def RankFlipWrongFalsely : Prop := rankFlipRow.holds Try.pinned (OpenSpec.ofChange rankFlipWrong)

/-- 'tansylaw12.RankOne': WHATEVER THE INPUT: true; the input reads as it did. -/
def rankOneSpec : ChangeSpec := { name := "rankOne", fn := fun _ => fun
  | [d1, d2, d3] => { results := [.lit (.bool true)], args := [d1, d2, d3] }
  | _ => none }
def rankOneRow : OpenClaim := { program := "ytfopmdnpjokjcaa", sum := "7c10ad17e41b24f2583f8f8d6cb7a4815fc400a29d6122d1db453f7a44fc1362", func := "tansy/tansylaw12.RankOne", spec := "rankOne", inPlace := ["math.Float64frombits", "math.Float64bits"], unfollowed := true, recurses := true, apart := false }
def RankOneSaid : Prop := rankOneRow.holds Try.pinned (OpenSpec.ofChange rankOneSpec)

/-- ITS FALSE NEIGHBOUR: 'it returns false'. Refute it at one input. -/
def rankOneWrong : ChangeSpec := { name := "rankOne", fn := fun _ => fun
  | [d1, d2, d3] => { results := [.lit (.bool false)], args := [d1, d2, d3] }
  | _ => none }
def RankOneWrongFalsely : Prop := rankOneRow.holds Try.pinned (OpenSpec.ofChange rankOneWrong)

/-- 'tansylaw12.RankEdges': WHATEVER THE INPUT: true; the input reads as it did. -/
def rankEdgesSpec : ChangeSpec := { name := "rankEdges", fn := fun _ => fun
  | [d1, d2] => { results := [.lit (.bool true)], args := [d1, d2] }
  | _ => none }
def rankEdgesRow : OpenClaim := { program := "ytfopmdnpjokjcaa", sum := "7c10ad17e41b24f2583f8f8d6cb7a4815fc400a29d6122d1db453f7a44fc1362", func := "tansy/tansylaw12.RankEdges", spec := "rankEdges", inPlace := ["math.Float64frombits", "math.Float64bits"], unfollowed := true, recurses := true, apart := false }
def RankEdgesSaid : Prop := rankEdgesRow.holds Try.pinned (OpenSpec.ofChange rankEdgesSpec)

/-- ITS FALSE NEIGHBOUR: 'it returns false'. Refute it at one input. -/
def rankEdgesWrong : ChangeSpec := { name := "rankEdges", fn := fun _ => fun
  | [d1, d2] => { results := [.lit (.bool false)], args := [d1, d2] }
  | _ => none }
def RankEdgesWrongFalsely : Prop := rankEdgesRow.holds Try.pinned (OpenSpec.ofChange rankEdgesWrong)

/-- 'tansylaw12.RankBack': WHATEVER THE INPUT: true; the input reads as it did. -/
def rankBackSpec : ChangeSpec := { name := "rankBack", fn := fun _ => fun
  | [d1, d2] => { results := [.lit (.bool true)], args := [d1, d2] }
  | _ => none }
def rankBackRow : OpenClaim := { program := "ytfopmdnpjokjcaa", sum := "7c10ad17e41b24f2583f8f8d6cb7a4815fc400a29d6122d1db453f7a44fc1362", func := "tansy/tansylaw12.RankBack", spec := "rankBack", inPlace := ["math.Float64frombits", "math.Float64bits"], unfollowed := true, recurses := true, apart := false }
def RankBackSaid : Prop := rankBackRow.holds Try.pinned (OpenSpec.ofChange rankBackSpec)

/-- ITS FALSE NEIGHBOUR: 'it returns false'. Refute it at one input. -/
def rankBackWrong : ChangeSpec := { name := "rankBack", fn := fun _ => fun
  | [d1, d2] => { results := [.lit (.bool false)], args := [d1, d2] }
  | _ => none }
def RankBackWrongFalsely : Prop := rankBackRow.holds Try.pinned (OpenSpec.ofChange rankBackWrong)

/-- 'tansylaw12.RankDoes': WHATEVER THE INPUT: true; the input reads as it did. -/
def rankDoesSpec : ChangeSpec := { name := "rankDoes", fn := fun _ => fun
  | [d1, d2, d3] => { results := [.lit (.bool true)], args := [d1, d2, d3] }
  | _ => none }
def rankDoesRow : OpenClaim := { program := "ytfopmdnpjokjcaa", sum := "7c10ad17e41b24f2583f8f8d6cb7a4815fc400a29d6122d1db453f7a44fc1362", func := "tansy/tansylaw12.RankDoes", spec := "rankDoes", inPlace := ["math.Float64frombits", "math.Float64bits"], unfollowed := true, recurses := true, apart := false }
def RankDoesSaid : Prop := rankDoesRow.holds Try.pinned (OpenSpec.ofChange rankDoesSpec)

/-- ITS FALSE NEIGHBOUR: 'it returns false'. Refute it at one input. -/
def rankDoesWrong : ChangeSpec := { name := "rankDoes", fn := fun _ => fun
  | [d1, d2, d3] => { results := [.lit (.bool false)], args := [d1, d2, d3] }
  | _ => none }
def RankDoesWrongFalsely : Prop := rankDoesRow.holds Try.pinned (OpenSpec.ofChange rankDoesWrong)

/-- 'tansylaw12.RankMid': WHATEVER THE INPUT: true; the input reads as it did. -/
def rankMidSpec : ChangeSpec := { name := "rankMid", fn := fun _ => fun
  | [d1, d2] => { results := [.lit (.bool true)], args := [d1, d2] }
  | _ => none }
def rankMidRow : OpenClaim := { program := "ytfopmdnpjokjcaa", sum := "7c10ad17e41b24f2583f8f8d6cb7a4815fc400a29d6122d1db453f7a44fc1362", func := "tansy/tansylaw12.RankMid", spec := "rankMid", inPlace := ["math.Float64frombits", "math.Float64bits"], unfollowed := true, recurses := true, apart := false }
def RankMidSaid : Prop := rankMidRow.holds Try.pinned (OpenSpec.ofChange rankMidSpec)

/-- ITS FALSE NEIGHBOUR: 'it returns false'. Refute it at one input. -/
def rankMidWrong : ChangeSpec := { name := "rankMid", fn := fun _ => fun
  | [d1, d2] => { results := [.lit (.bool false)], args := [d1, d2] }
  | _ => none }
def RankMidWrongFalsely : Prop := rankMidRow.holds Try.pinned (OpenSpec.ofChange rankMidWrong)

/- THE SECOND FORM. 'bulk': how many values and letters a reading holds, each counted each time it is reached (what is shared counts as often as it is met; a slice's spare places count too). A statement '..UptoSaid' is the law's where the arguments, and the package variables that the reading takes, are together of bulk at most 1048576: NARROWER than '..Said'. Prove '..Said' where nothing that the law and all that it calls make is longer than what came in: it says more and counts as full. Else prove '..UptoSaid'. A law counts once. -/
mutual
def uptoBulk {H : Type} : DataW H → Nat
  | .lit (.string bytes) => bytes.length + 1
  | .lit _ => 1
  | .nil => 1
  | .ptr d => uptoBulk d + 1
  | .slice elems spare => uptoBulkAll elems + uptoBulkAll spare + 1
  | .agg parts => uptoBulkAll parts + 1
  | .iface _ d => uptoBulk d + 1
  | .map entries => uptoBulkEntries entries + 1
  | .held _ => 1
def uptoBulkAll {H : Type} : List (DataW H) → Nat
  | [] => 0
  | d :: r => uptoBulk d + uptoBulkAll r
def uptoBulkEntries {H : Type} : List (Lit × DataW H) → Nat
  | [] => 0
  | x :: r => uptoBulkEntry x + uptoBulkEntries r
def uptoBulkEntry {H : Type} : Lit × DataW H → Nat
  | (.string bytes, d) => bytes.length + uptoBulk d + 1
  | (_, d) => uptoBulk d + 1
 end
def uptoSmall : (H : Type) → List (DataW H) → Bool := fun _ ds => decide (uptoBulkAll ds ≤ 1048576)
def OpenSpec.upto (s : _root_.Go.ChangeSpec) : _root_.Go.OpenSpec := { _root_.Go.OpenSpec.ofChange s with cond := some uptoSmall }

/-- 'tansylaw12.RankOrders', WHERE WHAT IT READS IS OF BULK AT MOST 1048576: true; the input reads as it did. -/
def rankOrdersUptoRow : OpenClaim := { program := "ytfopmdnpjokjcaa", sum := "7c10ad17e41b24f2583f8f8d6cb7a4815fc400a29d6122d1db453f7a44fc1362", func := "tansy/tansylaw12.RankOrders", spec := "rankOrders", inPlace := ["math.Float64frombits", "math.Float64bits"], unfollowed := true, recurses := true, apart := false, narrowed := true }
def RankOrdersUptoSaid : Prop := rankOrdersUptoRow.holds Try.pinned (OpenSpec.upto rankOrdersSpec)

/-- 'tansylaw12.RankFlip', WHERE WHAT IT READS IS OF BULK AT MOST 1048576: true; the input reads as it did. -/
def rankFlipUptoRow : OpenClaim := { program := "ytfopmdnpjokjcaa", sum := "7c10ad17e41b24f2583f8f8d6cb7a4815fc400a29d6122d1db453f7a44fc1362", func := "tansy/tansylaw12.RankFlip", spec := "rankFlip", inPlace := ["math.Float64frombits", "math.Float64bits"], unfollowed := true, recurses := true, apart := false, narrowed := true }
def RankFlipUptoSaid : Prop := rankFlipUptoRow.holds Try.pinned (OpenSpec.upto rankFlipSpec)

/-- 'tansylaw12.RankOne', WHERE WHAT IT READS IS OF BULK AT MOST 1048576: true; the input reads as it did. -/
def rankOneUptoRow : OpenClaim := { program := "ytfopmdnpjokjcaa", sum := "7c10ad17e41b24f2583f8f8d6cb7a4815fc400a29d6122d1db453f7a44fc1362", func := "tansy/tansylaw12.RankOne", spec := "rankOne", inPlace := ["math.Float64frombits", "math.Float64bits"], unfollowed := true, recurses := true, apart := false, narrowed := true }
def RankOneUptoSaid : Prop := rankOneUptoRow.holds Try.pinned (OpenSpec.upto rankOneSpec)

/-- 'tansylaw12.RankEdges', WHERE WHAT IT READS IS OF BULK AT MOST 1048576: true; the input reads as it did. -/
def rankEdgesUptoRow : OpenClaim := { program := "ytfopmdnpjokjcaa", sum := "7c10ad17e41b24f2583f8f8d6cb7a4815fc400a29d6122d1db453f7a44fc1362", func := "tansy/tansylaw12.RankEdges", spec := "rankEdges", inPlace := ["math.Float64frombits", "math.Float64bits"], unfollowed := true, recurses := true, apart := false, narrowed := true }
def RankEdgesUptoSaid : Prop := rankEdgesUptoRow.holds Try.pinned (OpenSpec.upto rankEdgesSpec)

/-- 'tansylaw12.RankBack', WHERE WHAT IT READS IS OF BULK AT MOST 1048576: true; the input reads as it did. -/
def rankBackUptoRow : OpenClaim := { program := "ytfopmdnpjokjcaa", sum := "7c10ad17e41b24f2583f8f8d6cb7a4815fc400a29d6122d1db453f7a44fc1362", func := "tansy/tansylaw12.RankBack", spec := "rankBack", inPlace := ["math.Float64frombits", "math.Float64bits"], unfollowed := true, recurses := true, apart := false, narrowed := true }
def RankBackUptoSaid : Prop := rankBackUptoRow.holds Try.pinned (OpenSpec.upto rankBackSpec)

/-- 'tansylaw12.RankDoes', WHERE WHAT IT READS IS OF BULK AT MOST 1048576: true; the input reads as it did. -/
def rankDoesUptoRow : OpenClaim := { program := "ytfopmdnpjokjcaa", sum := "7c10ad17e41b24f2583f8f8d6cb7a4815fc400a29d6122d1db453f7a44fc1362", func := "tansy/tansylaw12.RankDoes", spec := "rankDoes", inPlace := ["math.Float64frombits", "math.Float64bits"], unfollowed := true, recurses := true, apart := false, narrowed := true }
def RankDoesUptoSaid : Prop := rankDoesUptoRow.holds Try.pinned (OpenSpec.upto rankDoesSpec)

/-- 'tansylaw12.RankMid', WHERE WHAT IT READS IS OF BULK AT MOST 1048576: true; the input reads as it did. -/
def rankMidUptoRow : OpenClaim := { program := "ytfopmdnpjokjcaa", sum := "7c10ad17e41b24f2583f8f8d6cb7a4815fc400a29d6122d1db453f7a44fc1362", func := "tansy/tansylaw12.RankMid", spec := "rankMid", inPlace := ["math.Float64frombits", "math.Float64bits"], unfollowed := true, recurses := true, apart := false, narrowed := true }
def RankMidUptoSaid : Prop := rankMidUptoRow.holds Try.pinned (OpenSpec.upto rankMidSpec)

end Rows
end Go.Proofs.Ytfopmdnpjokjcaa
