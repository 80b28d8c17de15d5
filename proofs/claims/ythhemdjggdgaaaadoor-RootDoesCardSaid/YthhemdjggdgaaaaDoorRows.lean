/-
  NARROWER THAN 'FOR EVERY INPUT', by the rows' own cells (each row's printed sentence says how): RootDoes: laid · RootBack: laid · RootFound: laid · RootGroups: laid · RootTorn: laid.
  DERIVED. THE GIVEN ROWS OF THIS SEAT. 5 by the template 'for every input the law returns true; each argument reads behind the call as it read before'; 0 by the template 'total and deterministic' (their statements: YthhemdjggdgaaaaDoorTotals.lean).
  GIVEN WITH THE SEED: the statements are not yours to turn. If you find one false, say at which input.
  Laid BY PROGRAM, IN A SANDBOX (cutbox-rows.mjs): the forced cells as the released guide's own fill.sh prints them over the translation b95706ba1c83f052… (all of the seat's roots in one cut). By AI agents, Wed Nov 11 2026. No macro, syntax, notation, axiom, sorry.
-/
import Derived.Test.YthhemdjggdgaaaaDoorChecked
import GoSem.Claim
import GoSem.ClaimJoined
import GoSem.ClaimMapViews
import Derived.JoinedTies
import Derived.KernelRfl
namespace Go.Proofs.YthhemdjggdgaaaaDoor
/- THE CELL 'sum', in the pinned program and in every row, IS THE sha256 OF THE DUMP (.gsa) THAT YthhemdjggdgaaaaDoorProg.lean LOADS. Nothing in Lean hashes anything: it is a label: what it is worth is what the hold of that sum in a sandbox is worth. -/
noncomputable def Tryd.pinned : Pinned := { name := "ythhemdjggdgaaaadoor", sum := "b95706ba1c83f0524c07ee264535c48c9f63b6566af9c695e82a345f1b8ed6f5", checked := Tryd.checked }
namespace Rows
def none {H : Type} : Left H := { results := [], args := [] }

/- WHAT THE LISTED PACKAGE-LEVEL VARIABLES READ AS WHEN THE CALL BEGINS. Each datum BY PROGRAM (the guide's laid-datum.mjs) off the statement by which the dump's own 'gosem.cut.vars' lays the variable. In a bare row this is a premise. The card (YthhemdjggdgaaaaDoorCards.lean) ties it to the program's text. -/
def laid_tansy_root_wide {H : Type} : DataW H := .agg [.lit (.int .i64 6), .lit (.int .i64 2), .lit (.int .i64 2), .lit (.int .i64 3), .lit (.int .i64 4), .lit (.int .i64 6), .lit (.int .i64 1)]

/-- 'tansylaw16.RootDoes': WHATEVER THE INPUT: true; the input reads as it did. -/
def rootDoesSpec : ChangeSpec := { name := "rootDoes", fn := fun _ => fun
  | [d1, d2, d3] => { results := [.lit (.bool true)], args := [d1, d2, d3] }
  | _ => none }
def rootDoesRow : OpenClaim := { program := "ythhemdjggdgaaaadoor", sum := "b95706ba1c83f0524c07ee264535c48c9f63b6566af9c695e82a345f1b8ed6f5", func := "tansy/tansylaw16.RootDoes", spec := "rootDoes", inPlace := ["slices.overlaps[tansy/api.Page]"], unfollowed := true, recurses := true, named := ["tansy/root.wide"], apart := false, laid := [("tansy/root.wide", laid_tansy_root_wide)] }
def RootDoesSaid : Prop := rootDoesRow.holds Tryd.pinned (OpenSpec.ofChange rootDoesSpec)

/-- ITS FALSE NEIGHBOUR: 'it returns false'. Refute it at one input. -/
def rootDoesWrong : ChangeSpec := { name := "rootDoes", fn := fun _ => fun
  | [d1, d2, d3] => { results := [.lit (.bool false)], args := [d1, d2, d3] }
  | _ => none }
def RootDoesWrongFalsely : Prop := rootDoesRow.holds Tryd.pinned (OpenSpec.ofChange rootDoesWrong)

/-- 'tansylaw16.RootBack': WHATEVER THE INPUT: true; the input reads as it did. -/
def rootBackSpec : ChangeSpec := { name := "rootBack", fn := fun _ => fun
  | [d1, d2, d3] => { results := [.lit (.bool true)], args := [d1, d2, d3] }
  | _ => none }
def rootBackRow : OpenClaim := { program := "ythhemdjggdgaaaadoor", sum := "b95706ba1c83f0524c07ee264535c48c9f63b6566af9c695e82a345f1b8ed6f5", func := "tansy/tansylaw16.RootBack", spec := "rootBack", inPlace := ["slices.overlaps[tansy/api.Page]"], unfollowed := true, recurses := true, named := ["tansy/root.wide"], apart := false, laid := [("tansy/root.wide", laid_tansy_root_wide)] }
def RootBackSaid : Prop := rootBackRow.holds Tryd.pinned (OpenSpec.ofChange rootBackSpec)

/-- ITS FALSE NEIGHBOUR: 'it returns false'. Refute it at one input. -/
def rootBackWrong : ChangeSpec := { name := "rootBack", fn := fun _ => fun
  | [d1, d2, d3] => { results := [.lit (.bool false)], args := [d1, d2, d3] }
  | _ => none }
def RootBackWrongFalsely : Prop := rootBackRow.holds Tryd.pinned (OpenSpec.ofChange rootBackWrong)

/-- 'tansylaw16.RootFound': WHATEVER THE INPUT: true; the input reads as it did. -/
def rootFoundSpec : ChangeSpec := { name := "rootFound", fn := fun _ => fun
  | [d1, d2, d3, d4] => { results := [.lit (.bool true)], args := [d1, d2, d3, d4] }
  | _ => none }
def rootFoundRow : OpenClaim := { program := "ythhemdjggdgaaaadoor", sum := "b95706ba1c83f0524c07ee264535c48c9f63b6566af9c695e82a345f1b8ed6f5", func := "tansy/tansylaw16.RootFound", spec := "rootFound", inPlace := ["slices.overlaps[tansy/api.Page]"], unfollowed := true, recurses := true, named := ["tansy/root.wide"], apart := false, laid := [("tansy/root.wide", laid_tansy_root_wide)] }
def RootFoundSaid : Prop := rootFoundRow.holds Tryd.pinned (OpenSpec.ofChange rootFoundSpec)

/-- ITS FALSE NEIGHBOUR: 'it returns false'. Refute it at one input. -/
def rootFoundWrong : ChangeSpec := { name := "rootFound", fn := fun _ => fun
  | [d1, d2, d3, d4] => { results := [.lit (.bool false)], args := [d1, d2, d3, d4] }
  | _ => none }
def RootFoundWrongFalsely : Prop := rootFoundRow.holds Tryd.pinned (OpenSpec.ofChange rootFoundWrong)

/-- 'tansylaw16.RootGroups': WHATEVER THE INPUT: true; the input reads as it did. -/
def rootGroupsSpec : ChangeSpec := { name := "rootGroups", fn := fun _ => fun
  | [d1, d2, d3] => { results := [.lit (.bool true)], args := [d1, d2, d3] }
  | _ => none }
def rootGroupsRow : OpenClaim := { program := "ythhemdjggdgaaaadoor", sum := "b95706ba1c83f0524c07ee264535c48c9f63b6566af9c695e82a345f1b8ed6f5", func := "tansy/tansylaw16.RootGroups", spec := "rootGroups", inPlace := ["slices.overlaps[tansy/api.Page]"], unfollowed := true, recurses := true, named := ["tansy/root.wide"], apart := false, laid := [("tansy/root.wide", laid_tansy_root_wide)] }
def RootGroupsSaid : Prop := rootGroupsRow.holds Tryd.pinned (OpenSpec.ofChange rootGroupsSpec)

/-- ITS FALSE NEIGHBOUR: 'it returns false'. Refute it at one input. -/
def rootGroupsWrong : ChangeSpec := { name := "rootGroups", fn := fun _ => fun
  | [d1, d2, d3] => { results := [.lit (.bool false)], args := [d1, d2, d3] }
  | _ => none }
def RootGroupsWrongFalsely : Prop := rootGroupsRow.holds Tryd.pinned (OpenSpec.ofChange rootGroupsWrong)

/-- 'tansylaw16.RootTorn': WHATEVER THE INPUT: true; the input reads as it did. -/
def rootTornSpec : ChangeSpec := { name := "rootTorn", fn := fun _ => fun
  | [d1, d2, d3, d4] => { results := [.lit (.bool true)], args := [d1, d2, d3, d4] }
  | _ => none }
def rootTornRow : OpenClaim := { program := "ythhemdjggdgaaaadoor", sum := "b95706ba1c83f0524c07ee264535c48c9f63b6566af9c695e82a345f1b8ed6f5", func := "tansy/tansylaw16.RootTorn", spec := "rootTorn", inPlace := ["slices.overlaps[tansy/api.Page]"], unfollowed := true, recurses := true, named := ["tansy/root.wide"], apart := false, laid := [("tansy/root.wide", laid_tansy_root_wide)] }
def RootTornSaid : Prop := rootTornRow.holds Tryd.pinned (OpenSpec.ofChange rootTornSpec)

/-- ITS FALSE NEIGHBOUR: 'it returns false'. Refute it at one input. -/
def rootTornWrong : ChangeSpec := { name := "rootTorn", fn := fun _ => fun
  | [d1, d2, d3, d4] => { results := [.lit (.bool false)], args := [d1, d2, d3, d4] }
  | _ => none }
def RootTornWrongFalsely : Prop := rootTornRow.holds Tryd.pinned (OpenSpec.ofChange rootTornWrong)

/- THE SECOND FORM. 'bulk': how many values and letters a reading holds, each counted each time it is reached (what is shared counts as often as it is met; a slice's spare places count too). A statement '..UptoSaid' is the law's where the arguments, and the package variables that the reading takes, are together of bulk at most 1048576: NARROWER than '..Said'. Prove '..Said' where nothing that the law and all that it calls make is longer than what came in: it says more and counts as full. Else prove '..UptoSaid'. A law counts once. -/
mutual
def uptoBulk {H : Type} : DataW H → Nat
  | .lit (.string bytes) => bytes.length + 1
  | .lit _ => 1
  | .nil => 1
  | .ptr d => uptoBulk d + 1
  | .slice elems spare => uptoBulkAll elems + uptoBulkAll spare + 1
  | .agg parts => uptoBulkAll parts + 1
  | .iface _ d => uptoBulk d + 1
  | .map entries => uptoBulkEntries entries + 1
  | .held _ => 1
def uptoBulkAll {H : Type} : List (DataW H) → Nat
  | [] => 0
  | d :: r => uptoBulk d + uptoBulkAll r
def uptoBulkEntries {H : Type} : List (Lit × DataW H) → Nat
  | [] => 0
  | x :: r => uptoBulkEntry x + uptoBulkEntries r
def uptoBulkEntry {H : Type} : Lit × DataW H → Nat
  | (.string bytes, d) => bytes.length + uptoBulk d + 1
  | (_, d) => uptoBulk d + 1
 end
def uptoSmall : (H : Type) → List (DataW H) → Bool := fun _ ds => decide (uptoBulkAll ds ≤ 1048576)
def OpenSpec.upto (s : _root_.Go.ChangeSpec) : _root_.Go.OpenSpec := { _root_.Go.OpenSpec.ofChange s with cond := some uptoSmall }

/-- 'tansylaw16.RootDoes', WHERE WHAT IT READS IS OF BULK AT MOST 1048576: true; the input reads as it did. -/
def rootDoesUptoRow : OpenClaim := { program := "ythhemdjggdgaaaadoor", sum := "b95706ba1c83f0524c07ee264535c48c9f63b6566af9c695e82a345f1b8ed6f5", func := "tansy/tansylaw16.RootDoes", spec := "rootDoes", inPlace := ["slices.overlaps[tansy/api.Page]"], unfollowed := true, recurses := true, named := ["tansy/root.wide"], apart := false, laid := [("tansy/root.wide", laid_tansy_root_wide)], narrowed := true }
def RootDoesUptoSaid : Prop := rootDoesUptoRow.holds Tryd.pinned (OpenSpec.upto rootDoesSpec)

/-- 'tansylaw16.RootBack', WHERE WHAT IT READS IS OF BULK AT MOST 1048576: true; the input reads as it did. -/
def rootBackUptoRow : OpenClaim := { program := "ythhemdjggdgaaaadoor", sum := "b95706ba1c83f0524c07ee264535c48c9f63b6566af9c695e82a345f1b8ed6f5", func := "tansy/tansylaw16.RootBack", spec := "rootBack", inPlace := ["slices.overlaps[tansy/api.Page]"], unfollowed := true, recurses := true, named := ["tansy/root.wide"], apart := false, laid := [("tansy/root.wide", laid_tansy_root_wide)], narrowed := true }
def RootBackUptoSaid : Prop := rootBackUptoRow.holds Tryd.pinned (OpenSpec.upto rootBackSpec)

/-- 'tansylaw16.RootFound', WHERE WHAT IT READS IS OF BULK AT MOST 1048576: true; the input reads as it did. -/
def rootFoundUptoRow : OpenClaim := { program := "ythhemdjggdgaaaadoor", sum := "b95706ba1c83f0524c07ee264535c48c9f63b6566af9c695e82a345f1b8ed6f5", func := "tansy/tansylaw16.RootFound", spec := "rootFound", inPlace := ["slices.overlaps[tansy/api.Page]"], unfollowed := true, recurses := true, named := ["tansy/root.wide"], apart := false, laid := [("tansy/root.wide", laid_tansy_root_wide)], narrowed := true }
def RootFoundUptoSaid : Prop := rootFoundUptoRow.holds Tryd.pinned (OpenSpec.upto rootFoundSpec)

/-- 'tansylaw16.RootGroups', WHERE WHAT IT READS IS OF BULK AT MOST 1048576: true; the input reads as it did. -/
def rootGroupsUptoRow : OpenClaim := { program := "ythhemdjggdgaaaadoor", sum := "b95706ba1c83f0524c07ee264535c48c9f63b6566af9c695e82a345f1b8ed6f5", func := "tansy/tansylaw16.RootGroups", spec := "rootGroups", inPlace := ["slices.overlaps[tansy/api.Page]"], unfollowed := true, recurses := true, named := ["tansy/root.wide"], apart := false, laid := [("tansy/root.wide", laid_tansy_root_wide)], narrowed := true }
def RootGroupsUptoSaid : Prop := rootGroupsUptoRow.holds Tryd.pinned (OpenSpec.upto rootGroupsSpec)

/-- 'tansylaw16.RootTorn', WHERE WHAT IT READS IS OF BULK AT MOST 1048576: true; the input reads as it did. -/
def rootTornUptoRow : OpenClaim := { program := "ythhemdjggdgaaaadoor", sum := "b95706ba1c83f0524c07ee264535c48c9f63b6566af9c695e82a345f1b8ed6f5", func := "tansy/tansylaw16.RootTorn", spec := "rootTorn", inPlace := ["slices.overlaps[tansy/api.Page]"], unfollowed := true, recurses := true, named := ["tansy/root.wide"], apart := false, laid := [("tansy/root.wide", laid_tansy_root_wide)], narrowed := true }
def RootTornUptoSaid : Prop := rootTornUptoRow.holds Tryd.pinned (OpenSpec.upto rootTornSpec)

end Rows
end Go.Proofs.YthhemdjggdgaaaaDoor
