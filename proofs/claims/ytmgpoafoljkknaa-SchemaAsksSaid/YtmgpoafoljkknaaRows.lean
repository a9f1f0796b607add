/-
  No cell of these rows narrows 'for every input' (looked for: loops, veiled, ifaces, maps, wideKeys, modest, calm, conditions, laid).
  DERIVED. THE GIVEN ROWS OF THIS SEAT. 11 by the template 'for every input the law returns true; each argument reads behind the call as it read before'; 0 by the template 'total and deterministic' (their statements: YtmgpoafoljkknaaTotals.lean).
  GIVEN WITH THE SEED: the statements are not yours to turn. If you find one false, say at which input.
  Laid BY PROGRAM, IN A SANDBOX (cutbox-rows.mjs): the forced cells as the released guide's own fill.sh prints them over the translation 993038041b0d1e57… (all of the seat's roots in one cut). By AI agents, Wed Nov 11 2026. No macro, syntax, notation, axiom, sorry.
-/
import Derived.Test.YtmgpoafoljkknaaChecked
import GoSem.Claim
import GoSem.ClaimJoined
import GoSem.ClaimMapViews
import Derived.JoinedTies
import Derived.KernelRfl
namespace Go.Proofs.Ytmgpoafoljkknaa
/- THE CELL 'sum', in the pinned program and in every row, IS THE sha256 OF THE DUMP (.gsa) THAT YtmgpoafoljkknaaProg.lean LOADS. Nothing in Lean hashes anything: it is a label: what it is worth is what the hold of that sum in a sandbox is worth. -/
noncomputable def Try.pinned : Pinned := { name := "ytmgpoafoljkknaa", sum := "993038041b0d1e5705eef2831e3de633286396228eb9baec23fecab1a42bb370", checked := Try.checked }
namespace Rows
def none {H : Type} : Left H := { results := [], args := [] }

/-- 'joistlaw14.SchemaReads': WHATEVER THE INPUT: true; the input reads as it did. -/
def schemaReadsSpec : ChangeSpec := { name := "schemaReads", fn := fun _ => fun
  | [d] => { results := [.lit (.bool true)], args := [d] }
  | _ => none }
def schemaReadsRow : OpenClaim := { program := "ytmgpoafoljkknaa", sum := "993038041b0d1e5705eef2831e3de633286396228eb9baec23fecab1a42bb370", func := "joist/joistlaw14.SchemaReads", spec := "schemaReads", unfollowed := true, recurses := true, apart := false }
def SchemaReadsSaid : Prop := schemaReadsRow.holds Try.pinned (OpenSpec.ofChange schemaReadsSpec)

/-- ITS FALSE NEIGHBOUR: 'it returns false'. Refute it at one input. -/
def schemaReadsWrong : ChangeSpec := { name := "schemaReads", fn := fun _ => fun
  | [d] => { results := [.lit (.bool false)], args := [d] }
  | _ => none }
def SchemaReadsWrongFalsely : Prop := schemaReadsRow.holds Try.pinned (OpenSpec.ofChange schemaReadsWrong)

/-- 'joistlaw14.SchemaBack': WHATEVER THE INPUT: true; the input reads as it did. -/
def schemaBackSpec : ChangeSpec := { name := "schemaBack", fn := fun _ => fun
  | [d1, d2] => { results := [.lit (.bool true)], args := [d1, d2] }
  | _ => none }
def schemaBackRow : OpenClaim := { program := "ytmgpoafoljkknaa", sum := "993038041b0d1e5705eef2831e3de633286396228eb9baec23fecab1a42bb370", func := "joist/joistlaw14.SchemaBack", spec := "schemaBack", unfollowed := true, recurses := true, apart := false }
def SchemaBackSaid : Prop := schemaBackRow.holds Try.pinned (OpenSpec.ofChange schemaBackSpec)

/-- ITS FALSE NEIGHBOUR: 'it returns false'. Refute it at one input. -/
def schemaBackWrong : ChangeSpec := { name := "schemaBack", fn := fun _ => fun
  | [d1, d2] => { results := [.lit (.bool false)], args := [d1, d2] }
  | _ => none }
def SchemaBackWrongFalsely : Prop := schemaBackRow.holds Try.pinned (OpenSpec.ofChange schemaBackWrong)

/-- 'joistlaw14.SchemaGroups': WHATEVER THE INPUT: true; the input reads as it did. -/
def schemaGroupsSpec : ChangeSpec := { name := "schemaGroups", fn := fun _ => fun
  | [d] => { results := [.lit (.bool true)], args := [d] }
  | _ => none }
def schemaGroupsRow : OpenClaim := { program := "ytmgpoafoljkknaa", sum := "993038041b0d1e5705eef2831e3de633286396228eb9baec23fecab1a42bb370", func := "joist/joistlaw14.SchemaGroups", spec := "schemaGroups", unfollowed := true, recurses := true, apart := false }
def SchemaGroupsSaid : Prop := schemaGroupsRow.holds Try.pinned (OpenSpec.ofChange schemaGroupsSpec)

/-- ITS FALSE NEIGHBOUR: 'it returns false'. Refute it at one input. -/
def schemaGroupsWrong : ChangeSpec := { name := "schemaGroups", fn := fun _ => fun
  | [d] => { results := [.lit (.bool false)], args := [d] }
  | _ => none }
def SchemaGroupsWrongFalsely : Prop := schemaGroupsRow.holds Try.pinned (OpenSpec.ofChange schemaGroupsWrong)

/-- 'joistlaw14.SchemaFinds': WHATEVER THE INPUT: true; the input reads as it did. -/
def schemaFindsSpec : ChangeSpec := { name := "schemaFinds", fn := fun _ => fun
  | [d] => { results := [.lit (.bool true)], args := [d] }
  | _ => none }
def schemaFindsRow : OpenClaim := { program := "ytmgpoafoljkknaa", sum := "993038041b0d1e5705eef2831e3de633286396228eb9baec23fecab1a42bb370", func := "joist/joistlaw14.SchemaFinds", spec := "schemaFinds", unfollowed := true, recurses := true, apart := false }
def SchemaFindsSaid : Prop := schemaFindsRow.holds Try.pinned (OpenSpec.ofChange schemaFindsSpec)

/-- ITS FALSE NEIGHBOUR: 'it returns false'. Refute it at one input. -/
def schemaFindsWrong : ChangeSpec := { name := "schemaFinds", fn := fun _ => fun
  | [d] => { results := [.lit (.bool false)], args := [d] }
  | _ => none }
def SchemaFindsWrongFalsely : Prop := schemaFindsRow.holds Try.pinned (OpenSpec.ofChange schemaFindsWrong)

/-- 'joistlaw14.SchemaAsks': WHATEVER THE INPUT: true; the input reads as it did. -/
def schemaAsksSpec : ChangeSpec := { name := "schemaAsks", fn := fun _ => fun
  | [d1, d2, d3, d4] => { results := [.lit (.bool true)], args := [d1, d2, d3, d4] }
  | _ => none }
def schemaAsksRow : OpenClaim := { program := "ytmgpoafoljkknaa", sum := "993038041b0d1e5705eef2831e3de633286396228eb9baec23fecab1a42bb370", func := "joist/joistlaw14.SchemaAsks", spec := "schemaAsks", unfollowed := true, recurses := true, apart := false }
def SchemaAsksSaid : Prop := schemaAsksRow.holds Try.pinned (OpenSpec.ofChange schemaAsksSpec)

/-- ITS FALSE NEIGHBOUR: 'it returns false'. Refute it at one input. -/
def schemaAsksWrong : ChangeSpec := { name := "schemaAsks", fn := fun _ => fun
  | [d1, d2, d3, d4] => { results := [.lit (.bool false)], args := [d1, d2, d3, d4] }
  | _ => none }
def SchemaAsksWrongFalsely : Prop := schemaAsksRow.holds Try.pinned (OpenSpec.ofChange schemaAsksWrong)

/-- 'joistlaw14.SchemaApart': WHATEVER THE INPUT: true; the input reads as it did. -/
def schemaApartSpec : ChangeSpec := { name := "schemaApart", fn := fun _ => fun
  | [d] => { results := [.lit (.bool true)], args := [d] }
  | _ => none }
def schemaApartRow : OpenClaim := { program := "ytmgpoafoljkknaa", sum := "993038041b0d1e5705eef2831e3de633286396228eb9baec23fecab1a42bb370", func := "joist/joistlaw14.SchemaApart", spec := "schemaApart", unfollowed := true, recurses := true, apart := false }
def SchemaApartSaid : Prop := schemaApartRow.holds Try.pinned (OpenSpec.ofChange schemaApartSpec)

/-- ITS FALSE NEIGHBOUR: 'it returns false'. Refute it at one input. -/
def schemaApartWrong : ChangeSpec := { name := "schemaApart", fn := fun _ => fun
  | [d] => { results := [.lit (.bool false)], args := [d] }
  | _ => none }
def SchemaApartWrongFalsely : Prop := schemaApartRow.holds Try.pinned (OpenSpec.ofChange schemaApartWrong)

/-- 'joistlaw15.DdlWalks': WHATEVER THE INPUT: true; the input reads as it did. -/
def ddlWalksSpec : ChangeSpec := { name := "ddlWalks", fn := fun _ => fun
  | [d1, d2] => { results := [.lit (.bool true)], args := [d1, d2] }
  | _ => none }
def ddlWalksRow : OpenClaim := { program := "ytmgpoafoljkknaa", sum := "993038041b0d1e5705eef2831e3de633286396228eb9baec23fecab1a42bb370", func := "joist/joistlaw15.DdlWalks", spec := "ddlWalks", unfollowed := true, recurses := true, apart := false }
def DdlWalksSaid : Prop := ddlWalksRow.holds Try.pinned (OpenSpec.ofChange ddlWalksSpec)

/-- ITS FALSE NEIGHBOUR: 'it returns false'. Refute it at one input. -/
def ddlWalksWrong : ChangeSpec := { name := "ddlWalks", fn := fun _ => fun
  | [d1, d2] => { results := [.lit (.bool false)], args := [d1, d2] }
  | _ => none }
def DdlWalksWrongFalsely : Prop := ddlWalksRow.holds Try.pinned (OpenSpec.ofChange ddlWalksWrong)

/-- 'joistlaw15.DdlBack': WHATEVER THE INPUT: true; the input reads as it did. -/
def ddlBackSpec : ChangeSpec := { name := "ddlBack", fn := fun _ => fun
  | [d1, d2] => { results := [.lit (.bool true)], args := [d1, d2] }
  | _ => none }
def ddlBackRow : OpenClaim := { program := "ytmgpoafoljkknaa", sum := "993038041b0d1e5705eef2831e3de633286396228eb9baec23fecab1a42bb370", func := "joist/joistlaw15.DdlBack", spec := "ddlBack", unfollowed := true, recurses := true, apart := false }
def DdlBackSaid : Prop := ddlBackRow.holds Try.pinned (OpenSpec.ofChange ddlBackSpec)

/-- ITS FALSE NEIGHBOUR: 'it returns false'. Refute it at one input. -/
def ddlBackWrong : ChangeSpec := { name := "ddlBack", fn := fun _ => fun
  | [d1, d2] => { results := [.lit (.bool false)], args := [d1, d2] }
  | _ => none }
def DdlBackWrongFalsely : Prop := ddlBackRow.holds Try.pinned (OpenSpec.ofChange ddlBackWrong)

/-- 'joistlaw15.DdlOthers': WHATEVER THE INPUT: true; the input reads as it did. -/
def ddlOthersSpec : ChangeSpec := { name := "ddlOthers", fn := fun _ => fun
  | [d1, d2] => { results := [.lit (.bool true)], args := [d1, d2] }
  | _ => none }
def ddlOthersRow : OpenClaim := { program := "ytmgpoafoljkknaa", sum := "993038041b0d1e5705eef2831e3de633286396228eb9baec23fecab1a42bb370", func := "joist/joistlaw15.DdlOthers", spec := "ddlOthers", unfollowed := true, recurses := true, apart := false }
def DdlOthersSaid : Prop := ddlOthersRow.holds Try.pinned (OpenSpec.ofChange ddlOthersSpec)

/-- ITS FALSE NEIGHBOUR: 'it returns false'. Refute it at one input. -/
def ddlOthersWrong : ChangeSpec := { name := "ddlOthers", fn := fun _ => fun
  | [d1, d2] => { results := [.lit (.bool false)], args := [d1, d2] }
  | _ => none }
def DdlOthersWrongFalsely : Prop := ddlOthersRow.holds Try.pinned (OpenSpec.ofChange ddlOthersWrong)

/-- 'joistlaw15.DdlJobs': WHATEVER THE INPUT: true; the input reads as it did. -/
def ddlJobsSpec : ChangeSpec := { name := "ddlJobs", fn := fun _ => fun
  | [d] => { results := [.lit (.bool true)], args := [d] }
  | _ => none }
def ddlJobsRow : OpenClaim := { program := "ytmgpoafoljkknaa", sum := "993038041b0d1e5705eef2831e3de633286396228eb9baec23fecab1a42bb370", func := "joist/joistlaw15.DdlJobs", spec := "ddlJobs", unfollowed := true, recurses := true, apart := false }
def DdlJobsSaid : Prop := ddlJobsRow.holds Try.pinned (OpenSpec.ofChange ddlJobsSpec)

/-- ITS FALSE NEIGHBOUR: 'it returns false'. Refute it at one input. -/
def ddlJobsWrong : ChangeSpec := { name := "ddlJobs", fn := fun _ => fun
  | [d] => { results := [.lit (.bool false)], args := [d] }
  | _ => none }
def DdlJobsWrongFalsely : Prop := ddlJobsRow.holds Try.pinned (OpenSpec.ofChange ddlJobsWrong)

/-- 'joistlaw15.DdlBusy': WHATEVER THE INPUT: true; the input reads as it did. -/
def ddlBusySpec : ChangeSpec := { name := "ddlBusy", fn := fun _ => fun
  | [d1, d2] => { results := [.lit (.bool true)], args := [d1, d2] }
  | _ => none }
def ddlBusyRow : OpenClaim := { program := "ytmgpoafoljkknaa", sum := "993038041b0d1e5705eef2831e3de633286396228eb9baec23fecab1a42bb370", func := "joist/joistlaw15.DdlBusy", spec := "ddlBusy", unfollowed := true, recurses := true, apart := false }
def DdlBusySaid : Prop := ddlBusyRow.holds Try.pinned (OpenSpec.ofChange ddlBusySpec)

/-- ITS FALSE NEIGHBOUR: 'it returns false'. Refute it at one input. -/
def ddlBusyWrong : ChangeSpec := { name := "ddlBusy", fn := fun _ => fun
  | [d1, d2] => { results := [.lit (.bool false)], args := [d1, d2] }
  | _ => none }
def DdlBusyWrongFalsely : Prop := ddlBusyRow.holds Try.pinned (OpenSpec.ofChange ddlBusyWrong)

/- THE SECOND FORM. 'bulk': how many values and letters a reading holds, each counted each time it is reached (what is shared counts as often as it is met; a slice's spare places count too). A statement '..UptoSaid' is the law's where the arguments, and the package variables that the reading takes, are together of bulk at most 1048576: NARROWER than '..Said'. Prove '..Said' where nothing that the law and all that it calls make is longer than what came in: it says more and counts as full. Else prove '..UptoSaid'. A law counts once. -/
mutual
def uptoBulk {H : Type} : DataW H → Nat
  | .lit (.string bytes) => bytes.length + 1
  | .lit _ => 1
  | .nil => 1
  | .ptr d => uptoBulk d + 1
  | .slice elems spare => uptoBulkAll elems + uptoBulkAll spare + 1
  | .agg parts => uptoBulkAll parts + 1
  | .iface _ d => uptoBulk d + 1
  | .map entries => uptoBulkEntries entries + 1
  | .held _ => 1
def uptoBulkAll {H : Type} : List (DataW H) → Nat
  | [] => 0
  | d :: r => uptoBulk d + uptoBulkAll r
def uptoBulkEntries {H : Type} : List (Lit × DataW H) → Nat
  | [] => 0
  | x :: r => uptoBulkEntry x + uptoBulkEntries r
def uptoBulkEntry {H : Type} : Lit × DataW H → Nat
  | (.string bytes, d) => bytes.length + uptoBulk d + 1
  | (_, d) => uptoBulk d + 1
 end
def uptoSmall : (H : Type) → List (DataW H) → Bool := fun _ ds => decide (uptoBulkAll ds ≤ 1048576)
def OpenSpec.upto (s : _root_.Go.ChangeSpec) : _root_.Go.OpenSpec := { _root_.Go.OpenSpec.ofChange s with cond := some uptoSmall }

/-- 'joistlaw14.SchemaReads', WHERE WHAT IT READS IS OF BULK AT MOST 1048576: true; the input reads as it did. -/
def schemaReadsUptoRow : OpenClaim := { program := "ytmgpoafoljkknaa", sum := "993038041b0d1e5705eef2831e3de633286396228eb9baec23fecab1a42bb370", func := "joist/joistlaw14.SchemaReads", spec := "schemaReads", unfollowed := true, recurses := true, apart := false, narrowed := true }
def SchemaReadsUptoSaid : Prop := schemaReadsUptoRow.holds Try.pinned (OpenSpec.upto schemaReadsSpec)

/-- 'joistlaw14.SchemaBack', WHERE WHAT IT READS IS OF BULK AT MOST 1048576: true; the input reads as it did. -/
def schemaBackUptoRow : OpenClaim := { program := "ytmgpoafoljkknaa", sum := "993038041b0d1e5705eef2831e3de633286396228eb9baec23fecab1a42bb370", func := "joist/joistlaw14.SchemaBack", spec := "schemaBack", unfollowed := true, recurses := true, apart := false, narrowed := true }
def SchemaBackUptoSaid : Prop := schemaBackUptoRow.holds Try.pinned (OpenSpec.upto schemaBackSpec)

/-- 'joistlaw14.SchemaGroups', WHERE WHAT IT READS IS OF BULK AT MOST 1048576: true; the input reads as it did. -/
def schemaGroupsUptoRow : OpenClaim := { program := "ytmgpoafoljkknaa", sum := "993038041b0d1e5705eef2831e3de633286396228eb9baec23fecab1a42bb370", func := "joist/joistlaw14.SchemaGroups", spec := "schemaGroups", unfollowed := true, recurses := true, apart := false, narrowed := true }
def SchemaGroupsUptoSaid : Prop := schemaGroupsUptoRow.holds Try.pinned (OpenSpec.upto schemaGroupsSpec)

/-- 'joistlaw14.SchemaFinds', WHERE WHAT IT READS IS OF BULK AT MOST 1048576: true; the input reads as it did. -/
def schemaFindsUptoRow : OpenClaim := { program := "ytmgpoafoljkknaa", sum := "993038041b0d1e5705eef2831e3de633286396228eb9baec23fecab1a42bb370", func := "joist/joistlaw14.SchemaFinds", spec := "schemaFinds", unfollowed := true, recurses := true, apart := false, narrowed := true }
def SchemaFindsUptoSaid : Prop := schemaFindsUptoRow.holds Try.pinned (OpenSpec.upto schemaFindsSpec)

/-- 'joistlaw14.SchemaAsks', WHERE WHAT IT READS IS OF BULK AT MOST 1048576: true; the input reads as it did. -/
def schemaAsksUptoRow : OpenClaim := { program := "ytmgpoafoljkknaa", sum := "993038041b0d1e5705eef2831e3de633286396228eb9baec23fecab1a42bb370", func := "joist/joistlaw14.SchemaAsks", spec := "schemaAsks", unfollowed := true, recurses := true, apart := false, narrowed := true }
def SchemaAsksUptoSaid : Prop := schemaAsksUptoRow.holds Try.pinned (OpenSpec.upto schemaAsksSpec)

/-- 'joistlaw14.SchemaApart', WHERE WHAT IT READS IS OF BULK AT MOST 1048576: true; the input reads as it did. -/
def schemaApartUptoRow : OpenClaim := { program := "ytmgpoafoljkknaa", sum := "993038041b0d1e5705eef2831e3de633286396228eb9baec23fecab1a42bb370", func := "joist/joistlaw14.SchemaApart", spec := "schemaApart", unfollowed := true, recurses := true, apart := false, narrowed := true }
def SchemaApartUptoSaid : Prop := schemaApartUptoRow.holds Try.pinned (OpenSpec.upto schemaApartSpec)

/-- 'joistlaw15.DdlWalks', WHERE WHAT IT READS IS OF BULK AT MOST 1048576: true; the input reads as it did. -/
def ddlWalksUptoRow : OpenClaim := { program := "ytmgpoafoljkknaa", sum := "993038041b0d1e5705eef2831e3de633286396228eb9baec23fecab1a42bb370", func := "joist/joistlaw15.DdlWalks", spec := "ddlWalks", unfollowed := true, recurses := true, apart := false, narrowed := true }
def DdlWalksUptoSaid : Prop := ddlWalksUptoRow.holds Try.pinned (OpenSpec.upto ddlWalksSpec)

/-- 'joistlaw15.DdlBack', WHERE WHAT IT READS IS OF BULK AT MOST 1048576: true; the input reads as it did. -/
def ddlBackUptoRow : OpenClaim := { program := "ytmgpoafoljkknaa", sum := "993038041b0d1e5705eef2831e3de633286396228eb9baec23fecab1a42bb370", func := "joist/joistlaw15.DdlBack", spec := "ddlBack", unfollowed := true, recurses := true, apart := false, narrowed := true }
def DdlBackUptoSaid : Prop := ddlBackUptoRow.holds Try.pinned (OpenSpec.upto ddlBackSpec)

/-- 'joistlaw15.DdlOthers', WHERE WHAT IT READS IS OF BULK AT MOST 1048576: true; the input reads as it did. -/
def ddlOthersUptoRow : OpenClaim := { program := "ytmgpoafoljkknaa", sum := "993038041b0d1e5705eef2831e3de633286396228eb9baec23fecab1a42bb370", func := "joist/joistlaw15.DdlOthers", spec := "ddlOthers", unfollowed := true, recurses := true, apart := false, narrowed := true }
def DdlOthersUptoSaid : Prop := ddlOthersUptoRow.holds Try.pinned (OpenSpec.upto ddlOthersSpec)

/-- 'joistlaw15.DdlJobs', WHERE WHAT IT READS IS OF BULK AT MOST 1048576: true; the input reads as it did. -/
def ddlJobsUptoRow : OpenClaim := { program := "ytmgpoafoljkknaa", sum := "993038041b0d1e5705eef2831e3de633286396228eb9baec23fecab1a42bb370", func := "joist/joistlaw15.DdlJobs", spec := "ddlJobs", unfollowed := true, recurses := true, apart := false, narrowed := true }
def DdlJobsUptoSaid : Prop := ddlJobsUptoRow.holds Try.pinned (OpenSpec.upto ddlJobsSpec)

/-- 'joistlaw15.DdlBusy', WHERE WHAT IT READS IS OF BULK AT MOST 1048576: true; the input reads as it did. -/
def ddlBusyUptoRow : OpenClaim := { program := "ytmgpoafoljkknaa", sum := "993038041b0d1e5705eef2831e3de633286396228eb9baec23fecab1a42bb370", func := "joist/joistlaw15.DdlBusy", spec := "ddlBusy", unfollowed := true, recurses := true, apart := false, narrowed := true }
def DdlBusyUptoSaid : Prop := ddlBusyUptoRow.holds Try.pinned (OpenSpec.upto ddlBusySpec)

end Rows
end Go.Proofs.Ytmgpoafoljkknaa
