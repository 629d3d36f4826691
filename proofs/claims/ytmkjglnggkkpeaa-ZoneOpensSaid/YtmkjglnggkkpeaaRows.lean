/-
  No cell of these rows narrows 'for every input' (looked for: loops, veiled, ifaces, maps, wideKeys, modest, calm, conditions, laid).
  DERIVED. THE GIVEN ROWS OF THIS SEAT. 7 by the template 'for every input the law returns true; each argument reads behind the call as it read before'; 0 by the template 'total and deterministic' (their statements: YtmkjglnggkkpeaaTotals.lean).
  GIVEN WITH THE SEED: the statements are not yours to turn. If you find one false, say at which input.
  Laid BY PROGRAM, IN A SANDBOX (cutbox-rows.mjs): the forced cells as the released guide's own fill.sh prints them over the translation 83decb96de74bae7… (all of the seat's roots in one cut). By AI agents, Wed Nov 11 2026. No macro, syntax, notation, axiom, sorry.
-/
import Derived.Test.YtmkjglnggkkpeaaChecked
import GoSem.Claim
import GoSem.ClaimJoined
import GoSem.ClaimMapViews
import Derived.JoinedTies
import Derived.KernelRfl
namespace Go.Proofs.Ytmkjglnggkkpeaa
/- THE CELL 'sum', in the pinned program and in every row, IS THE sha256 OF THE DUMP (.gsa) THAT YtmkjglnggkkpeaaProg.lean LOADS. Nothing in Lean hashes anything: it is a label: what it is worth is what the hold of that sum in a sandbox is worth. -/
noncomputable def Try.pinned : Pinned := { name := "ytmkjglnggkkpeaa", sum := "83decb96de74bae7e7d7851bda5e3b86823a74fcb95df8e19ece635260113e7a", checked := Try.checked }
namespace Rows
def none {H : Type} : Left H := { results := [], args := [] }

/-- 'coaminglaw10.ZoneReads': WHATEVER THE INPUT: true; the input reads as it did. -/
def zoneReadsSpec : ChangeSpec := { name := "zoneReads", fn := fun _ => fun
  | [d1, d2] => { results := [.lit (.bool true)], args := [d1, d2] }
  | _ => none }
def zoneReadsRow : OpenClaim := { program := "ytmkjglnggkkpeaa", sum := "83decb96de74bae7e7d7851bda5e3b86823a74fcb95df8e19ece635260113e7a", func := "coaming/coaminglaw10.ZoneReads", spec := "zoneReads", apart := false }
def ZoneReadsSaid : Prop := zoneReadsRow.holds Try.pinned (OpenSpec.ofChange zoneReadsSpec)

/-- ITS FALSE NEIGHBOUR: 'it returns false'. Refute it at one input. -/
def zoneReadsWrong : ChangeSpec := { name := "zoneReads", fn := fun _ => fun
  | [d1, d2] => { results := [.lit (.bool false)], args := [d1, d2] }
  | _ => none }
def ZoneReadsWrongFalsely : Prop := zoneReadsRow.holds Try.pinned (OpenSpec.ofChange zoneReadsWrong)

/-- 'coaminglaw10.ZoneDurable': WHATEVER THE INPUT: true; the input reads as it did. -/
def zoneDurableSpec : ChangeSpec := { name := "zoneDurable", fn := fun _ => fun
  | [d1, d2, d3] => { results := [.lit (.bool true)], args := [d1, d2, d3] }
  | _ => none }
def zoneDurableRow : OpenClaim := { program := "ytmkjglnggkkpeaa", sum := "83decb96de74bae7e7d7851bda5e3b86823a74fcb95df8e19ece635260113e7a", func := "coaming/coaminglaw10.ZoneDurable", spec := "zoneDurable", unfollowed := true, recurses := true, apart := false }
def ZoneDurableSaid : Prop := zoneDurableRow.holds Try.pinned (OpenSpec.ofChange zoneDurableSpec)

/-- ITS FALSE NEIGHBOUR: 'it returns false'. Refute it at one input. -/
def zoneDurableWrong : ChangeSpec := { name := "zoneDurable", fn := fun _ => fun
  | [d1, d2, d3] => { results := [.lit (.bool false)], args := [d1, d2, d3] }
  | _ => none }
def ZoneDurableWrongFalsely : Prop := zoneDurableRow.holds Try.pinned (OpenSpec.ofChange zoneDurableWrong)

/-- 'coaminglaw10.ZoneOwn': WHATEVER THE INPUT: true; the input reads as it did. -/
def zoneOwnSpec : ChangeSpec := { name := "zoneOwn", fn := fun _ => fun
  | [d1, d2] => { results := [.lit (.bool true)], args := [d1, d2] }
  | _ => none }
def zoneOwnRow : OpenClaim := { program := "ytmkjglnggkkpeaa", sum := "83decb96de74bae7e7d7851bda5e3b86823a74fcb95df8e19ece635260113e7a", func := "coaming/coaminglaw10.ZoneOwn", spec := "zoneOwn", unfollowed := true, recurses := true, apart := false }
def ZoneOwnSaid : Prop := zoneOwnRow.holds Try.pinned (OpenSpec.ofChange zoneOwnSpec)

/-- ITS FALSE NEIGHBOUR: 'it returns false'. Refute it at one input. -/
def zoneOwnWrong : ChangeSpec := { name := "zoneOwn", fn := fun _ => fun
  | [d1, d2] => { results := [.lit (.bool false)], args := [d1, d2] }
  | _ => none }
def ZoneOwnWrongFalsely : Prop := zoneOwnRow.holds Try.pinned (OpenSpec.ofChange zoneOwnWrong)

/-- 'coaminglaw10.ZoneDoes': WHATEVER THE INPUT: true; the input reads as it did. -/
def zoneDoesSpec : ChangeSpec := { name := "zoneDoes", fn := fun _ => fun
  | [d1, d2] => { results := [.lit (.bool true)], args := [d1, d2] }
  | _ => none }
def zoneDoesRow : OpenClaim := { program := "ytmkjglnggkkpeaa", sum := "83decb96de74bae7e7d7851bda5e3b86823a74fcb95df8e19ece635260113e7a", func := "coaming/coaminglaw10.ZoneDoes", spec := "zoneDoes", unfollowed := true, recurses := true, apart := false }
def ZoneDoesSaid : Prop := zoneDoesRow.holds Try.pinned (OpenSpec.ofChange zoneDoesSpec)

/-- ITS FALSE NEIGHBOUR: 'it returns false'. Refute it at one input. -/
def zoneDoesWrong : ChangeSpec := { name := "zoneDoes", fn := fun _ => fun
  | [d1, d2] => { results := [.lit (.bool false)], args := [d1, d2] }
  | _ => none }
def ZoneDoesWrongFalsely : Prop := zoneDoesRow.holds Try.pinned (OpenSpec.ofChange zoneDoesWrong)

/-- 'coaminglaw10.ZoneRight': WHATEVER THE INPUT: true; the input reads as it did. -/
def zoneRightSpec : ChangeSpec := { name := "zoneRight", fn := fun _ => fun
  | [d] => { results := [.lit (.bool true)], args := [d] }
  | _ => none }
def zoneRightRow : OpenClaim := { program := "ytmkjglnggkkpeaa", sum := "83decb96de74bae7e7d7851bda5e3b86823a74fcb95df8e19ece635260113e7a", func := "coaming/coaminglaw10.ZoneRight", spec := "zoneRight", unfollowed := true, recurses := true, apart := false }
def ZoneRightSaid : Prop := zoneRightRow.holds Try.pinned (OpenSpec.ofChange zoneRightSpec)

/-- ITS FALSE NEIGHBOUR: 'it returns false'. Refute it at one input. -/
def zoneRightWrong : ChangeSpec := { name := "zoneRight", fn := fun _ => fun
  | [d] => { results := [.lit (.bool false)], args := [d] }
  | _ => none }
def ZoneRightWrongFalsely : Prop := zoneRightRow.holds Try.pinned (OpenSpec.ofChange zoneRightWrong)

/-- 'coaminglaw10.ZoneOpens': WHATEVER THE INPUT: true; the input reads as it did. -/
def zoneOpensSpec : ChangeSpec := { name := "zoneOpens", fn := fun _ => fun
  | [d1, d2] => { results := [.lit (.bool true)], args := [d1, d2] }
  | _ => none }
def zoneOpensRow : OpenClaim := { program := "ytmkjglnggkkpeaa", sum := "83decb96de74bae7e7d7851bda5e3b86823a74fcb95df8e19ece635260113e7a", func := "coaming/coaminglaw10.ZoneOpens", spec := "zoneOpens", unfollowed := true, recurses := true, apart := false }
def ZoneOpensSaid : Prop := zoneOpensRow.holds Try.pinned (OpenSpec.ofChange zoneOpensSpec)

/-- ITS FALSE NEIGHBOUR: 'it returns false'. Refute it at one input. -/
def zoneOpensWrong : ChangeSpec := { name := "zoneOpens", fn := fun _ => fun
  | [d1, d2] => { results := [.lit (.bool false)], args := [d1, d2] }
  | _ => none }
def ZoneOpensWrongFalsely : Prop := zoneOpensRow.holds Try.pinned (OpenSpec.ofChange zoneOpensWrong)

/-- 'coaminglaw10.ZoneTwice': WHATEVER THE INPUT: true; the input reads as it did. -/
def zoneTwiceSpec : ChangeSpec := { name := "zoneTwice", fn := fun _ => fun
  | [d1, d2, d3, d4] => { results := [.lit (.bool true)], args := [d1, d2, d3, d4] }
  | _ => none }
def zoneTwiceRow : OpenClaim := { program := "ytmkjglnggkkpeaa", sum := "83decb96de74bae7e7d7851bda5e3b86823a74fcb95df8e19ece635260113e7a", func := "coaming/coaminglaw10.ZoneTwice", spec := "zoneTwice", unfollowed := true, recurses := true, apart := false }
def ZoneTwiceSaid : Prop := zoneTwiceRow.holds Try.pinned (OpenSpec.ofChange zoneTwiceSpec)

/-- ITS FALSE NEIGHBOUR: 'it returns false'. Refute it at one input. -/
def zoneTwiceWrong : ChangeSpec := { name := "zoneTwice", fn := fun _ => fun
  | [d1, d2, d3, d4] => { results := [.lit (.bool false)], args := [d1, d2, d3, d4] }
  | _ => none }
def ZoneTwiceWrongFalsely : Prop := zoneTwiceRow.holds Try.pinned (OpenSpec.ofChange zoneTwiceWrong)

/- THE SECOND FORM. 'bulk': how many values and letters a reading holds, each counted each time it is reached (what is shared counts as often as it is met; a slice's spare places count too). A statement '..UptoSaid' is the law's where the arguments, and the package variables that the reading takes, are together of bulk at most 1048576: NARROWER than '..Said'. Prove '..Said' where nothing that the law and all that it calls make is longer than what came in: it says more and counts as full. Else prove '..UptoSaid'. A law counts once. -/
mutual
def uptoBulk {H : Type} : DataW H → Nat
  | .lit (.string bytes) => bytes.length + 1
  | .lit _ => 1
  | .nil => 1
  | .ptr d => uptoBulk d + 1
  | .slice elems spare => uptoBulkAll elems + uptoBulkAll spare + 1
  | .agg parts => uptoBulkAll parts + 1
  | .iface _ d => uptoBulk d + 1
  | .map entries => uptoBulkEntries entries + 1
  | .held _ => 1
def uptoBulkAll {H : Type} : List (DataW H) → Nat
  | [] => 0
  | d :: r => uptoBulk d + uptoBulkAll r
def uptoBulkEntries {H : Type} : List (Lit × DataW H) → Nat
  | [] => 0
  | x :: r => uptoBulkEntry x + uptoBulkEntries r
def uptoBulkEntry {H : Type} : Lit × DataW H → Nat
  | (.string bytes, d) => bytes.length + uptoBulk d + 1
  | (_, d) => uptoBulk d + 1
 end
def uptoSmall : (H : Type) → List (DataW H) → Bool := fun _ ds => decide (uptoBulkAll ds ≤ 1048576)
def OpenSpec.upto (s : _root_.Go.ChangeSpec) : _root_.Go.OpenSpec := { _root_.Go.OpenSpec.ofChange s with cond := some uptoSmall }

/-- 'coaminglaw10.ZoneReads', WHERE WHAT IT READS IS OF BULK AT MOST 1048576: true; the input reads as it did. -/
def zoneReadsUptoRow : OpenClaim := { program := "ytmkjglnggkkpeaa", sum := "83decb96de74bae7e7d7851bda5e3b86823a74fcb95df8e19ece635260113e7a", func := "coaming/coaminglaw10.ZoneReads", spec := "zoneReads", apart := false, narrowed := true }
def ZoneReadsUptoSaid : Prop := zoneReadsUptoRow.holds Try.pinned (OpenSpec.upto zoneReadsSpec)

/-- 'coaminglaw10.ZoneDurable', WHERE WHAT IT READS IS OF BULK AT MOST 1048576: true; the input reads as it did. -/
def zoneDurableUptoRow : OpenClaim := { program := "ytmkjglnggkkpeaa", sum := "83decb96de74bae7e7d7851bda5e3b86823a74fcb95df8e19ece635260113e7a", func := "coaming/coaminglaw10.ZoneDurable", spec := "zoneDurable", unfollowed := true, recurses := true, apart := false, narrowed := true }
def ZoneDurableUptoSaid : Prop := zoneDurableUptoRow.holds Try.pinned (OpenSpec.upto zoneDurableSpec)

/-- 'coaminglaw10.ZoneOwn', WHERE WHAT IT READS IS OF BULK AT MOST 1048576: true; the input reads as it did. -/
def zoneOwnUptoRow : OpenClaim := { program := "ytmkjglnggkkpeaa", sum := "83decb96de74bae7e7d7851bda5e3b86823a74fcb95df8e19ece635260113e7a", func := "coaming/coaminglaw10.ZoneOwn", spec := "zoneOwn", unfollowed := true, recurses := true, apart := false, narrowed := true }
def ZoneOwnUptoSaid : Prop := zoneOwnUptoRow.holds Try.pinned (OpenSpec.upto zoneOwnSpec)

/-- 'coaminglaw10.ZoneDoes', WHERE WHAT IT READS IS OF BULK AT MOST 1048576: true; the input reads as it did. -/
def zoneDoesUptoRow : OpenClaim := { program := "ytmkjglnggkkpeaa", sum := "83decb96de74bae7e7d7851bda5e3b86823a74fcb95df8e19ece635260113e7a", func := "coaming/coaminglaw10.ZoneDoes", spec := "zoneDoes", unfollowed := true, recurses := true, apart := false, narrowed := true }
def ZoneDoesUptoSaid : Prop := zoneDoesUptoRow.holds Try.pinned (OpenSpec.upto zoneDoesSpec)

/-- 'coaminglaw10.ZoneRight', WHERE WHAT IT READS IS OF BULK AT MOST 1048576: true; the input reads as it did. -/
def zoneRightUptoRow : OpenClaim := { program := "ytmkjglnggkkpeaa", sum := "83decb96de74bae7e7d7851bda5e3b86823a74fcb95df8e19ece635260113e7a", func := "coaming/coaminglaw10.ZoneRight", spec := "zoneRight", unfollowed := true, recurses := true, apart := false, narrowed := true }
def ZoneRightUptoSaid : Prop := zoneRightUptoRow.holds Try.pinned (OpenSpec.upto zoneRightSpec)

/-- 'coaminglaw10.ZoneOpens', WHERE WHAT IT READS IS OF BULK AT MOST 1048576: true; the input reads as it did. -/
def zoneOpensUptoRow : OpenClaim := { program := "ytmkjglnggkkpeaa", sum := "83decb96de74bae7e7d7851bda5e3b86823a74fcb95df8e19ece635260113e7a", func := "coaming/coaminglaw10.ZoneOpens", spec := "zoneOpens", unfollowed := true, recurses := true, apart := false, narrowed := true }
def ZoneOpensUptoSaid : Prop := zoneOpensUptoRow.holds Try.pinned (OpenSpec.upto zoneOpensSpec)

/-- 'coaminglaw10.ZoneTwice', WHERE WHAT IT READS IS OF BULK AT MOST 1048576: true; the input reads as it did. -/
def zoneTwiceUptoRow : OpenClaim := { program := "ytmkjglnggkkpeaa", sum := "83decb96de74bae7e7d7851bda5e3b86823a74fcb95df8e19ece635260113e7a", func := "coaming/coaminglaw10.ZoneTwice", spec := "zoneTwice", unfollowed := true, recurses := true, apart := false, narrowed := true }
def ZoneTwiceUptoSaid : Prop := zoneTwiceUptoRow.holds Try.pinned (OpenSpec.upto zoneTwiceSpec)

end Rows
end Go.Proofs.Ytmkjglnggkkpeaa
