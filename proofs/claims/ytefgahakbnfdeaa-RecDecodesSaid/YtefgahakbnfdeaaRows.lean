/-
  No cell of these rows narrows 'for every input' (looked for: loops, veiled, ifaces, maps, wideKeys, modest, calm, conditions, laid).
  DERIVED. THE GIVEN ROWS OF THIS SEAT. 6 by the template 'for every input the law returns true; each argument reads behind the call as it read before'; 0 by the template 'total and deterministic' (their statements: YtefgahakbnfdeaaTotals.lean).
  GIVEN WITH THE SEED: the statements are not yours to turn. If you find one false, say at which input.
  Laid BY PROGRAM, IN A SANDBOX (cutbox-rows.mjs): the forced cells as the released guide's own fill.sh prints them over the translation e59a0b7b9022f958… (all of the seat's roots in one cut). By AI agents, Wed Nov 11 2026. No macro, syntax, notation, axiom, sorry.
-/
import Derived.Test.YtefgahakbnfdeaaChecked
import GoSem.Claim
import GoSem.ClaimJoined
import GoSem.ClaimMapViews
import Derived.JoinedTies
import Derived.KernelRfl
namespace Go.Proofs.Ytefgahakbnfdeaa
/- THE CELL 'sum', in the pinned program and in every row, IS THE sha256 OF THE DUMP (.gsa) THAT YtefgahakbnfdeaaProg.lean LOADS. Nothing in Lean hashes anything: it is a label: what it is worth is what the hold of that sum in a sandbox is worth. -/
noncomputable def Try.pinned : Pinned := { name := "ytefgahakbnfdeaa", sum := "e59a0b7b9022f95892b9c3b743156695f2e493914a605de035c7d99d03bae2d4", checked := Try.checked }
namespace Rows
def none {H : Type} : Left H := { results := [], args := [] }

/-- 'coaminglaw11.RecEncodes': WHATEVER THE INPUT: true; the input reads as it did. -/
def recEncodesSpec : ChangeSpec := { name := "recEncodes", fn := fun _ => fun
  | [d1, d2] => { results := [.lit (.bool true)], args := [d1, d2] }
  | _ => none }
def recEncodesRow : OpenClaim := { program := "ytefgahakbnfdeaa", sum := "e59a0b7b9022f95892b9c3b743156695f2e493914a605de035c7d99d03bae2d4", func := "coaming/coaminglaw11.RecEncodes", spec := "recEncodes", unfollowed := true, recurses := true, apart := false }
def RecEncodesSaid : Prop := recEncodesRow.holds Try.pinned (OpenSpec.ofChange recEncodesSpec)

/-- ITS FALSE NEIGHBOUR: 'it returns false'. Refute it at one input. -/
def recEncodesWrong : ChangeSpec := { name := "recEncodes", fn := fun _ => fun
  | [d1, d2] => { results := [.lit (.bool false)], args := [d1, d2] }
  | _ => none }
def RecEncodesWrongFalsely : Prop := recEncodesRow.holds Try.pinned (OpenSpec.ofChange recEncodesWrong)

/-- 'coaminglaw11.RecDecodes': WHATEVER THE INPUT: true; the input reads as it did. -/
def recDecodesSpec : ChangeSpec := { name := "recDecodes", fn := fun _ => fun
  | [d] => { results := [.lit (.bool true)], args := [d] }
  | _ => none }
def recDecodesRow : OpenClaim := { program := "ytefgahakbnfdeaa", sum := "e59a0b7b9022f95892b9c3b743156695f2e493914a605de035c7d99d03bae2d4", func := "coaming/coaminglaw11.RecDecodes", spec := "recDecodes", unfollowed := true, recurses := true, apart := false }
def RecDecodesSaid : Prop := recDecodesRow.holds Try.pinned (OpenSpec.ofChange recDecodesSpec)

/-- ITS FALSE NEIGHBOUR: 'it returns false'. Refute it at one input. -/
def recDecodesWrong : ChangeSpec := { name := "recDecodes", fn := fun _ => fun
  | [d] => { results := [.lit (.bool false)], args := [d] }
  | _ => none }
def RecDecodesWrongFalsely : Prop := recDecodesRow.holds Try.pinned (OpenSpec.ofChange recDecodesWrong)

/-- 'coaminglaw11.RecBack': WHATEVER THE INPUT: true; the input reads as it did. -/
def recBackSpec : ChangeSpec := { name := "recBack", fn := fun _ => fun
  | [d1, d2, d3, d4] => { results := [.lit (.bool true)], args := [d1, d2, d3, d4] }
  | _ => none }
def recBackRow : OpenClaim := { program := "ytefgahakbnfdeaa", sum := "e59a0b7b9022f95892b9c3b743156695f2e493914a605de035c7d99d03bae2d4", func := "coaming/coaminglaw11.RecBack", spec := "recBack", unfollowed := true, recurses := true, apart := false }
def RecBackSaid : Prop := recBackRow.holds Try.pinned (OpenSpec.ofChange recBackSpec)

/-- ITS FALSE NEIGHBOUR: 'it returns false'. Refute it at one input. -/
def recBackWrong : ChangeSpec := { name := "recBack", fn := fun _ => fun
  | [d1, d2, d3, d4] => { results := [.lit (.bool false)], args := [d1, d2, d3, d4] }
  | _ => none }
def RecBackWrongFalsely : Prop := recBackRow.holds Try.pinned (OpenSpec.ofChange recBackWrong)

/-- 'coaminglaw11.RecOne': WHATEVER THE INPUT: true; the input reads as it did. -/
def recOneSpec : ChangeSpec := { name := "recOne", fn := fun _ => fun
  | [d] => { results := [.lit (.bool true)], args := [d] }
  | _ => none }
def recOneRow : OpenClaim := { program := "ytefgahakbnfdeaa", sum := "e59a0b7b9022f95892b9c3b743156695f2e493914a605de035c7d99d03bae2d4", func := "coaming/coaminglaw11.RecOne", spec := "recOne", unfollowed := true, recurses := true, apart := false }
def RecOneSaid : Prop := recOneRow.holds Try.pinned (OpenSpec.ofChange recOneSpec)

/-- ITS FALSE NEIGHBOUR: 'it returns false'. Refute it at one input. -/
def recOneWrong : ChangeSpec := { name := "recOne", fn := fun _ => fun
  | [d] => { results := [.lit (.bool false)], args := [d] }
  | _ => none }
def RecOneWrongFalsely : Prop := recOneRow.holds Try.pinned (OpenSpec.ofChange recOneWrong)

/-- 'coaminglaw11.RecRooms': WHATEVER THE INPUT: true; the input reads as it did. -/
def recRoomsSpec : ChangeSpec := { name := "recRooms", fn := fun _ => fun
  | [d1, d2, d3] => { results := [.lit (.bool true)], args := [d1, d2, d3] }
  | _ => none }
def recRoomsRow : OpenClaim := { program := "ytefgahakbnfdeaa", sum := "e59a0b7b9022f95892b9c3b743156695f2e493914a605de035c7d99d03bae2d4", func := "coaming/coaminglaw11.RecRooms", spec := "recRooms", unfollowed := true, recurses := true, apart := false }
def RecRoomsSaid : Prop := recRoomsRow.holds Try.pinned (OpenSpec.ofChange recRoomsSpec)

/-- ITS FALSE NEIGHBOUR: 'it returns false'. Refute it at one input. -/
def recRoomsWrong : ChangeSpec := { name := "recRooms", fn := fun _ => fun
  | [d1, d2, d3] => { results := [.lit (.bool false)], args := [d1, d2, d3] }
  | _ => none }
def RecRoomsWrongFalsely : Prop := recRoomsRow.holds Try.pinned (OpenSpec.ofChange recRoomsWrong)

/-- 'coaminglaw11.RecNoughts': WHATEVER THE INPUT: true; the input reads as it did. -/
def recNoughtsSpec : ChangeSpec := { name := "recNoughts", fn := fun _ => fun
  | [d1, d2] => { results := [.lit (.bool true)], args := [d1, d2] }
  | _ => none }
def recNoughtsRow : OpenClaim := { program := "ytefgahakbnfdeaa", sum := "e59a0b7b9022f95892b9c3b743156695f2e493914a605de035c7d99d03bae2d4", func := "coaming/coaminglaw11.RecNoughts", spec := "recNoughts", unfollowed := true, recurses := true, apart := false }
def RecNoughtsSaid : Prop := recNoughtsRow.holds Try.pinned (OpenSpec.ofChange recNoughtsSpec)

/-- ITS FALSE NEIGHBOUR: 'it returns false'. Refute it at one input. -/
def recNoughtsWrong : ChangeSpec := { name := "recNoughts", fn := fun _ => fun
  | [d1, d2] => { results := [.lit (.bool false)], args := [d1, d2] }
  | _ => none }
def RecNoughtsWrongFalsely : Prop := recNoughtsRow.holds Try.pinned (OpenSpec.ofChange recNoughtsWrong)

/- THE SECOND FORM. 'bulk': how many values and letters a reading holds, each counted each time it is reached (what is shared counts as often as it is met; a slice's spare places count too). A statement '..UptoSaid' is the law's where the arguments, and the package variables that the reading takes, are together of bulk at most 1048576: NARROWER than '..Said'. Prove '..Said' where nothing that the law and all that it calls make is longer than what came in: it says more and counts as full. Else prove '..UptoSaid'. A law counts once. -/
mutual
def uptoBulk {H : Type} : DataW H → Nat
  | .lit (.string bytes) => bytes.length + 1
  | .lit _ => 1
  | .nil => 1
  | .ptr d => uptoBulk d + 1
  | .slice elems spare => uptoBulkAll elems + uptoBulkAll spare + 1
  | .agg parts => uptoBulkAll parts + 1
  | .iface _ d => uptoBulk d + 1
  | .map entries => uptoBulkEntries entries + 1
  | .held _ => 1
def uptoBulkAll {H : Type} : List (DataW H) → Nat
  | [] => 0
  | d :: r => uptoBulk d + uptoBulkAll r
def uptoBulkEntries {H : Type} : List (Lit × DataW H) → Nat
  | [] => 0
  | x :: r => uptoBulkEntry x + uptoBulkEntries r
def uptoBulkEntry {H : Type} : Lit × DataW H → Nat
  | (.string bytes, d) => bytes.length + uptoBulk d + 1
  | (_, d) => uptoBulk d + 1
 end
def uptoSmall : (H : Type) → List (DataW H) → Bool := fun _ ds => decide (uptoBulkAll ds ≤ 1048576)
def OpenSpec.upto (s : _root_.Go.ChangeSpec) : _root_.Go.OpenSpec := { _root_.Go.OpenSpec.ofChange s with cond := some uptoSmall }

/-- 'coaminglaw11.RecEncodes', WHERE WHAT IT READS IS OF BULK AT MOST 1048576: true; the input reads as it did. -/
def recEncodesUptoRow : OpenClaim := { program := "ytefgahakbnfdeaa", sum := "e59a0b7b9022f95892b9c3b743156695f2e493914a605de035c7d99d03bae2d4", func := "coaming/coaminglaw11.RecEncodes", spec := "recEncodes", unfollowed := true, recurses := true, apart := false, narrowed := true }
def RecEncodesUptoSaid : Prop := recEncodesUptoRow.holds Try.pinned (OpenSpec.upto recEncodesSpec)

/-- 'coaminglaw11.RecDecodes', WHERE WHAT IT READS IS OF BULK AT MOST 1048576: true; the input reads as it did. -/
def recDecodesUptoRow : OpenClaim := { program := "ytefgahakbnfdeaa", sum := "e59a0b7b9022f95892b9c3b743156695f2e493914a605de035c7d99d03bae2d4", func := "coaming/coaminglaw11.RecDecodes", spec := "recDecodes", unfollowed := true, recurses := true, apart := false, narrowed := true }
def RecDecodesUptoSaid : Prop := recDecodesUptoRow.holds Try.pinned (OpenSpec.upto recDecodesSpec)

/-- 'coaminglaw11.RecBack', WHERE WHAT IT READS IS OF BULK AT MOST 1048576: true; the input reads as it did. -/
def recBackUptoRow : OpenClaim := { program := "ytefgahakbnfdeaa", sum := "e59a0b7b9022f95892b9c3b743156695f2e493914a605de035c7d99d03bae2d4", func := "coaming/coaminglaw11.RecBack", spec := "recBack", unfollowed := true, recurses := true, apart := false, narrowed := true }
def RecBackUptoSaid : Prop := recBackUptoRow.holds Try.pinned (OpenSpec.upto recBackSpec)

/-- 'coaminglaw11.RecOne', WHERE WHAT IT READS IS OF BULK AT MOST 1048576: true; the input reads as it did. -/
def recOneUptoRow : OpenClaim := { program := "ytefgahakbnfdeaa", sum := "e59a0b7b9022f95892b9c3b743156695f2e493914a605de035c7d99d03bae2d4", func := "coaming/coaminglaw11.RecOne", spec := "recOne", unfollowed := true, recurses := true, apart := false, narrowed := true }
def RecOneUptoSaid : Prop := recOneUptoRow.holds Try.pinned (OpenSpec.upto recOneSpec)

/-- 'coaminglaw11.RecRooms', WHERE WHAT IT READS IS OF BULK AT MOST 1048576: true; the input reads as it did. -/
def recRoomsUptoRow : OpenClaim := { program := "ytefgahakbnfdeaa", sum := "e59a0b7b9022f95892b9c3b743156695f2e493914a605de035c7d99d03bae2d4", func := "coaming/coaminglaw11.RecRooms", spec := "recRooms", unfollowed := true, recurses := true, apart := false, narrowed := true }
def RecRoomsUptoSaid : Prop := recRoomsUptoRow.holds Try.pinned (OpenSpec.upto recRoomsSpec)

/-- 'coaminglaw11.RecNoughts', WHERE WHAT IT READS IS OF BULK AT MOST 1048576: true; the input reads as it did. -/
def recNoughtsUptoRow : OpenClaim := { program := "ytefgahakbnfdeaa", sum := "e59a0b7b9022f95892b9c3b743156695f2e493914a605de035c7d99d03bae2d4", func := "coaming/coaminglaw11.RecNoughts", spec := "recNoughts", unfollowed := true, recurses := true, apart := false, narrowed := true }
def RecNoughtsUptoSaid : Prop := recNoughtsUptoRow.holds Try.pinned (OpenSpec.upto recNoughtsSpec)

end Rows
end Go.Proofs.Ytefgahakbnfdeaa
