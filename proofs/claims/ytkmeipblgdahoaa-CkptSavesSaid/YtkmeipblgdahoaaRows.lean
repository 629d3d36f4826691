/-
  No cell of these rows narrows 'for every input' (looked for: loops, veiled, ifaces, maps, wideKeys, modest, calm, conditions, laid).
  DERIVED. THE GIVEN ROWS OF THIS SEAT. 7 by the template 'for every input the law returns true; each argument reads behind the call as it read before'; 0 by the template 'total and deterministic' (their statements: YtkmeipblgdahoaaTotals.lean).
  GIVEN WITH THE SEED: the statements are not yours to turn. If you find one false, say at which input.
  Laid BY PROGRAM, IN A SANDBOX (cutbox-rows.mjs): the forced cells as the released guide's own fill.sh prints them over the translation bc88502a35cd5fc9… (all of the seat's roots in one cut). By AI agents, Wed Nov 11 2026. No macro, syntax, notation, axiom, sorry.
-/
import Derived.Test.YtkmeipblgdahoaaChecked
import GoSem.Claim
import GoSem.ClaimJoined
import GoSem.ClaimMapViews
import Derived.JoinedTies
import Derived.KernelRfl
namespace Go.Proofs.Ytkmeipblgdahoaa
/- THE CELL 'sum', in the pinned program and in every row, IS THE sha256 OF THE DUMP (.gsa) THAT YtkmeipblgdahoaaProg.lean LOADS. Nothing in Lean hashes anything: it is a label: what it is worth is what the hold of that sum in a sandbox is worth. -/
noncomputable def Try.pinned : Pinned := { name := "ytkmeipblgdahoaa", sum := "bc88502a35cd5fc90dc23b2a762921866b8556f0238e037803fa3de04551a19c", checked := Try.checked }
namespace Rows
def none {H : Type} : Left H := { results := [], args := [] }

/-- 'coaminglaw14.CkptEncodes': WHATEVER THE INPUT: true; the input reads as it did. -/
def ckptEncodesSpec : ChangeSpec := { name := "ckptEncodes", fn := fun _ => fun
  | [d1, d2] => { results := [.lit (.bool true)], args := [d1, d2] }
  | _ => none }
def ckptEncodesRow : OpenClaim := { program := "ytkmeipblgdahoaa", sum := "bc88502a35cd5fc90dc23b2a762921866b8556f0238e037803fa3de04551a19c", func := "coaming/coaminglaw14.CkptEncodes", spec := "ckptEncodes", unfollowed := true, recurses := true, apart := false }
def CkptEncodesSaid : Prop := ckptEncodesRow.holds Try.pinned (OpenSpec.ofChange ckptEncodesSpec)

/-- ITS FALSE NEIGHBOUR: 'it returns false'. Refute it at one input. -/
def ckptEncodesWrong : ChangeSpec := { name := "ckptEncodes", fn := fun _ => fun
  | [d1, d2] => { results := [.lit (.bool false)], args := [d1, d2] }
  | _ => none }
def CkptEncodesWrongFalsely : Prop := ckptEncodesRow.holds Try.pinned (OpenSpec.ofChange ckptEncodesWrong)

/-- 'coaminglaw14.CkptDecodes': WHATEVER THE INPUT: true; the input reads as it did. -/
def ckptDecodesSpec : ChangeSpec := { name := "ckptDecodes", fn := fun _ => fun
  | [d1, d2] => { results := [.lit (.bool true)], args := [d1, d2] }
  | _ => none }
def ckptDecodesRow : OpenClaim := { program := "ytkmeipblgdahoaa", sum := "bc88502a35cd5fc90dc23b2a762921866b8556f0238e037803fa3de04551a19c", func := "coaming/coaminglaw14.CkptDecodes", spec := "ckptDecodes", unfollowed := true, recurses := true, apart := false }
def CkptDecodesSaid : Prop := ckptDecodesRow.holds Try.pinned (OpenSpec.ofChange ckptDecodesSpec)

/-- ITS FALSE NEIGHBOUR: 'it returns false'. Refute it at one input. -/
def ckptDecodesWrong : ChangeSpec := { name := "ckptDecodes", fn := fun _ => fun
  | [d1, d2] => { results := [.lit (.bool false)], args := [d1, d2] }
  | _ => none }
def CkptDecodesWrongFalsely : Prop := ckptDecodesRow.holds Try.pinned (OpenSpec.ofChange ckptDecodesWrong)

/-- 'coaminglaw14.CkptBack': WHATEVER THE INPUT: true; the input reads as it did. -/
def ckptBackSpec : ChangeSpec := { name := "ckptBack", fn := fun _ => fun
  | [d1, d2, d3, d4] => { results := [.lit (.bool true)], args := [d1, d2, d3, d4] }
  | _ => none }
def ckptBackRow : OpenClaim := { program := "ytkmeipblgdahoaa", sum := "bc88502a35cd5fc90dc23b2a762921866b8556f0238e037803fa3de04551a19c", func := "coaming/coaminglaw14.CkptBack", spec := "ckptBack", unfollowed := true, recurses := true, apart := false }
def CkptBackSaid : Prop := ckptBackRow.holds Try.pinned (OpenSpec.ofChange ckptBackSpec)

/-- ITS FALSE NEIGHBOUR: 'it returns false'. Refute it at one input. -/
def ckptBackWrong : ChangeSpec := { name := "ckptBack", fn := fun _ => fun
  | [d1, d2, d3, d4] => { results := [.lit (.bool false)], args := [d1, d2, d3, d4] }
  | _ => none }
def CkptBackWrongFalsely : Prop := ckptBackRow.holds Try.pinned (OpenSpec.ofChange ckptBackWrong)

/-- 'coaminglaw14.CkptTurns': WHATEVER THE INPUT: true; the input reads as it did. -/
def ckptTurnsSpec : ChangeSpec := { name := "ckptTurns", fn := fun _ => fun
  | [d1, d2] => { results := [.lit (.bool true)], args := [d1, d2] }
  | _ => none }
def ckptTurnsRow : OpenClaim := { program := "ytkmeipblgdahoaa", sum := "bc88502a35cd5fc90dc23b2a762921866b8556f0238e037803fa3de04551a19c", func := "coaming/coaminglaw14.CkptTurns", spec := "ckptTurns", unfollowed := true, recurses := true, apart := false }
def CkptTurnsSaid : Prop := ckptTurnsRow.holds Try.pinned (OpenSpec.ofChange ckptTurnsSpec)

/-- ITS FALSE NEIGHBOUR: 'it returns false'. Refute it at one input. -/
def ckptTurnsWrong : ChangeSpec := { name := "ckptTurns", fn := fun _ => fun
  | [d1, d2] => { results := [.lit (.bool false)], args := [d1, d2] }
  | _ => none }
def CkptTurnsWrongFalsely : Prop := ckptTurnsRow.holds Try.pinned (OpenSpec.ofChange ckptTurnsWrong)

/-- 'coaminglaw14.CkptCrash': WHATEVER THE INPUT: true; the input reads as it did. -/
def ckptCrashSpec : ChangeSpec := { name := "ckptCrash", fn := fun _ => fun
  | [d1, d2, d3, d4, d5, d6] => { results := [.lit (.bool true)], args := [d1, d2, d3, d4, d5, d6] }
  | _ => none }
def ckptCrashRow : OpenClaim := { program := "ytkmeipblgdahoaa", sum := "bc88502a35cd5fc90dc23b2a762921866b8556f0238e037803fa3de04551a19c", func := "coaming/coaminglaw14.CkptCrash", spec := "ckptCrash", unfollowed := true, recurses := true, apart := false }
def CkptCrashSaid : Prop := ckptCrashRow.holds Try.pinned (OpenSpec.ofChange ckptCrashSpec)

/-- ITS FALSE NEIGHBOUR: 'it returns false'. Refute it at one input. -/
def ckptCrashWrong : ChangeSpec := { name := "ckptCrash", fn := fun _ => fun
  | [d1, d2, d3, d4, d5, d6] => { results := [.lit (.bool false)], args := [d1, d2, d3, d4, d5, d6] }
  | _ => none }
def CkptCrashWrongFalsely : Prop := ckptCrashRow.holds Try.pinned (OpenSpec.ofChange ckptCrashWrong)

/-- 'coaminglaw14.CkptSaves': WHATEVER THE INPUT: true; the input reads as it did. -/
def ckptSavesSpec : ChangeSpec := { name := "ckptSaves", fn := fun _ => fun
  | [d1, d2, d3, d4] => { results := [.lit (.bool true)], args := [d1, d2, d3, d4] }
  | _ => none }
def ckptSavesRow : OpenClaim := { program := "ytkmeipblgdahoaa", sum := "bc88502a35cd5fc90dc23b2a762921866b8556f0238e037803fa3de04551a19c", func := "coaming/coaminglaw14.CkptSaves", spec := "ckptSaves", unfollowed := true, recurses := true, apart := false }
def CkptSavesSaid : Prop := ckptSavesRow.holds Try.pinned (OpenSpec.ofChange ckptSavesSpec)

/-- ITS FALSE NEIGHBOUR: 'it returns false'. Refute it at one input. -/
def ckptSavesWrong : ChangeSpec := { name := "ckptSaves", fn := fun _ => fun
  | [d1, d2, d3, d4] => { results := [.lit (.bool false)], args := [d1, d2, d3, d4] }
  | _ => none }
def CkptSavesWrongFalsely : Prop := ckptSavesRow.holds Try.pinned (OpenSpec.ofChange ckptSavesWrong)

/-- 'coaminglaw14.CkptOther': WHATEVER THE INPUT: true; the input reads as it did. -/
def ckptOtherSpec : ChangeSpec := { name := "ckptOther", fn := fun _ => fun
  | [d1, d2, d3, d4] => { results := [.lit (.bool true)], args := [d1, d2, d3, d4] }
  | _ => none }
def ckptOtherRow : OpenClaim := { program := "ytkmeipblgdahoaa", sum := "bc88502a35cd5fc90dc23b2a762921866b8556f0238e037803fa3de04551a19c", func := "coaming/coaminglaw14.CkptOther", spec := "ckptOther", unfollowed := true, recurses := true, apart := false }
def CkptOtherSaid : Prop := ckptOtherRow.holds Try.pinned (OpenSpec.ofChange ckptOtherSpec)

/-- ITS FALSE NEIGHBOUR: 'it returns false'. Refute it at one input. -/
def ckptOtherWrong : ChangeSpec := { name := "ckptOther", fn := fun _ => fun
  | [d1, d2, d3, d4] => { results := [.lit (.bool false)], args := [d1, d2, d3, d4] }
  | _ => none }
def CkptOtherWrongFalsely : Prop := ckptOtherRow.holds Try.pinned (OpenSpec.ofChange ckptOtherWrong)

/- THE SECOND FORM. 'bulk': how many values and letters a reading holds, each counted each time it is reached (what is shared counts as often as it is met; a slice's spare places count too). A statement '..UptoSaid' is the law's where the arguments, and the package variables that the reading takes, are together of bulk at most 1048576: NARROWER than '..Said'. Prove '..Said' where nothing that the law and all that it calls make is longer than what came in: it says more and counts as full. Else prove '..UptoSaid'. A law counts once. -/
mutual
def uptoBulk {H : Type} : DataW H → Nat
  | .lit (.string bytes) => bytes.length + 1
  | .lit _ => 1
  | .nil => 1
  | .ptr d => uptoBulk d + 1
  | .slice elems spare => uptoBulkAll elems + uptoBulkAll spare + 1
  | .agg parts => uptoBulkAll parts + 1
  | .iface _ d => uptoBulk d + 1
  | .map entries => uptoBulkEntries entries + 1
  | .held _ => 1
def uptoBulkAll {H : Type} : List (DataW H) → Nat
  | [] => 0
  | d :: r => uptoBulk d + uptoBulkAll r
def uptoBulkEntries {H : Type} : List (Lit × DataW H) → Nat
  | [] => 0
  | x :: r => uptoBulkEntry x + uptoBulkEntries r
def uptoBulkEntry {H : Type} : Lit × DataW H → Nat
  | (.string bytes, d) => bytes.length + uptoBulk d + 1
  | (_, d) => uptoBulk d + 1
 end
def uptoSmall : (H : Type) → List (DataW H) → Bool := fun _ ds => decide (uptoBulkAll ds ≤ 1048576)
def OpenSpec.upto (s : _root_.Go.ChangeSpec) : _root_.Go.OpenSpec := { _root_.Go.OpenSpec.ofChange s with cond := some uptoSmall }

/-- 'coaminglaw14.CkptEncodes', WHERE WHAT IT READS IS OF BULK AT MOST 1048576: true; the input reads as it did. -/
def ckptEncodesUptoRow : OpenClaim := { program := "ytkmeipblgdahoaa", sum := "bc88502a35cd5fc90dc23b2a762921866b8556f0238e037803fa3de04551a19c", func := "coaming/coaminglaw14.CkptEncodes", spec := "ckptEncodes", unfollowed := true, recurses := true, apart := false, narrowed := true }
def CkptEncodesUptoSaid : Prop := ckptEncodesUptoRow.holds Try.pinned (OpenSpec.upto ckptEncodesSpec)

/-- 'coaminglaw14.CkptDecodes', WHERE WHAT IT READS IS OF BULK AT MOST 1048576: true; the input reads as it did. -/
def ckptDecodesUptoRow : OpenClaim := { program := "ytkmeipblgdahoaa", sum := "bc88502a35cd5fc90dc23b2a762921866b8556f0238e037803fa3de04551a19c", func := "coaming/coaminglaw14.CkptDecodes", spec := "ckptDecodes", unfollowed := true, recurses := true, apart := false, narrowed := true }
def CkptDecodesUptoSaid : Prop := ckptDecodesUptoRow.holds Try.pinned (OpenSpec.upto ckptDecodesSpec)

/-- 'coaminglaw14.CkptBack', WHERE WHAT IT READS IS OF BULK AT MOST 1048576: true; the input reads as it did. -/
def ckptBackUptoRow : OpenClaim := { program := "ytkmeipblgdahoaa", sum := "bc88502a35cd5fc90dc23b2a762921866b8556f0238e037803fa3de04551a19c", func := "coaming/coaminglaw14.CkptBack", spec := "ckptBack", unfollowed := true, recurses := true, apart := false, narrowed := true }
def CkptBackUptoSaid : Prop := ckptBackUptoRow.holds Try.pinned (OpenSpec.upto ckptBackSpec)

/-- 'coaminglaw14.CkptTurns', WHERE WHAT IT READS IS OF BULK AT MOST 1048576: true; the input reads as it did. -/
def ckptTurnsUptoRow : OpenClaim := { program := "ytkmeipblgdahoaa", sum := "bc88502a35cd5fc90dc23b2a762921866b8556f0238e037803fa3de04551a19c", func := "coaming/coaminglaw14.CkptTurns", spec := "ckptTurns", unfollowed := true, recurses := true, apart := false, narrowed := true }
def CkptTurnsUptoSaid : Prop := ckptTurnsUptoRow.holds Try.pinned (OpenSpec.upto ckptTurnsSpec)

/-- 'coaminglaw14.CkptCrash', WHERE WHAT IT READS IS OF BULK AT MOST 1048576: true; the input reads as it did. -/
def ckptCrashUptoRow : OpenClaim := { program := "ytkmeipblgdahoaa", sum := "bc88502a35cd5fc90dc23b2a762921866b8556f0238e037803fa3de04551a19c", func := "coaming/coaminglaw14.CkptCrash", spec := "ckptCrash", unfollowed := true, recurses := true, apart := false, narrowed := true }
def CkptCrashUptoSaid : Prop := ckptCrashUptoRow.holds Try.pinned (OpenSpec.upto ckptCrashSpec)

/-- 'coaminglaw14.CkptSaves', WHERE WHAT IT READS IS OF BULK AT MOST 1048576: true; the input reads as it did. -/
def ckptSavesUptoRow : OpenClaim := { program := "ytkmeipblgdahoaa", sum := "bc88502a35cd5fc90dc23b2a762921866b8556f0238e037803fa3de04551a19c", func := "coaming/coaminglaw14.CkptSaves", spec := "ckptSaves", unfollowed := true, recurses := true, apart := false, narrowed := true }
def CkptSavesUptoSaid : Prop := ckptSavesUptoRow.holds Try.pinned (OpenSpec.upto ckptSavesSpec)

/-- 'coaminglaw14.CkptOther', WHERE WHAT IT READS IS OF BULK AT MOST 1048576: true; the input reads as it did. -/
def ckptOtherUptoRow : OpenClaim := { program := "ytkmeipblgdahoaa", sum := "bc88502a35cd5fc90dc23b2a762921866b8556f0238e037803fa3de04551a19c", func := "coaming/coaminglaw14.CkptOther", spec := "ckptOther", unfollowed := true, recurses := true, apart := false, narrowed := true }
def CkptOtherUptoSaid : Prop := ckptOtherUptoRow.holds Try.pinned (OpenSpec.upto ckptOtherSpec)

end Rows
end Go.Proofs.Ytkmeipblgdahoaa
