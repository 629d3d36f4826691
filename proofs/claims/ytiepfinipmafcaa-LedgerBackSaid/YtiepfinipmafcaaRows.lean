/-
  No cell of these rows narrows 'for every input' (looked for: loops, veiled, ifaces, maps, wideKeys, modest, calm, conditions, laid).
  DERIVED. THE GIVEN ROWS OF THIS SEAT. 6 by the template 'for every input the law returns true; each argument reads behind the call as it read before'; 0 by the template 'total and deterministic' (their statements: YtiepfinipmafcaaTotals.lean).
  GIVEN WITH THE SEED: the statements are not yours to turn. If you find one false, say at which input.
  Laid BY PROGRAM, IN A SANDBOX (cutbox-rows.mjs): the forced cells as the released guide's own fill.sh prints them over the translation a1d9590695ed0af9… (all of the seat's roots in one cut). By AI agents, Wed Nov 11 2026. No macro, syntax, notation, axiom, sorry.
-/
import Derived.Test.YtiepfinipmafcaaChecked
import GoSem.Claim
import GoSem.ClaimJoined
import GoSem.ClaimMapViews
import Derived.JoinedTies
import Derived.KernelRfl
namespace Go.Proofs.Ytiepfinipmafcaa
/- THE CELL 'sum', in the pinned program and in every row, IS THE sha256 OF THE DUMP (.gsa) THAT YtiepfinipmafcaaProg.lean LOADS. Nothing in Lean hashes anything: it is a label: what it is worth is what the hold of that sum in a sandbox is worth. -/
noncomputable def Try.pinned : Pinned := { name := "ytiepfinipmafcaa", sum := "a1d9590695ed0af945aaac9e183eb3e81347baf0c057c663e2be0abcfcd0e03b", checked := Try.checked }
namespace Rows
def none {H : Type} : Left H := { results := [], args := [] }

/-- 'coaminglaw15.LedgerApart': WHATEVER THE INPUT: true; the input reads as it did. -/
def ledgerApartSpec : ChangeSpec := { name := "ledgerApart", fn := fun _ => fun
  | [d1, d2, d3] => { results := [.lit (.bool true)], args := [d1, d2, d3] }
  | _ => none }
def ledgerApartRow : OpenClaim := { program := "ytiepfinipmafcaa", sum := "a1d9590695ed0af945aaac9e183eb3e81347baf0c057c663e2be0abcfcd0e03b", func := "coaming/coaminglaw15.LedgerApart", spec := "ledgerApart", apart := false }
def LedgerApartSaid : Prop := ledgerApartRow.holds Try.pinned (OpenSpec.ofChange ledgerApartSpec)

/-- ITS FALSE NEIGHBOUR: 'it returns false'. Refute it at one input. -/
def ledgerApartWrong : ChangeSpec := { name := "ledgerApart", fn := fun _ => fun
  | [d1, d2, d3] => { results := [.lit (.bool false)], args := [d1, d2, d3] }
  | _ => none }
def LedgerApartWrongFalsely : Prop := ledgerApartRow.holds Try.pinned (OpenSpec.ofChange ledgerApartWrong)

/-- 'coaminglaw15.LedgerBounds': WHATEVER THE INPUT: true; the input reads as it did. -/
def ledgerBoundsSpec : ChangeSpec := { name := "ledgerBounds", fn := fun _ => fun
  | [d1, d2] => { results := [.lit (.bool true)], args := [d1, d2] }
  | _ => none }
def ledgerBoundsRow : OpenClaim := { program := "ytiepfinipmafcaa", sum := "a1d9590695ed0af945aaac9e183eb3e81347baf0c057c663e2be0abcfcd0e03b", func := "coaming/coaminglaw15.LedgerBounds", spec := "ledgerBounds", apart := false }
def LedgerBoundsSaid : Prop := ledgerBoundsRow.holds Try.pinned (OpenSpec.ofChange ledgerBoundsSpec)

/-- ITS FALSE NEIGHBOUR: 'it returns false'. Refute it at one input. -/
def ledgerBoundsWrong : ChangeSpec := { name := "ledgerBounds", fn := fun _ => fun
  | [d1, d2] => { results := [.lit (.bool false)], args := [d1, d2] }
  | _ => none }
def LedgerBoundsWrongFalsely : Prop := ledgerBoundsRow.holds Try.pinned (OpenSpec.ofChange ledgerBoundsWrong)

/-- 'coaminglaw15.LedgerFits': WHATEVER THE INPUT: true; the input reads as it did. -/
def ledgerFitsSpec : ChangeSpec := { name := "ledgerFits", fn := fun _ => fun
  | [d1, d2] => { results := [.lit (.bool true)], args := [d1, d2] }
  | _ => none }
def ledgerFitsRow : OpenClaim := { program := "ytiepfinipmafcaa", sum := "a1d9590695ed0af945aaac9e183eb3e81347baf0c057c663e2be0abcfcd0e03b", func := "coaming/coaminglaw15.LedgerFits", spec := "ledgerFits", apart := false }
def LedgerFitsSaid : Prop := ledgerFitsRow.holds Try.pinned (OpenSpec.ofChange ledgerFitsSpec)

/-- ITS FALSE NEIGHBOUR: 'it returns false'. Refute it at one input. -/
def ledgerFitsWrong : ChangeSpec := { name := "ledgerFits", fn := fun _ => fun
  | [d1, d2] => { results := [.lit (.bool false)], args := [d1, d2] }
  | _ => none }
def LedgerFitsWrongFalsely : Prop := ledgerFitsRow.holds Try.pinned (OpenSpec.ofChange ledgerFitsWrong)

/-- 'coaminglaw15.LedgerRoom': WHATEVER THE INPUT: true; the input reads as it did. -/
def ledgerRoomSpec : ChangeSpec := { name := "ledgerRoom", fn := fun _ => fun
  | [d1, d2, d3] => { results := [.lit (.bool true)], args := [d1, d2, d3] }
  | _ => none }
def ledgerRoomRow : OpenClaim := { program := "ytiepfinipmafcaa", sum := "a1d9590695ed0af945aaac9e183eb3e81347baf0c057c663e2be0abcfcd0e03b", func := "coaming/coaminglaw15.LedgerRoom", spec := "ledgerRoom", apart := false }
def LedgerRoomSaid : Prop := ledgerRoomRow.holds Try.pinned (OpenSpec.ofChange ledgerRoomSpec)

/-- ITS FALSE NEIGHBOUR: 'it returns false'. Refute it at one input. -/
def ledgerRoomWrong : ChangeSpec := { name := "ledgerRoom", fn := fun _ => fun
  | [d1, d2, d3] => { results := [.lit (.bool false)], args := [d1, d2, d3] }
  | _ => none }
def LedgerRoomWrongFalsely : Prop := ledgerRoomRow.holds Try.pinned (OpenSpec.ofChange ledgerRoomWrong)

/-- 'coaminglaw15.LedgerBack': WHATEVER THE INPUT: true; the input reads as it did. -/
def ledgerBackSpec : ChangeSpec := { name := "ledgerBack", fn := fun _ => fun
  | [d1, d2, d3, d4] => { results := [.lit (.bool true)], args := [d1, d2, d3, d4] }
  | _ => none }
def ledgerBackRow : OpenClaim := { program := "ytiepfinipmafcaa", sum := "a1d9590695ed0af945aaac9e183eb3e81347baf0c057c663e2be0abcfcd0e03b", func := "coaming/coaminglaw15.LedgerBack", spec := "ledgerBack", unfollowed := true, recurses := true, apart := false }
def LedgerBackSaid : Prop := ledgerBackRow.holds Try.pinned (OpenSpec.ofChange ledgerBackSpec)

/-- ITS FALSE NEIGHBOUR: 'it returns false'. Refute it at one input. -/
def ledgerBackWrong : ChangeSpec := { name := "ledgerBack", fn := fun _ => fun
  | [d1, d2, d3, d4] => { results := [.lit (.bool false)], args := [d1, d2, d3, d4] }
  | _ => none }
def LedgerBackWrongFalsely : Prop := ledgerBackRow.holds Try.pinned (OpenSpec.ofChange ledgerBackWrong)

/-- 'coaminglaw15.LedgerDoes': WHATEVER THE INPUT: true; the input reads as it did. -/
def ledgerDoesSpec : ChangeSpec := { name := "ledgerDoes", fn := fun _ => fun
  | [d1, d2] => { results := [.lit (.bool true)], args := [d1, d2] }
  | _ => none }
def ledgerDoesRow : OpenClaim := { program := "ytiepfinipmafcaa", sum := "a1d9590695ed0af945aaac9e183eb3e81347baf0c057c663e2be0abcfcd0e03b", func := "coaming/coaminglaw15.LedgerDoes", spec := "ledgerDoes", unfollowed := true, recurses := true, apart := false }
def LedgerDoesSaid : Prop := ledgerDoesRow.holds Try.pinned (OpenSpec.ofChange ledgerDoesSpec)

/-- ITS FALSE NEIGHBOUR: 'it returns false'. Refute it at one input. -/
def ledgerDoesWrong : ChangeSpec := { name := "ledgerDoes", fn := fun _ => fun
  | [d1, d2] => { results := [.lit (.bool false)], args := [d1, d2] }
  | _ => none }
def LedgerDoesWrongFalsely : Prop := ledgerDoesRow.holds Try.pinned (OpenSpec.ofChange ledgerDoesWrong)

/- THE SECOND FORM. 'bulk': how many values and letters a reading holds, each counted each time it is reached (what is shared counts as often as it is met; a slice's spare places count too). A statement '..UptoSaid' is the law's where the arguments, and the package variables that the reading takes, are together of bulk at most 1048576: NARROWER than '..Said'. Prove '..Said' where nothing that the law and all that it calls make is longer than what came in: it says more and counts as full. Else prove '..UptoSaid'. A law counts once. -/
mutual
def uptoBulk {H : Type} : DataW H → Nat
  | .lit (.string bytes) => bytes.length + 1
  | .lit _ => 1
  | .nil => 1
  | .ptr d => uptoBulk d + 1
  | .slice elems spare => uptoBulkAll elems + uptoBulkAll spare + 1
  | .agg parts => uptoBulkAll parts + 1
  | .iface _ d => uptoBulk d + 1
  | .map entries => uptoBulkEntries entries + 1
  | .held _ => 1
def uptoBulkAll {H : Type} : List (DataW H) → Nat
  | [] => 0
  | d :: r => uptoBulk d + uptoBulkAll r
def uptoBulkEntries {H : Type} : List (Lit × DataW H) → Nat
  | [] => 0
  | x :: r => uptoBulkEntry x + uptoBulkEntries r
def uptoBulkEntry {H : Type} : Lit × DataW H → Nat
  | (.string bytes, d) => bytes.length + uptoBulk d + 1
  | (_, d) => uptoBulk d + 1
 end
def uptoSmall : (H : Type) → List (DataW H) → Bool := fun _ ds => decide (uptoBulkAll ds ≤ 1048576)
def OpenSpec.upto (s : _root_.Go.ChangeSpec) : _root_.Go.OpenSpec := { _root_.Go.OpenSpec.ofChange s with cond := some uptoSmall }

/-- 'coaminglaw15.LedgerApart', WHERE WHAT IT READS IS OF BULK AT MOST 1048576: true; the input reads as it did. -/
def ledgerApartUptoRow : OpenClaim := { program := "ytiepfinipmafcaa", sum := "a1d9590695ed0af945aaac9e183eb3e81347baf0c057c663e2be0abcfcd0e03b", func := "coaming/coaminglaw15.LedgerApart", spec := "ledgerApart", apart := false, narrowed := true }
def LedgerApartUptoSaid : Prop := ledgerApartUptoRow.holds Try.pinned (OpenSpec.upto ledgerApartSpec)

/-- 'coaminglaw15.LedgerBounds', WHERE WHAT IT READS IS OF BULK AT MOST 1048576: true; the input reads as it did. -/
def ledgerBoundsUptoRow : OpenClaim := { program := "ytiepfinipmafcaa", sum := "a1d9590695ed0af945aaac9e183eb3e81347baf0c057c663e2be0abcfcd0e03b", func := "coaming/coaminglaw15.LedgerBounds", spec := "ledgerBounds", apart := false, narrowed := true }
def LedgerBoundsUptoSaid : Prop := ledgerBoundsUptoRow.holds Try.pinned (OpenSpec.upto ledgerBoundsSpec)

/-- 'coaminglaw15.LedgerFits', WHERE WHAT IT READS IS OF BULK AT MOST 1048576: true; the input reads as it did. -/
def ledgerFitsUptoRow : OpenClaim := { program := "ytiepfinipmafcaa", sum := "a1d9590695ed0af945aaac9e183eb3e81347baf0c057c663e2be0abcfcd0e03b", func := "coaming/coaminglaw15.LedgerFits", spec := "ledgerFits", apart := false, narrowed := true }
def LedgerFitsUptoSaid : Prop := ledgerFitsUptoRow.holds Try.pinned (OpenSpec.upto ledgerFitsSpec)

/-- 'coaminglaw15.LedgerRoom', WHERE WHAT IT READS IS OF BULK AT MOST 1048576: true; the input reads as it did. -/
def ledgerRoomUptoRow : OpenClaim := { program := "ytiepfinipmafcaa", sum := "a1d9590695ed0af945aaac9e183eb3e81347baf0c057c663e2be0abcfcd0e03b", func := "coaming/coaminglaw15.LedgerRoom", spec := "ledgerRoom", apart := false, narrowed := true }
def LedgerRoomUptoSaid : Prop := ledgerRoomUptoRow.holds Try.pinned (OpenSpec.upto ledgerRoomSpec)

/-- 'coaminglaw15.LedgerBack', WHERE WHAT IT READS IS OF BULK AT MOST 1048576: true; the input reads as it did. -/
def ledgerBackUptoRow : OpenClaim := { program := "ytiepfinipmafcaa", sum := "a1d9590695ed0af945aaac9e183eb3e81347baf0c057c663e2be0abcfcd0e03b", func := "coaming/coaminglaw15.LedgerBack", spec := "ledgerBack", unfollowed := true, recurses := true, apart := false, narrowed := true }
def LedgerBackUptoSaid : Prop := ledgerBackUptoRow.holds Try.pinned (OpenSpec.upto ledgerBackSpec)

/-- 'coaminglaw15.LedgerDoes', WHERE WHAT IT READS IS OF BULK AT MOST 1048576: true; the input reads as it did. -/
def ledgerDoesUptoRow : OpenClaim := { program := "ytiepfinipmafcaa", sum := "a1d9590695ed0af945aaac9e183eb3e81347baf0c057c663e2be0abcfcd0e03b", func := "coaming/coaminglaw15.LedgerDoes", spec := "ledgerDoes", unfollowed := true, recurses := true, apart := false, narrowed := true }
def LedgerDoesUptoSaid : Prop := ledgerDoesUptoRow.holds Try.pinned (OpenSpec.upto ledgerDoesSpec)

end Rows
end Go.Proofs.Ytiepfinipmafcaa
