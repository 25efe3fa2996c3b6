/-
  No cell of these rows narrows 'for every input' (looked for: loops, veiled, ifaces, maps, wideKeys, modest, calm, conditions, laid).
  DERIVED. THE GIVEN ROWS OF THIS SEAT. 5 by the template 'for every input the law returns true; each argument reads behind the call as it read before'; 0 by the template 'total and deterministic' (their statements: YtcicjmhealkigaaTotals.lean).
  GIVEN WITH THE SEED: the statements are not yours to turn. If you find one false, say at which input.
  Laid BY PROGRAM, IN A SANDBOX (cutbox-rows.mjs): the forced cells as the released guide's own fill.sh prints them over the translation b7f0b54b08d232f1… (all of the seat's roots in one cut). By AI agents, Wed Nov 11 2026. No macro, syntax, notation, axiom, sorry.
-/
import Derived.Test.YtcicjmhealkigaaChecked
import GoSem.Claim
import GoSem.ClaimJoined
import GoSem.ClaimMapViews
import Derived.JoinedTies
import Derived.KernelRfl
namespace Go.Proofs.Ytcicjmhealkigaa
/- THE CELL 'sum', in the pinned program and in every row, IS THE sha256 OF THE DUMP (.gsa) THAT YtcicjmhealkigaaProg.lean LOADS. Nothing in Lean hashes anything: it is a label: what it is worth is what the hold of that sum in a sandbox is worth. -/
noncomputable def Try.pinned : Pinned := { name := "ytcicjmhealkigaa", sum := "b7f0b54b08d232f172f1c20e89fb845abdeec7cc115d37ccc6821da5fa6db71b", checked := Try.checked }
namespace Rows
def none {H : Type} : Left H := { results := [], args := [] }

/-- 'headgatelaw20.CommitsEncodes': WHATEVER THE INPUT: true; the input reads as it did. -/
def commitsEncodesSpec : ChangeSpec := { name := "commitsEncodes", fn := fun _ => fun
  | [d1, d2] => { results := [.lit (.bool true)], args := [d1, d2] }
  | _ => none }
def commitsEncodesRow : OpenClaim := { program := "ytcicjmhealkigaa", sum := "b7f0b54b08d232f172f1c20e89fb845abdeec7cc115d37ccc6821da5fa6db71b", func := "headgate/headgatelaw20.CommitsEncodes", spec := "commitsEncodes", unfollowed := true, recurses := true, apart := false }
def CommitsEncodesSaid : Prop := commitsEncodesRow.holds Try.pinned (OpenSpec.ofChange commitsEncodesSpec)

/-- ITS FALSE NEIGHBOUR: 'it returns false'. Refute it at one input. -/
def commitsEncodesWrong : ChangeSpec := { name := "commitsEncodes", fn := fun _ => fun
  | [d1, d2] => { results := [.lit (.bool false)], args := [d1, d2] }
  | _ => none }
def CommitsEncodesWrongFalsely : Prop := commitsEncodesRow.holds Try.pinned (OpenSpec.ofChange commitsEncodesWrong)

/-- 'headgatelaw20.CommitsDecodes': WHATEVER THE INPUT: true; the input reads as it did. -/
def commitsDecodesSpec : ChangeSpec := { name := "commitsDecodes", fn := fun _ => fun
  | [d] => { results := [.lit (.bool true)], args := [d] }
  | _ => none }
def commitsDecodesRow : OpenClaim := { program := "ytcicjmhealkigaa", sum := "b7f0b54b08d232f172f1c20e89fb845abdeec7cc115d37ccc6821da5fa6db71b", func := "headgate/headgatelaw20.CommitsDecodes", spec := "commitsDecodes", unfollowed := true, recurses := true, apart := false }
def CommitsDecodesSaid : Prop := commitsDecodesRow.holds Try.pinned (OpenSpec.ofChange commitsDecodesSpec)

/-- ITS FALSE NEIGHBOUR: 'it returns false'. Refute it at one input. -/
def commitsDecodesWrong : ChangeSpec := { name := "commitsDecodes", fn := fun _ => fun
  | [d] => { results := [.lit (.bool false)], args := [d] }
  | _ => none }
def CommitsDecodesWrongFalsely : Prop := commitsDecodesRow.holds Try.pinned (OpenSpec.ofChange commitsDecodesWrong)

/-- 'headgatelaw20.CommitsBack': WHATEVER THE INPUT: true; the input reads as it did. -/
def commitsBackSpec : ChangeSpec := { name := "commitsBack", fn := fun _ => fun
  | [d1, d2, d3] => { results := [.lit (.bool true)], args := [d1, d2, d3] }
  | _ => none }
def commitsBackRow : OpenClaim := { program := "ytcicjmhealkigaa", sum := "b7f0b54b08d232f172f1c20e89fb845abdeec7cc115d37ccc6821da5fa6db71b", func := "headgate/headgatelaw20.CommitsBack", spec := "commitsBack", unfollowed := true, recurses := true, apart := false }
def CommitsBackSaid : Prop := commitsBackRow.holds Try.pinned (OpenSpec.ofChange commitsBackSpec)

/-- ITS FALSE NEIGHBOUR: 'it returns false'. Refute it at one input. -/
def commitsBackWrong : ChangeSpec := { name := "commitsBack", fn := fun _ => fun
  | [d1, d2, d3] => { results := [.lit (.bool false)], args := [d1, d2, d3] }
  | _ => none }
def CommitsBackWrongFalsely : Prop := commitsBackRow.holds Try.pinned (OpenSpec.ofChange commitsBackWrong)

/-- 'headgatelaw20.CommitsOnly': WHATEVER THE INPUT: true; the input reads as it did. -/
def commitsOnlySpec : ChangeSpec := { name := "commitsOnly", fn := fun _ => fun
  | [d] => { results := [.lit (.bool true)], args := [d] }
  | _ => none }
def commitsOnlyRow : OpenClaim := { program := "ytcicjmhealkigaa", sum := "b7f0b54b08d232f172f1c20e89fb845abdeec7cc115d37ccc6821da5fa6db71b", func := "headgate/headgatelaw20.CommitsOnly", spec := "commitsOnly", unfollowed := true, recurses := true, apart := false }
def CommitsOnlySaid : Prop := commitsOnlyRow.holds Try.pinned (OpenSpec.ofChange commitsOnlySpec)

/-- ITS FALSE NEIGHBOUR: 'it returns false'. Refute it at one input. -/
def commitsOnlyWrong : ChangeSpec := { name := "commitsOnly", fn := fun _ => fun
  | [d] => { results := [.lit (.bool false)], args := [d] }
  | _ => none }
def CommitsOnlyWrongFalsely : Prop := commitsOnlyRow.holds Try.pinned (OpenSpec.ofChange commitsOnlyWrong)

/-- 'headgatelaw20.CommitsRow': WHATEVER THE INPUT: true; the input reads as it did. -/
def commitsRowSpec : ChangeSpec := { name := "commitsRow", fn := fun _ => fun
  | [d1, d2] => { results := [.lit (.bool true)], args := [d1, d2] }
  | _ => none }
def commitsRowRow : OpenClaim := { program := "ytcicjmhealkigaa", sum := "b7f0b54b08d232f172f1c20e89fb845abdeec7cc115d37ccc6821da5fa6db71b", func := "headgate/headgatelaw20.CommitsRow", spec := "commitsRow", unfollowed := true, recurses := true, apart := false }
def CommitsRowSaid : Prop := commitsRowRow.holds Try.pinned (OpenSpec.ofChange commitsRowSpec)

/-- ITS FALSE NEIGHBOUR: 'it returns false'. Refute it at one input. -/
def commitsRowWrong : ChangeSpec := { name := "commitsRow", fn := fun _ => fun
  | [d1, d2] => { results := [.lit (.bool false)], args := [d1, d2] }
  | _ => none }
def CommitsRowWrongFalsely : Prop := commitsRowRow.holds Try.pinned (OpenSpec.ofChange commitsRowWrong)

/- THE SECOND FORM. 'bulk': how many values and letters a reading holds, each counted each time it is reached (what is shared counts as often as it is met; a slice's spare places count too). A statement '..UptoSaid' is the law's where the arguments, and the package variables that the reading takes, are together of bulk at most 1048576: NARROWER than '..Said'. Prove '..Said' where nothing that the law and all that it calls make is longer than what came in: it says more and counts as full. Else prove '..UptoSaid'. A law counts once. -/
mutual
def uptoBulk {H : Type} : DataW H → Nat
  | .lit (.string bytes) => bytes.length + 1
  | .lit _ => 1
  | .nil => 1
  | .ptr d => uptoBulk d + 1
  | .slice elems spare => uptoBulkAll elems + uptoBulkAll spare + 1
  | .agg parts => uptoBulkAll parts + 1
  | .iface _ d => uptoBulk d + 1
  | .map entries => uptoBulkEntries entries + 1
  | .held _ => 1
def uptoBulkAll {H : Type} : List (DataW H) → Nat
  | [] => 0
  | d :: r => uptoBulk d + uptoBulkAll r
def uptoBulkEntries {H : Type} : List (Lit × DataW H) → Nat
  | [] => 0
  | x :: r => uptoBulkEntry x + uptoBulkEntries r
def uptoBulkEntry {H : Type} : Lit × DataW H → Nat
  | (.string bytes, d) => bytes.length + uptoBulk d + 1
  | (_, d) => uptoBulk d + 1
 end
def uptoSmall : (H : Type) → List (DataW H) → Bool := fun _ ds => decide (uptoBulkAll ds ≤ 1048576)
def OpenSpec.upto (s : _root_.Go.ChangeSpec) : _root_.Go.OpenSpec := { _root_.Go.OpenSpec.ofChange s with cond := some uptoSmall }

/-- 'headgatelaw20.CommitsEncodes', WHERE WHAT IT READS IS OF BULK AT MOST 1048576: true; the input reads as it did. -/
def commitsEncodesUptoRow : OpenClaim := { program := "ytcicjmhealkigaa", sum := "b7f0b54b08d232f172f1c20e89fb845abdeec7cc115d37ccc6821da5fa6db71b", func := "headgate/headgatelaw20.CommitsEncodes", spec := "commitsEncodes", unfollowed := true, recurses := true, apart := false, narrowed := true }
def CommitsEncodesUptoSaid : Prop := commitsEncodesUptoRow.holds Try.pinned (OpenSpec.upto commitsEncodesSpec)

/-- 'headgatelaw20.CommitsDecodes', WHERE WHAT IT READS IS OF BULK AT MOST 1048576: true; the input reads as it did. -/
def commitsDecodesUptoRow : OpenClaim := { program := "ytcicjmhealkigaa", sum := "b7f0b54b08d232f172f1c20e89fb845abdeec7cc115d37ccc6821da5fa6db71b", func := "headgate/headgatelaw20.CommitsDecodes", spec := "commitsDecodes", unfollowed := true, recurses := true, apart := false, narrowed := true }
def CommitsDecodesUptoSaid : Prop := commitsDecodesUptoRow.holds Try.pinned (OpenSpec.upto commitsDecodesSpec)

/-- 'headgatelaw20.CommitsBack', WHERE WHAT IT READS IS OF BULK AT MOST 1048576: true; the input reads as it did. -/
def commitsBackUptoRow : OpenClaim := { program := "ytcicjmhealkigaa", sum := "b7f0b54b08d232f172f1c20e89fb845abdeec7cc115d37ccc6821da5fa6db71b", func := "headgate/headgatelaw20.CommitsBack", spec := "commitsBack", unfollowed := true, recurses := true, apart := false, narrowed := true }
def CommitsBackUptoSaid : Prop := commitsBackUptoRow.holds Try.pinned (OpenSpec.upto commitsBackSpec)

/-- 'headgatelaw20.CommitsOnly', WHERE WHAT IT READS IS OF BULK AT MOST 1048576: true; the input reads as it did. -/
def commitsOnlyUptoRow : OpenClaim := { program := "ytcicjmhealkigaa", sum := "b7f0b54b08d232f172f1c20e89fb845abdeec7cc115d37ccc6821da5fa6db71b", func := "headgate/headgatelaw20.CommitsOnly", spec := "commitsOnly", unfollowed := true, recurses := true, apart := false, narrowed := true }
def CommitsOnlyUptoSaid : Prop := commitsOnlyUptoRow.holds Try.pinned (OpenSpec.upto commitsOnlySpec)

/-- 'headgatelaw20.CommitsRow', WHERE WHAT IT READS IS OF BULK AT MOST 1048576: true; the input reads as it did. -/
def commitsRowUptoRow : OpenClaim := { program := "ytcicjmhealkigaa", sum := "b7f0b54b08d232f172f1c20e89fb845abdeec7cc115d37ccc6821da5fa6db71b", func := "headgate/headgatelaw20.CommitsRow", spec := "commitsRow", unfollowed := true, recurses := true, apart := false, narrowed := true }
def CommitsRowUptoSaid : Prop := commitsRowUptoRow.holds Try.pinned (OpenSpec.upto commitsRowSpec)

end Rows
end Go.Proofs.Ytcicjmhealkigaa
