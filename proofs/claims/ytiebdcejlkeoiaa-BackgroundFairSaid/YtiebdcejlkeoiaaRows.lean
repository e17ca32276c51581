/-
  No cell of these rows narrows 'for every input' (looked for: loops, veiled, ifaces, maps, wideKeys, modest, calm, conditions, laid).
  DERIVED. THE GIVEN ROWS OF THIS SEAT. 9 by the template 'for every input the law returns true; each argument reads behind the call as it read before'; 0 by the template 'total and deterministic' (their statements: YtiebdcejlkeoiaaTotals.lean).
  GIVEN WITH THE SEED: the statements are not yours to turn. If you find one false, say at which input.
  Laid BY PROGRAM, IN A SANDBOX (cutbox-rows.mjs): the forced cells as the released guide's own fill.sh prints them over the translation ce0963c1b8fa069a… (all of the seat's roots in one cut). By AI agents, Wed Nov 11 2026. No macro, syntax, notation, axiom, sorry.
-/
import Derived.Test.YtiebdcejlkeoiaaChecked
import GoSem.Claim
import GoSem.ClaimJoined
import GoSem.ClaimMapViews
import Derived.JoinedTies
import Derived.KernelRfl
namespace Go.Proofs.Ytiebdcejlkeoiaa
/- THE CELL 'sum', in the pinned program and in every row, IS THE sha256 OF THE DUMP (.gsa) THAT YtiebdcejlkeoiaaProg.lean LOADS. Nothing in Lean hashes anything: it is a label: what it is worth is what the hold of that sum in a sandbox is worth. -/
noncomputable def Try.pinned : Pinned := { name := "ytiebdcejlkeoiaa", sum := "ce0963c1b8fa069ae996158577de7bd39dabfff9aa8effbe9fabbfdb30b8d0d0", checked := Try.checked }
namespace Rows
def none {H : Type} : Left H := { results := [], args := [] }

/-- 'pagemendlaw03.ChangeExact': WHATEVER THE INPUT: true; the input reads as it did. -/
def changeExactSpec : ChangeSpec := { name := "changeExact", fn := fun _ => fun
  | [d1, d2, d3, d4] => { results := [.lit (.bool true)], args := [d1, d2, d3, d4] }
  | _ => none }
def changeExactRow : OpenClaim := { program := "ytiebdcejlkeoiaa", sum := "ce0963c1b8fa069ae996158577de7bd39dabfff9aa8effbe9fabbfdb30b8d0d0", func := "pagemend/pagemendlaw03.ChangeExact", spec := "changeExact", recurses := true, apart := false }
def ChangeExactSaid : Prop := changeExactRow.holds Try.pinned (OpenSpec.ofChange changeExactSpec)

/-- ITS FALSE NEIGHBOUR: 'it returns false'. Refute it at one input. -/
def changeExactWrong : ChangeSpec := { name := "changeExact", fn := fun _ => fun
  | [d1, d2, d3, d4] => { results := [.lit (.bool false)], args := [d1, d2, d3, d4] }
  | _ => none }
def ChangeExactWrongFalsely : Prop := changeExactRow.holds Try.pinned (OpenSpec.ofChange changeExactWrong)

/-- 'pagemendlaw03.ChangeBack': WHATEVER THE INPUT: true; the input reads as it did. -/
def changeBackSpec : ChangeSpec := { name := "changeBack", fn := fun _ => fun
  | [d] => { results := [.lit (.bool true)], args := [d] }
  | _ => none }
def changeBackRow : OpenClaim := { program := "ytiebdcejlkeoiaa", sum := "ce0963c1b8fa069ae996158577de7bd39dabfff9aa8effbe9fabbfdb30b8d0d0", func := "pagemend/pagemendlaw03.ChangeBack", spec := "changeBack", recurses := true, apart := false }
def ChangeBackSaid : Prop := changeBackRow.holds Try.pinned (OpenSpec.ofChange changeBackSpec)

/-- ITS FALSE NEIGHBOUR: 'it returns false'. Refute it at one input. -/
def changeBackWrong : ChangeSpec := { name := "changeBack", fn := fun _ => fun
  | [d] => { results := [.lit (.bool false)], args := [d] }
  | _ => none }
def ChangeBackWrongFalsely : Prop := changeBackRow.holds Try.pinned (OpenSpec.ofChange changeBackWrong)

/-- 'pagemendlaw03.ChangeRows': WHATEVER THE INPUT: true; the input reads as it did. -/
def changeRowsSpec : ChangeSpec := { name := "changeRows", fn := fun _ => fun
  | [d1, d2] => { results := [.lit (.bool true)], args := [d1, d2] }
  | _ => none }
def changeRowsRow : OpenClaim := { program := "ytiebdcejlkeoiaa", sum := "ce0963c1b8fa069ae996158577de7bd39dabfff9aa8effbe9fabbfdb30b8d0d0", func := "pagemend/pagemendlaw03.ChangeRows", spec := "changeRows", recurses := true, apart := false }
def ChangeRowsSaid : Prop := changeRowsRow.holds Try.pinned (OpenSpec.ofChange changeRowsSpec)

/-- ITS FALSE NEIGHBOUR: 'it returns false'. Refute it at one input. -/
def changeRowsWrong : ChangeSpec := { name := "changeRows", fn := fun _ => fun
  | [d1, d2] => { results := [.lit (.bool false)], args := [d1, d2] }
  | _ => none }
def ChangeRowsWrongFalsely : Prop := changeRowsRow.holds Try.pinned (OpenSpec.ofChange changeRowsWrong)

/-- 'pagemendlaw03.ChangeDiffs': WHATEVER THE INPUT: true; the input reads as it did. -/
def changeDiffsSpec : ChangeSpec := { name := "changeDiffs", fn := fun _ => fun
  | [d1, d2, d3] => { results := [.lit (.bool true)], args := [d1, d2, d3] }
  | _ => none }
def changeDiffsRow : OpenClaim := { program := "ytiebdcejlkeoiaa", sum := "ce0963c1b8fa069ae996158577de7bd39dabfff9aa8effbe9fabbfdb30b8d0d0", func := "pagemend/pagemendlaw03.ChangeDiffs", spec := "changeDiffs", recurses := true, apart := false }
def ChangeDiffsSaid : Prop := changeDiffsRow.holds Try.pinned (OpenSpec.ofChange changeDiffsSpec)

/-- ITS FALSE NEIGHBOUR: 'it returns false'. Refute it at one input. -/
def changeDiffsWrong : ChangeSpec := { name := "changeDiffs", fn := fun _ => fun
  | [d1, d2, d3] => { results := [.lit (.bool false)], args := [d1, d2, d3] }
  | _ => none }
def ChangeDiffsWrongFalsely : Prop := changeDiffsRow.holds Try.pinned (OpenSpec.ofChange changeDiffsWrong)

/-- 'pagemendlaw37.BackgroundOffered': WHATEVER THE INPUT: true; the input reads as it did. -/
def backgroundOfferedSpec : ChangeSpec := { name := "backgroundOffered", fn := fun _ => fun
  | [d] => { results := [.lit (.bool true)], args := [d] }
  | _ => none }
def backgroundOfferedRow : OpenClaim := { program := "ytiebdcejlkeoiaa", sum := "ce0963c1b8fa069ae996158577de7bd39dabfff9aa8effbe9fabbfdb30b8d0d0", func := "pagemend/pagemendlaw37.BackgroundOffered", spec := "backgroundOffered", unfollowed := true, recurses := true, apart := false }
def BackgroundOfferedSaid : Prop := backgroundOfferedRow.holds Try.pinned (OpenSpec.ofChange backgroundOfferedSpec)

/-- ITS FALSE NEIGHBOUR: 'it returns false'. Refute it at one input. -/
def backgroundOfferedWrong : ChangeSpec := { name := "backgroundOffered", fn := fun _ => fun
  | [d] => { results := [.lit (.bool false)], args := [d] }
  | _ => none }
def BackgroundOfferedWrongFalsely : Prop := backgroundOfferedRow.holds Try.pinned (OpenSpec.ofChange backgroundOfferedWrong)

/-- 'pagemendlaw37.BackgroundAlone': WHATEVER THE INPUT: true; the input reads as it did. -/
def backgroundAloneSpec : ChangeSpec := { name := "backgroundAlone", fn := fun _ => fun
  | [d1, d2] => { results := [.lit (.bool true)], args := [d1, d2] }
  | _ => none }
def backgroundAloneRow : OpenClaim := { program := "ytiebdcejlkeoiaa", sum := "ce0963c1b8fa069ae996158577de7bd39dabfff9aa8effbe9fabbfdb30b8d0d0", func := "pagemend/pagemendlaw37.BackgroundAlone", spec := "backgroundAlone", unfollowed := true, recurses := true, apart := false }
def BackgroundAloneSaid : Prop := backgroundAloneRow.holds Try.pinned (OpenSpec.ofChange backgroundAloneSpec)

/-- ITS FALSE NEIGHBOUR: 'it returns false'. Refute it at one input. -/
def backgroundAloneWrong : ChangeSpec := { name := "backgroundAlone", fn := fun _ => fun
  | [d1, d2] => { results := [.lit (.bool false)], args := [d1, d2] }
  | _ => none }
def BackgroundAloneWrongFalsely : Prop := backgroundAloneRow.holds Try.pinned (OpenSpec.ofChange backgroundAloneWrong)

/-- 'pagemendlaw37.BackgroundExact': WHATEVER THE INPUT: true; the input reads as it did. -/
def backgroundExactSpec : ChangeSpec := { name := "backgroundExact", fn := fun _ => fun
  | [d1, d2] => { results := [.lit (.bool true)], args := [d1, d2] }
  | _ => none }
def backgroundExactRow : OpenClaim := { program := "ytiebdcejlkeoiaa", sum := "ce0963c1b8fa069ae996158577de7bd39dabfff9aa8effbe9fabbfdb30b8d0d0", func := "pagemend/pagemendlaw37.BackgroundExact", spec := "backgroundExact", unfollowed := true, recurses := true, apart := false }
def BackgroundExactSaid : Prop := backgroundExactRow.holds Try.pinned (OpenSpec.ofChange backgroundExactSpec)

/-- ITS FALSE NEIGHBOUR: 'it returns false'. Refute it at one input. -/
def backgroundExactWrong : ChangeSpec := { name := "backgroundExact", fn := fun _ => fun
  | [d1, d2] => { results := [.lit (.bool false)], args := [d1, d2] }
  | _ => none }
def BackgroundExactWrongFalsely : Prop := backgroundExactRow.holds Try.pinned (OpenSpec.ofChange backgroundExactWrong)

/-- 'pagemendlaw37.BackgroundFair': WHATEVER THE INPUT: true; the input reads as it did. -/
def backgroundFairSpec : ChangeSpec := { name := "backgroundFair", fn := fun _ => fun
  | [d1, d2] => { results := [.lit (.bool true)], args := [d1, d2] }
  | _ => none }
def backgroundFairRow : OpenClaim := { program := "ytiebdcejlkeoiaa", sum := "ce0963c1b8fa069ae996158577de7bd39dabfff9aa8effbe9fabbfdb30b8d0d0", func := "pagemend/pagemendlaw37.BackgroundFair", spec := "backgroundFair", unfollowed := true, recurses := true, apart := false }
def BackgroundFairSaid : Prop := backgroundFairRow.holds Try.pinned (OpenSpec.ofChange backgroundFairSpec)

/-- ITS FALSE NEIGHBOUR: 'it returns false'. Refute it at one input. -/
def backgroundFairWrong : ChangeSpec := { name := "backgroundFair", fn := fun _ => fun
  | [d1, d2] => { results := [.lit (.bool false)], args := [d1, d2] }
  | _ => none }
def BackgroundFairWrongFalsely : Prop := backgroundFairRow.holds Try.pinned (OpenSpec.ofChange backgroundFairWrong)

/-- 'pagemendlaw37.BackgroundShares': WHATEVER THE INPUT: true; the input reads as it did. -/
def backgroundSharesSpec : ChangeSpec := { name := "backgroundShares", fn := fun _ => fun
  | [d1, d2] => { results := [.lit (.bool true)], args := [d1, d2] }
  | _ => none }
def backgroundSharesRow : OpenClaim := { program := "ytiebdcejlkeoiaa", sum := "ce0963c1b8fa069ae996158577de7bd39dabfff9aa8effbe9fabbfdb30b8d0d0", func := "pagemend/pagemendlaw37.BackgroundShares", spec := "backgroundShares", unfollowed := true, recurses := true, apart := false }
def BackgroundSharesSaid : Prop := backgroundSharesRow.holds Try.pinned (OpenSpec.ofChange backgroundSharesSpec)

/-- ITS FALSE NEIGHBOUR: 'it returns false'. Refute it at one input. -/
def backgroundSharesWrong : ChangeSpec := { name := "backgroundShares", fn := fun _ => fun
  | [d1, d2] => { results := [.lit (.bool false)], args := [d1, d2] }
  | _ => none }
def BackgroundSharesWrongFalsely : Prop := backgroundSharesRow.holds Try.pinned (OpenSpec.ofChange backgroundSharesWrong)

/- THE SECOND FORM. 'bulk': how many values and letters a reading holds, each counted each time it is reached (what is shared counts as often as it is met; a slice's spare places count too). A statement '..UptoSaid' is the law's where the arguments, and the package variables that the reading takes, are together of bulk at most 1048576: NARROWER than '..Said'. Prove '..Said' where nothing that the law and all that it calls make is longer than what came in: it says more and counts as full. Else prove '..UptoSaid'. A law counts once. -/
mutual
def uptoBulk {H : Type} : DataW H → Nat
  | .lit (.string bytes) => bytes.length + 1
  | .lit _ => 1
  | .nil => 1
  | .ptr d => uptoBulk d + 1
  | .slice elems spare => uptoBulkAll elems + uptoBulkAll spare + 1
  | .agg parts => uptoBulkAll parts + 1
  | .iface _ d => uptoBulk d + 1
  | .map entries => uptoBulkEntries entries + 1
  | .held _ => 1
def uptoBulkAll {H : Type} : List (DataW H) → Nat
  | [] => 0
  | d :: r => uptoBulk d + uptoBulkAll r
def uptoBulkEntries {H : Type} : List (Lit × DataW H) → Nat
  | [] => 0
  | x :: r => uptoBulkEntry x + uptoBulkEntries r
def uptoBulkEntry {H : Type} : Lit × DataW H → Nat
  | (.string bytes, d) => bytes.length + uptoBulk d + 1
  | (_, d) => uptoBulk d + 1
 end
def uptoSmall : (H : Type) → List (DataW H) → Bool := fun _ ds => decide (uptoBulkAll ds ≤ 1048576)
def OpenSpec.upto (s : _root_.Go.ChangeSpec) : _root_.Go.OpenSpec := { _root_.Go.OpenSpec.ofChange s with cond := some uptoSmall }

/-- 'pagemendlaw03.ChangeExact', WHERE WHAT IT READS IS OF BULK AT MOST 1048576: true; the input reads as it did. -/
def changeExactUptoRow : OpenClaim := { program := "ytiebdcejlkeoiaa", sum := "ce0963c1b8fa069ae996158577de7bd39dabfff9aa8effbe9fabbfdb30b8d0d0", func := "pagemend/pagemendlaw03.ChangeExact", spec := "changeExact", recurses := true, apart := false, narrowed := true }
def ChangeExactUptoSaid : Prop := changeExactUptoRow.holds Try.pinned (OpenSpec.upto changeExactSpec)

/-- 'pagemendlaw03.ChangeBack', WHERE WHAT IT READS IS OF BULK AT MOST 1048576: true; the input reads as it did. -/
def changeBackUptoRow : OpenClaim := { program := "ytiebdcejlkeoiaa", sum := "ce0963c1b8fa069ae996158577de7bd39dabfff9aa8effbe9fabbfdb30b8d0d0", func := "pagemend/pagemendlaw03.ChangeBack", spec := "changeBack", recurses := true, apart := false, narrowed := true }
def ChangeBackUptoSaid : Prop := changeBackUptoRow.holds Try.pinned (OpenSpec.upto changeBackSpec)

/-- 'pagemendlaw03.ChangeRows', WHERE WHAT IT READS IS OF BULK AT MOST 1048576: true; the input reads as it did. -/
def changeRowsUptoRow : OpenClaim := { program := "ytiebdcejlkeoiaa", sum := "ce0963c1b8fa069ae996158577de7bd39dabfff9aa8effbe9fabbfdb30b8d0d0", func := "pagemend/pagemendlaw03.ChangeRows", spec := "changeRows", recurses := true, apart := false, narrowed := true }
def ChangeRowsUptoSaid : Prop := changeRowsUptoRow.holds Try.pinned (OpenSpec.upto changeRowsSpec)

/-- 'pagemendlaw03.ChangeDiffs', WHERE WHAT IT READS IS OF BULK AT MOST 1048576: true; the input reads as it did. -/
def changeDiffsUptoRow : OpenClaim := { program := "ytiebdcejlkeoiaa", sum := "ce0963c1b8fa069ae996158577de7bd39dabfff9aa8effbe9fabbfdb30b8d0d0", func := "pagemend/pagemendlaw03.ChangeDiffs", spec := "changeDiffs", recurses := true, apart := false, narrowed := true }
def ChangeDiffsUptoSaid : Prop := changeDiffsUptoRow.holds Try.pinned (OpenSpec.upto changeDiffsSpec)

/-- 'pagemendlaw37.BackgroundOffered', WHERE WHAT IT READS IS OF BULK AT MOST 1048576: true; the input reads as it did. -/
def backgroundOfferedUptoRow : OpenClaim := { program := "ytiebdcejlkeoiaa", sum := "ce0963c1b8fa069ae996158577de7bd39dabfff9aa8effbe9fabbfdb30b8d0d0", func := "pagemend/pagemendlaw37.BackgroundOffered", spec := "backgroundOffered", unfollowed := true, recurses := true, apart := false, narrowed := true }
def BackgroundOfferedUptoSaid : Prop := backgroundOfferedUptoRow.holds Try.pinned (OpenSpec.upto backgroundOfferedSpec)

/-- 'pagemendlaw37.BackgroundAlone', WHERE WHAT IT READS IS OF BULK AT MOST 1048576: true; the input reads as it did. -/
def backgroundAloneUptoRow : OpenClaim := { program := "ytiebdcejlkeoiaa", sum := "ce0963c1b8fa069ae996158577de7bd39dabfff9aa8effbe9fabbfdb30b8d0d0", func := "pagemend/pagemendlaw37.BackgroundAlone", spec := "backgroundAlone", unfollowed := true, recurses := true, apart := false, narrowed := true }
def BackgroundAloneUptoSaid : Prop := backgroundAloneUptoRow.holds Try.pinned (OpenSpec.upto backgroundAloneSpec)

/-- 'pagemendlaw37.BackgroundExact', WHERE WHAT IT READS IS OF BULK AT MOST 1048576: true; the input reads as it did. -/
def backgroundExactUptoRow : OpenClaim := { program := "ytiebdcejlkeoiaa", sum := "ce0963c1b8fa069ae996158577de7bd39dabfff9aa8effbe9fabbfdb30b8d0d0", func := "pagemend/pagemendlaw37.BackgroundExact", spec := "backgroundExact", unfollowed := true, recurses := true, apart := false, narrowed := true }
def BackgroundExactUptoSaid : Prop := backgroundExactUptoRow.holds Try.pinned (OpenSpec.upto backgroundExactSpec)

/-- 'pagemendlaw37.BackgroundFair', WHERE WHAT IT READS IS OF BULK AT MOST 1048576: true; the input reads as it did. -/
def backgroundFairUptoRow : OpenClaim := { program := "ytiebdcejlkeoiaa", sum := "ce0963c1b8fa069ae996158577de7bd39dabfff9aa8effbe9fabbfdb30b8d0d0", func := "pagemend/pagemendlaw37.BackgroundFair", spec := "backgroundFair", unfollowed := true, recurses := true, apart := false, narrowed := true }
def BackgroundFairUptoSaid : Prop := backgroundFairUptoRow.holds Try.pinned (OpenSpec.upto backgroundFairSpec)

/-- 'pagemendlaw37.BackgroundShares', WHERE WHAT IT READS IS OF BULK AT MOST 1048576: true; the input reads as it did. -/
def backgroundSharesUptoRow : OpenClaim := { program := "ytiebdcejlkeoiaa", sum := "ce0963c1b8fa069ae996158577de7bd39dabfff9aa8effbe9fabbfdb30b8d0d0", func := "pagemend/pagemendlaw37.BackgroundShares", spec := "backgroundShares", unfollowed := true, recurses := true, apart := false, narrowed := true }
def BackgroundSharesUptoSaid : Prop := backgroundSharesUptoRow.holds Try.pinned (OpenSpec.upto backgroundSharesSpec)

end Rows
end Go.Proofs.Ytiebdcejlkeoiaa
