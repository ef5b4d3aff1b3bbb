/-
  No cell of these rows narrows 'for every input' (looked for: loops, veiled, ifaces, maps, wideKeys, modest, calm, conditions, laid).
  DERIVED. THE GIVEN ROWS OF THIS SEAT. 5 by the template 'for every input the law returns true; each argument reads behind the call as it read before'; 0 by the template 'total and deterministic' (their statements: YtdiokmaomglefaaTotals.lean).
  GIVEN WITH THE SEED: the statements are not yours to turn. If you find one false, say at which input.
  Laid BY PROGRAM, IN A SANDBOX (cutbox-rows.mjs): the forced cells as the released guide's own fill.sh prints them over the translation f14bbd8cf505a27a… (all of the seat's roots in one cut). By AI agents, Wed Nov 11 2026. No macro, syntax, notation, axiom, sorry.
-/
import Derived.Test.YtdiokmaomglefaaChecked
import GoSem.Claim
import GoSem.ClaimJoined
import GoSem.ClaimMapViews
import Derived.JoinedTies
import Derived.KernelRfl
namespace Go.Proofs.Ytdiokmaomglefaa
/- THE CELL 'sum', in the pinned program and in every row, IS THE sha256 OF THE DUMP (.gsa) THAT YtdiokmaomglefaaProg.lean LOADS. Nothing in Lean hashes anything: it is a label: what it is worth is what the hold of that sum in a sandbox is worth. -/
noncomputable def Try.pinned : Pinned := { name := "ytdiokmaomglefaa", sum := "f14bbd8cf505a27a084780a09f5904fb4efbf76a0fc0d23e8e1a0e272e0e3488", checked := Try.checked }
namespace Rows
def none {H : Type} : Left H := { results := [], args := [] }

/-- 'quicklimelaw16.LogFull': WHATEVER THE INPUT: true; the input reads as it did. -/
def logFullSpec : ChangeSpec := { name := "logFull", fn := fun _ => fun
  | [d1, d2] => { results := [.lit (.bool true)], args := [d1, d2] }
  | _ => none }
def logFullRow : OpenClaim := { program := "ytdiokmaomglefaa", sum := "f14bbd8cf505a27a084780a09f5904fb4efbf76a0fc0d23e8e1a0e272e0e3488", func := "quicklime/quicklimelaw16.LogFull", spec := "logFull", inPlace := ["math/bits.Add64"], unfollowed := true, recurses := true, apart := false }
def LogFullSaid : Prop := logFullRow.holds Try.pinned (OpenSpec.ofChange logFullSpec)

/-- ITS FALSE NEIGHBOUR: 'it returns false'. Refute it at one input. -/
def logFullWrong : ChangeSpec := { name := "logFull", fn := fun _ => fun
  | [d1, d2] => { results := [.lit (.bool false)], args := [d1, d2] }
  | _ => none }
def LogFullWrongFalsely : Prop := logFullRow.holds Try.pinned (OpenSpec.ofChange logFullWrong)

/-- 'quicklimelaw16.LogNext': WHATEVER THE INPUT: true; the input reads as it did. -/
def logNextSpec : ChangeSpec := { name := "logNext", fn := fun _ => fun
  | [d] => { results := [.lit (.bool true)], args := [d] }
  | _ => none }
def logNextRow : OpenClaim := { program := "ytdiokmaomglefaa", sum := "f14bbd8cf505a27a084780a09f5904fb4efbf76a0fc0d23e8e1a0e272e0e3488", func := "quicklime/quicklimelaw16.LogNext", spec := "logNext", inPlace := ["math/bits.Add64"], unfollowed := true, recurses := true, apart := false }
def LogNextSaid : Prop := logNextRow.holds Try.pinned (OpenSpec.ofChange logNextSpec)

/-- ITS FALSE NEIGHBOUR: 'it returns false'. Refute it at one input. -/
def logNextWrong : ChangeSpec := { name := "logNext", fn := fun _ => fun
  | [d] => { results := [.lit (.bool false)], args := [d] }
  | _ => none }
def LogNextWrongFalsely : Prop := logNextRow.holds Try.pinned (OpenSpec.ofChange logNextWrong)

/-- 'quicklimelaw16.LogRoom': WHATEVER THE INPUT: true; the input reads as it did. -/
def logRoomSpec : ChangeSpec := { name := "logRoom", fn := fun _ => fun
  | [d1, d2] => { results := [.lit (.bool true)], args := [d1, d2] }
  | _ => none }
def logRoomRow : OpenClaim := { program := "ytdiokmaomglefaa", sum := "f14bbd8cf505a27a084780a09f5904fb4efbf76a0fc0d23e8e1a0e272e0e3488", func := "quicklime/quicklimelaw16.LogRoom", spec := "logRoom", inPlace := ["math/bits.Add64"], unfollowed := true, recurses := true, apart := false }
def LogRoomSaid : Prop := logRoomRow.holds Try.pinned (OpenSpec.ofChange logRoomSpec)

/-- ITS FALSE NEIGHBOUR: 'it returns false'. Refute it at one input. -/
def logRoomWrong : ChangeSpec := { name := "logRoom", fn := fun _ => fun
  | [d1, d2] => { results := [.lit (.bool false)], args := [d1, d2] }
  | _ => none }
def LogRoomWrongFalsely : Prop := logRoomRow.holds Try.pinned (OpenSpec.ofChange logRoomWrong)

/-- 'quicklimelaw16.LogFinds': WHATEVER THE INPUT: true; the input reads as it did. -/
def logFindsSpec : ChangeSpec := { name := "logFinds", fn := fun _ => fun
  | [d1, d2] => { results := [.lit (.bool true)], args := [d1, d2] }
  | _ => none }
def logFindsRow : OpenClaim := { program := "ytdiokmaomglefaa", sum := "f14bbd8cf505a27a084780a09f5904fb4efbf76a0fc0d23e8e1a0e272e0e3488", func := "quicklime/quicklimelaw16.LogFinds", spec := "logFinds", inPlace := ["math/bits.Add64"], unfollowed := true, recurses := true, apart := false }
def LogFindsSaid : Prop := logFindsRow.holds Try.pinned (OpenSpec.ofChange logFindsSpec)

/-- ITS FALSE NEIGHBOUR: 'it returns false'. Refute it at one input. -/
def logFindsWrong : ChangeSpec := { name := "logFinds", fn := fun _ => fun
  | [d1, d2] => { results := [.lit (.bool false)], args := [d1, d2] }
  | _ => none }
def LogFindsWrongFalsely : Prop := logFindsRow.holds Try.pinned (OpenSpec.ofChange logFindsWrong)

/-- 'quicklimelaw16.LogOrder': WHATEVER THE INPUT: true; the input reads as it did. -/
def logOrderSpec : ChangeSpec := { name := "logOrder", fn := fun _ => fun
  | [d] => { results := [.lit (.bool true)], args := [d] }
  | _ => none }
def logOrderRow : OpenClaim := { program := "ytdiokmaomglefaa", sum := "f14bbd8cf505a27a084780a09f5904fb4efbf76a0fc0d23e8e1a0e272e0e3488", func := "quicklime/quicklimelaw16.LogOrder", spec := "logOrder", inPlace := ["math/bits.Add64"], unfollowed := true, recurses := true, apart := false }
def LogOrderSaid : Prop := logOrderRow.holds Try.pinned (OpenSpec.ofChange logOrderSpec)

/-- ITS FALSE NEIGHBOUR: 'it returns false'. Refute it at one input. -/
def logOrderWrong : ChangeSpec := { name := "logOrder", fn := fun _ => fun
  | [d] => { results := [.lit (.bool false)], args := [d] }
  | _ => none }
def LogOrderWrongFalsely : Prop := logOrderRow.holds Try.pinned (OpenSpec.ofChange logOrderWrong)

/- THE SECOND FORM. 'bulk': how many values and letters a reading holds, each counted each time it is reached (what is shared counts as often as it is met; a slice's spare places count too). A statement '..UptoSaid' is the law's where the arguments, and the package variables that the reading takes, are together of bulk at most 1048576: NARROWER than '..Said'. Prove '..Said' where nothing that the law and all that it calls make is longer than what came in: it says more and counts as full. Else prove '..UptoSaid'. A law counts once. -/
mutual
def uptoBulk {H : Type} : DataW H → Nat
  | .lit (.string bytes) => bytes.length + 1
  | .lit _ => 1
  | .nil => 1
  | .ptr d => uptoBulk d + 1
  | .slice elems spare => uptoBulkAll elems + uptoBulkAll spare + 1
  | .agg parts => uptoBulkAll parts + 1
  | .iface _ d => uptoBulk d + 1
  | .map entries => uptoBulkEntries entries + 1
  | .held _ => 1
def uptoBulkAll {H : Type} : List (DataW H) → Nat
  | [] => 0
  | d :: r => uptoBulk d + uptoBulkAll r
def uptoBulkEntries {H : Type} : List (Lit × DataW H) → Nat
  | [] => 0
  | x :: r => uptoBulkEntry x + uptoBulkEntries r
def uptoBulkEntry {H : Type} : Lit × DataW H → Nat
  | (.string bytes, d) => bytes.length + uptoBulk d + 1
  | (_, d) => uptoBulk d + 1
 end
def uptoSmall : (H : Type) → List (DataW H) → Bool := fun _ ds => decide (uptoBulkAll ds ≤ 1048576)
def OpenSpec.upto (s : _root_.Go.ChangeSpec) : _root_.Go.OpenSpec := { _root_.Go.OpenSpec.ofChange s with cond := some uptoSmall }

/-- 'quicklimelaw16.LogFull', WHERE WHAT IT READS IS OF BULK AT MOST 1048576: true; the input reads as it did. -/
def logFullUptoRow : OpenClaim := { program := "ytdiokmaomglefaa", sum := "f14bbd8cf505a27a084780a09f5904fb4efbf76a0fc0d23e8e1a0e272e0e3488", func := "quicklime/quicklimelaw16.LogFull", spec := "logFull", inPlace := ["math/bits.Add64"], unfollowed := true, recurses := true, apart := false, narrowed := true }
def LogFullUptoSaid : Prop := logFullUptoRow.holds Try.pinned (OpenSpec.upto logFullSpec)

/-- 'quicklimelaw16.LogNext', WHERE WHAT IT READS IS OF BULK AT MOST 1048576: true; the input reads as it did. -/
def logNextUptoRow : OpenClaim := { program := "ytdiokmaomglefaa", sum := "f14bbd8cf505a27a084780a09f5904fb4efbf76a0fc0d23e8e1a0e272e0e3488", func := "quicklime/quicklimelaw16.LogNext", spec := "logNext", inPlace := ["math/bits.Add64"], unfollowed := true, recurses := true, apart := false, narrowed := true }
def LogNextUptoSaid : Prop := logNextUptoRow.holds Try.pinned (OpenSpec.upto logNextSpec)

/-- 'quicklimelaw16.LogRoom', WHERE WHAT IT READS IS OF BULK AT MOST 1048576: true; the input reads as it did. -/
def logRoomUptoRow : OpenClaim := { program := "ytdiokmaomglefaa", sum := "f14bbd8cf505a27a084780a09f5904fb4efbf76a0fc0d23e8e1a0e272e0e3488", func := "quicklime/quicklimelaw16.LogRoom", spec := "logRoom", inPlace := ["math/bits.Add64"], unfollowed := true, recurses := true, apart := false, narrowed := true }
def LogRoomUptoSaid : Prop := logRoomUptoRow.holds Try.pinned (OpenSpec.upto logRoomSpec)

/-- 'quicklimelaw16.LogFinds', WHERE WHAT IT READS IS OF BULK AT MOST 1048576: true; the input reads as it did. -/
def logFindsUptoRow : OpenClaim := { program := "ytdiokmaomglefaa", sum := "f14bbd8cf505a27a084780a09f5904fb4efbf76a0fc0d23e8e1a0e272e0e3488", func := "quicklime/quicklimelaw16.LogFinds", spec := "logFinds", inPlace := ["math/bits.Add64"], unfollowed := true, recurses := true, apart := false, narrowed := true }
def LogFindsUptoSaid : Prop := logFindsUptoRow.holds Try.pinned (OpenSpec.upto logFindsSpec)

/-- 'quicklimelaw16.LogOrder', WHERE WHAT IT READS IS OF BULK AT MOST 1048576: true; the input reads as it did. -/
def logOrderUptoRow : OpenClaim := { program := "ytdiokmaomglefaa", sum := "f14bbd8cf505a27a084780a09f5904fb4efbf76a0fc0d23e8e1a0e272e0e3488", func := "quicklime/quicklimelaw16.LogOrder", spec := "logOrder", inPlace := ["math/bits.Add64"], unfollowed := true, recurses := true, apart := false, narrowed := true }
def LogOrderUptoSaid : Prop := logOrderUptoRow.holds Try.pinned (OpenSpec.upto logOrderSpec)

end Rows
end Go.Proofs.Ytdiokmaomglefaa
