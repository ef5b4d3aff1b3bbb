/-
  No cell of these rows narrows 'for every input' (looked for: loops, veiled, ifaces, maps, wideKeys, modest, calm, conditions, laid).
  DERIVED. THE GIVEN ROWS OF THIS SEAT. 5 by the template 'for every input the law returns true; each argument reads behind the call as it read before'; 0 by the template 'total and deterministic' (their statements: YtkllljgnpcmojaaTotals.lean).
  GIVEN WITH THE SEED: the statements are not yours to turn. If you find one false, say at which input.
  Laid BY PROGRAM, IN A SANDBOX (cutbox-rows.mjs): the forced cells as the released guide's own fill.sh prints them over the translation 0c4a3ecbed8e8643… (all of the seat's roots in one cut). By AI agents, Wed Nov 11 2026. No macro, syntax, notation, axiom, sorry.
-/
import Derived.Test.YtkllljgnpcmojaaChecked
import GoSem.Claim
import GoSem.ClaimJoined
import GoSem.ClaimMapViews
import Derived.JoinedTies
import Derived.KernelRfl
namespace Go.Proofs.Ytkllljgnpcmojaa
/- THE CELL 'sum', in the pinned program and in every row, IS THE sha256 OF THE DUMP (.gsa) THAT YtkllljgnpcmojaaProg.lean LOADS. Nothing in Lean hashes anything: it is a label: what it is worth is what the hold of that sum in a sandbox is worth. -/
noncomputable def Try.pinned : Pinned := { name := "ytkllljgnpcmojaa", sum := "0c4a3ecbed8e864311423c5c4c9d1728a552098c56b83e127f98bcb6400e9f6d", checked := Try.checked }
namespace Rows
def none {H : Type} : Left H := { results := [], args := [] }

/-- 'quicklimelaw08.DrawTells': WHATEVER THE INPUT: true; the input reads as it did. -/
def drawTellsSpec : ChangeSpec := { name := "drawTells", fn := fun _ => fun
  | [d1, d2] => { results := [.lit (.bool true)], args := [d1, d2] }
  | _ => none }
def drawTellsRow : OpenClaim := { program := "ytkllljgnpcmojaa", sum := "0c4a3ecbed8e864311423c5c4c9d1728a552098c56b83e127f98bcb6400e9f6d", func := "quicklime/quicklimelaw08.DrawTells", spec := "drawTells", inPlace := ["internal/abi.NoEscape", "internal/bytealg.IndexByteString", "internal/bytealg.IndexString"], named := ["internal/bytealg.MaxLen"], apart := false }
def DrawTellsSaid : Prop := drawTellsRow.holds Try.pinned (OpenSpec.ofChange drawTellsSpec)

/-- ITS FALSE NEIGHBOUR: 'it returns false'. Refute it at one input. -/
def drawTellsWrong : ChangeSpec := { name := "drawTells", fn := fun _ => fun
  | [d1, d2] => { results := [.lit (.bool false)], args := [d1, d2] }
  | _ => none }
def DrawTellsWrongFalsely : Prop := drawTellsRow.holds Try.pinned (OpenSpec.ofChange drawTellsWrong)

/-- 'quicklimelaw08.DrawOnce': WHATEVER THE INPUT: true; the input reads as it did. -/
def drawOnceSpec : ChangeSpec := { name := "drawOnce", fn := fun _ => fun
  | [d] => { results := [.lit (.bool true)], args := [d] }
  | _ => none }
def drawOnceRow : OpenClaim := { program := "ytkllljgnpcmojaa", sum := "0c4a3ecbed8e864311423c5c4c9d1728a552098c56b83e127f98bcb6400e9f6d", func := "quicklime/quicklimelaw08.DrawOnce", spec := "drawOnce", inPlace := ["internal/abi.NoEscape", "internal/bytealg.IndexByteString", "internal/bytealg.IndexString"], named := ["internal/bytealg.MaxLen"], apart := false }
def DrawOnceSaid : Prop := drawOnceRow.holds Try.pinned (OpenSpec.ofChange drawOnceSpec)

/-- ITS FALSE NEIGHBOUR: 'it returns false'. Refute it at one input. -/
def drawOnceWrong : ChangeSpec := { name := "drawOnce", fn := fun _ => fun
  | [d] => { results := [.lit (.bool false)], args := [d] }
  | _ => none }
def DrawOnceWrongFalsely : Prop := drawOnceRow.holds Try.pinned (OpenSpec.ofChange drawOnceWrong)

/-- 'quicklimelaw08.DrawWipes': WHATEVER THE INPUT: true; the input reads as it did. -/
def drawWipesSpec : ChangeSpec := { name := "drawWipes", fn := fun _ => fun
  | [d] => { results := [.lit (.bool true)], args := [d] }
  | _ => none }
def drawWipesRow : OpenClaim := { program := "ytkllljgnpcmojaa", sum := "0c4a3ecbed8e864311423c5c4c9d1728a552098c56b83e127f98bcb6400e9f6d", func := "quicklime/quicklimelaw08.DrawWipes", spec := "drawWipes", inPlace := ["internal/abi.NoEscape", "internal/bytealg.IndexByteString", "internal/bytealg.IndexString"], named := ["internal/bytealg.MaxLen"], apart := false }
def DrawWipesSaid : Prop := drawWipesRow.holds Try.pinned (OpenSpec.ofChange drawWipesSpec)

/-- ITS FALSE NEIGHBOUR: 'it returns false'. Refute it at one input. -/
def drawWipesWrong : ChangeSpec := { name := "drawWipes", fn := fun _ => fun
  | [d] => { results := [.lit (.bool false)], args := [d] }
  | _ => none }
def DrawWipesWrongFalsely : Prop := drawWipesRow.holds Try.pinned (OpenSpec.ofChange drawWipesWrong)

/-- 'quicklimelaw08.DrawBack': WHATEVER THE INPUT: true; the input reads as it did. -/
def drawBackSpec : ChangeSpec := { name := "drawBack", fn := fun _ => fun
  | [d] => { results := [.lit (.bool true)], args := [d] }
  | _ => none }
def drawBackRow : OpenClaim := { program := "ytkllljgnpcmojaa", sum := "0c4a3ecbed8e864311423c5c4c9d1728a552098c56b83e127f98bcb6400e9f6d", func := "quicklime/quicklimelaw08.DrawBack", spec := "drawBack", inPlace := ["internal/abi.NoEscape", "internal/bytealg.IndexByteString", "internal/bytealg.IndexString"], named := ["internal/bytealg.MaxLen"], apart := false }
def DrawBackSaid : Prop := drawBackRow.holds Try.pinned (OpenSpec.ofChange drawBackSpec)

/-- ITS FALSE NEIGHBOUR: 'it returns false'. Refute it at one input. -/
def drawBackWrong : ChangeSpec := { name := "drawBack", fn := fun _ => fun
  | [d] => { results := [.lit (.bool false)], args := [d] }
  | _ => none }
def DrawBackWrongFalsely : Prop := drawBackRow.holds Try.pinned (OpenSpec.ofChange drawBackWrong)

/-- 'quicklimelaw08.DrawKeeps': WHATEVER THE INPUT: true; the input reads as it did. -/
def drawKeepsSpec : ChangeSpec := { name := "drawKeeps", fn := fun _ => fun
  | [d1, d2] => { results := [.lit (.bool true)], args := [d1, d2] }
  | _ => none }
def drawKeepsRow : OpenClaim := { program := "ytkllljgnpcmojaa", sum := "0c4a3ecbed8e864311423c5c4c9d1728a552098c56b83e127f98bcb6400e9f6d", func := "quicklime/quicklimelaw08.DrawKeeps", spec := "drawKeeps", inPlace := ["internal/abi.NoEscape", "internal/bytealg.IndexByteString", "internal/bytealg.IndexString"], named := ["internal/bytealg.MaxLen"], apart := false }
def DrawKeepsSaid : Prop := drawKeepsRow.holds Try.pinned (OpenSpec.ofChange drawKeepsSpec)

/-- ITS FALSE NEIGHBOUR: 'it returns false'. Refute it at one input. -/
def drawKeepsWrong : ChangeSpec := { name := "drawKeeps", fn := fun _ => fun
  | [d1, d2] => { results := [.lit (.bool false)], args := [d1, d2] }
  | _ => none }
def DrawKeepsWrongFalsely : Prop := drawKeepsRow.holds Try.pinned (OpenSpec.ofChange drawKeepsWrong)

/- THE SECOND FORM. 'bulk': how many values and letters a reading holds, each counted each time it is reached (what is shared counts as often as it is met; a slice's spare places count too). A statement '..UptoSaid' is the law's where the arguments, and the package variables that the reading takes, are together of bulk at most 1048576: NARROWER than '..Said'. Prove '..Said' where nothing that the law and all that it calls make is longer than what came in: it says more and counts as full. Else prove '..UptoSaid'. A law counts once. -/
mutual
def uptoBulk {H : Type} : DataW H → Nat
  | .lit (.string bytes) => bytes.length + 1
  | .lit _ => 1
  | .nil => 1
  | .ptr d => uptoBulk d + 1
  | .slice elems spare => uptoBulkAll elems + uptoBulkAll spare + 1
  | .agg parts => uptoBulkAll parts + 1
  | .iface _ d => uptoBulk d + 1
  | .map entries => uptoBulkEntries entries + 1
  | .held _ => 1
def uptoBulkAll {H : Type} : List (DataW H) → Nat
  | [] => 0
  | d :: r => uptoBulk d + uptoBulkAll r
def uptoBulkEntries {H : Type} : List (Lit × DataW H) → Nat
  | [] => 0
  | x :: r => uptoBulkEntry x + uptoBulkEntries r
def uptoBulkEntry {H : Type} : Lit × DataW H → Nat
  | (.string bytes, d) => bytes.length + uptoBulk d + 1
  | (_, d) => uptoBulk d + 1
 end
def uptoSmall : (H : Type) → List (DataW H) → Bool := fun _ ds => decide (uptoBulkAll ds ≤ 1048576)
def OpenSpec.upto (s : _root_.Go.ChangeSpec) : _root_.Go.OpenSpec := { _root_.Go.OpenSpec.ofChange s with cond := some uptoSmall }

/-- 'quicklimelaw08.DrawTells', WHERE WHAT IT READS IS OF BULK AT MOST 1048576: true; the input reads as it did. -/
def drawTellsUptoRow : OpenClaim := { program := "ytkllljgnpcmojaa", sum := "0c4a3ecbed8e864311423c5c4c9d1728a552098c56b83e127f98bcb6400e9f6d", func := "quicklime/quicklimelaw08.DrawTells", spec := "drawTells", inPlace := ["internal/abi.NoEscape", "internal/bytealg.IndexByteString", "internal/bytealg.IndexString"], named := ["internal/bytealg.MaxLen"], apart := false, narrowed := true }
def DrawTellsUptoSaid : Prop := drawTellsUptoRow.holds Try.pinned (OpenSpec.upto drawTellsSpec)

/-- 'quicklimelaw08.DrawOnce', WHERE WHAT IT READS IS OF BULK AT MOST 1048576: true; the input reads as it did. -/
def drawOnceUptoRow : OpenClaim := { program := "ytkllljgnpcmojaa", sum := "0c4a3ecbed8e864311423c5c4c9d1728a552098c56b83e127f98bcb6400e9f6d", func := "quicklime/quicklimelaw08.DrawOnce", spec := "drawOnce", inPlace := ["internal/abi.NoEscape", "internal/bytealg.IndexByteString", "internal/bytealg.IndexString"], named := ["internal/bytealg.MaxLen"], apart := false, narrowed := true }
def DrawOnceUptoSaid : Prop := drawOnceUptoRow.holds Try.pinned (OpenSpec.upto drawOnceSpec)

/-- 'quicklimelaw08.DrawWipes', WHERE WHAT IT READS IS OF BULK AT MOST 1048576: true; the input reads as it did. -/
def drawWipesUptoRow : OpenClaim := { program := "ytkllljgnpcmojaa", sum := "0c4a3ecbed8e864311423c5c4c9d1728a552098c56b83e127f98bcb6400e9f6d", func := "quicklime/quicklimelaw08.DrawWipes", spec := "drawWipes", inPlace := ["internal/abi.NoEscape", "internal/bytealg.IndexByteString", "internal/bytealg.IndexString"], named := ["internal/bytealg.MaxLen"], apart := false, narrowed := true }
def DrawWipesUptoSaid : Prop := drawWipesUptoRow.holds Try.pinned (OpenSpec.upto drawWipesSpec)

/-- 'quicklimelaw08.DrawBack', WHERE WHAT IT READS IS OF BULK AT MOST 1048576: true; the input reads as it did. -/
def drawBackUptoRow : OpenClaim := { program := "ytkllljgnpcmojaa", sum := "0c4a3ecbed8e864311423c5c4c9d1728a552098c56b83e127f98bcb6400e9f6d", func := "quicklime/quicklimelaw08.DrawBack", spec := "drawBack", inPlace := ["internal/abi.NoEscape", "internal/bytealg.IndexByteString", "internal/bytealg.IndexString"], named := ["internal/bytealg.MaxLen"], apart := false, narrowed := true }
def DrawBackUptoSaid : Prop := drawBackUptoRow.holds Try.pinned (OpenSpec.upto drawBackSpec)

/-- 'quicklimelaw08.DrawKeeps', WHERE WHAT IT READS IS OF BULK AT MOST 1048576: true; the input reads as it did. -/
def drawKeepsUptoRow : OpenClaim := { program := "ytkllljgnpcmojaa", sum := "0c4a3ecbed8e864311423c5c4c9d1728a552098c56b83e127f98bcb6400e9f6d", func := "quicklime/quicklimelaw08.DrawKeeps", spec := "drawKeeps", inPlace := ["internal/abi.NoEscape", "internal/bytealg.IndexByteString", "internal/bytealg.IndexString"], named := ["internal/bytealg.MaxLen"], apart := false, narrowed := true }
def DrawKeepsUptoSaid : Prop := drawKeepsUptoRow.holds Try.pinned (OpenSpec.upto drawKeepsSpec)

end Rows
end Go.Proofs.Ytkllljgnpcmojaa
