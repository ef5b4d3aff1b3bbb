/-
  No cell of these rows narrows 'for every input' (looked for: loops, veiled, ifaces, maps, wideKeys, modest, calm, conditions, laid).
  DERIVED. THE GIVEN ROWS OF THIS SEAT. 7 by the template 'for every input the law returns true; each argument reads behind the call as it read before'; 0 by the template 'total and deterministic' (their statements: YthfjlihfgmmomaaTotals.lean).
  GIVEN WITH THE SEED: the statements are not yours to turn. If you find one false, say at which input.
  Laid BY PROGRAM, IN A SANDBOX (cutbox-rows.mjs): the forced cells as the released guide's own fill.sh prints them over the translation 4c52496f01cb182e… (all of the seat's roots in one cut). By AI agents, Wed Nov 11 2026. No macro, syntax, notation, axiom, sorry.
-/
import Derived.Test.YthfjlihfgmmomaaChecked
import GoSem.Claim
import GoSem.ClaimJoined
import GoSem.ClaimMapViews
import Derived.JoinedTies
import Derived.KernelRfl
namespace Go.Proofs.Ythfjlihfgmmomaa
/- THE CELL 'sum', in the pinned program and in every row, IS THE sha256 OF THE DUMP (.gsa) THAT YthfjlihfgmmomaaProg.lean LOADS. Nothing in Lean hashes anything: it is a label: what it is worth is what the hold of that sum in a sandbox is worth. -/
noncomputable def Try.pinned : Pinned := { name := "ythfjlihfgmmomaa", sum := "4c52496f01cb182e2aa8004db193e21d1f678d45f4935cd083d3e3f2bbae33bd", checked := Try.checked }
namespace Rows
def none {H : Type} : Left H := { results := [], args := [] }

/-- 'quicklimelaw02.HexTells': WHATEVER THE INPUT: true; the input reads as it did. -/
def hexTellsSpec : ChangeSpec := { name := "hexTells", fn := fun _ => fun
  | [d1, d2, d3] => { results := [.lit (.bool true)], args := [d1, d2, d3] }
  | _ => none }
def hexTellsRow : OpenClaim := { program := "ythfjlihfgmmomaa", sum := "4c52496f01cb182e2aa8004db193e21d1f678d45f4935cd083d3e3f2bbae33bd", func := "quicklime/quicklimelaw02.HexTells", spec := "hexTells", inPlace := ["internal/bytealg.IndexByteString", "internal/bytealg.IndexString", "internal/abi.NoEscape"], named := ["internal/bytealg.MaxLen"], apart := false }
def HexTellsSaid : Prop := hexTellsRow.holds Try.pinned (OpenSpec.ofChange hexTellsSpec)

/-- ITS FALSE NEIGHBOUR: 'it returns false'. Refute it at one input. -/
def hexTellsWrong : ChangeSpec := { name := "hexTells", fn := fun _ => fun
  | [d1, d2, d3] => { results := [.lit (.bool false)], args := [d1, d2, d3] }
  | _ => none }
def HexTellsWrongFalsely : Prop := hexTellsRow.holds Try.pinned (OpenSpec.ofChange hexTellsWrong)

/-- 'quicklimelaw02.HexBack': WHATEVER THE INPUT: true; the input reads as it did. -/
def hexBackSpec : ChangeSpec := { name := "hexBack", fn := fun _ => fun
  | [d1, d2, d3] => { results := [.lit (.bool true)], args := [d1, d2, d3] }
  | _ => none }
def hexBackRow : OpenClaim := { program := "ythfjlihfgmmomaa", sum := "4c52496f01cb182e2aa8004db193e21d1f678d45f4935cd083d3e3f2bbae33bd", func := "quicklime/quicklimelaw02.HexBack", spec := "hexBack", inPlace := ["internal/bytealg.IndexByteString", "internal/bytealg.IndexString", "internal/abi.NoEscape"], named := ["internal/bytealg.MaxLen"], apart := false }
def HexBackSaid : Prop := hexBackRow.holds Try.pinned (OpenSpec.ofChange hexBackSpec)

/-- ITS FALSE NEIGHBOUR: 'it returns false'. Refute it at one input. -/
def hexBackWrong : ChangeSpec := { name := "hexBack", fn := fun _ => fun
  | [d1, d2, d3] => { results := [.lit (.bool false)], args := [d1, d2, d3] }
  | _ => none }
def HexBackWrongFalsely : Prop := hexBackRow.holds Try.pinned (OpenSpec.ofChange hexBackWrong)

/-- 'quicklimelaw02.HexLetters': WHATEVER THE INPUT: true; the input reads as it did. -/
def hexLettersSpec : ChangeSpec := { name := "hexLetters", fn := fun _ => fun
  | [d1, d2, d3] => { results := [.lit (.bool true)], args := [d1, d2, d3] }
  | _ => none }
def hexLettersRow : OpenClaim := { program := "ythfjlihfgmmomaa", sum := "4c52496f01cb182e2aa8004db193e21d1f678d45f4935cd083d3e3f2bbae33bd", func := "quicklime/quicklimelaw02.HexLetters", spec := "hexLetters", inPlace := ["internal/bytealg.IndexByteString", "internal/bytealg.IndexString", "internal/abi.NoEscape"], named := ["internal/bytealg.MaxLen"], apart := false }
def HexLettersSaid : Prop := hexLettersRow.holds Try.pinned (OpenSpec.ofChange hexLettersSpec)

/-- ITS FALSE NEIGHBOUR: 'it returns false'. Refute it at one input. -/
def hexLettersWrong : ChangeSpec := { name := "hexLetters", fn := fun _ => fun
  | [d1, d2, d3] => { results := [.lit (.bool false)], args := [d1, d2, d3] }
  | _ => none }
def HexLettersWrongFalsely : Prop := hexLettersRow.holds Try.pinned (OpenSpec.ofChange hexLettersWrong)

/-- 'quicklimelaw02.HexApart': WHATEVER THE INPUT: true; the input reads as it did. -/
def hexApartSpec : ChangeSpec := { name := "hexApart", fn := fun _ => fun
  | [d1, d2] => { results := [.lit (.bool true)], args := [d1, d2] }
  | _ => none }
def hexApartRow : OpenClaim := { program := "ythfjlihfgmmomaa", sum := "4c52496f01cb182e2aa8004db193e21d1f678d45f4935cd083d3e3f2bbae33bd", func := "quicklime/quicklimelaw02.HexApart", spec := "hexApart", inPlace := ["internal/bytealg.IndexByteString", "internal/bytealg.IndexString", "internal/abi.NoEscape"], named := ["internal/bytealg.MaxLen"], apart := false }
def HexApartSaid : Prop := hexApartRow.holds Try.pinned (OpenSpec.ofChange hexApartSpec)

/-- ITS FALSE NEIGHBOUR: 'it returns false'. Refute it at one input. -/
def hexApartWrong : ChangeSpec := { name := "hexApart", fn := fun _ => fun
  | [d1, d2] => { results := [.lit (.bool false)], args := [d1, d2] }
  | _ => none }
def HexApartWrongFalsely : Prop := hexApartRow.holds Try.pinned (OpenSpec.ofChange hexApartWrong)

/-- 'quicklimelaw02.HexHalf': WHATEVER THE INPUT: true; the input reads as it did. -/
def hexHalfSpec : ChangeSpec := { name := "hexHalf", fn := fun _ => fun
  | [d1, d2] => { results := [.lit (.bool true)], args := [d1, d2] }
  | _ => none }
def hexHalfRow : OpenClaim := { program := "ythfjlihfgmmomaa", sum := "4c52496f01cb182e2aa8004db193e21d1f678d45f4935cd083d3e3f2bbae33bd", func := "quicklime/quicklimelaw02.HexHalf", spec := "hexHalf", inPlace := ["internal/bytealg.IndexByteString", "internal/bytealg.IndexString", "internal/abi.NoEscape"], named := ["internal/bytealg.MaxLen"], apart := false }
def HexHalfSaid : Prop := hexHalfRow.holds Try.pinned (OpenSpec.ofChange hexHalfSpec)

/-- ITS FALSE NEIGHBOUR: 'it returns false'. Refute it at one input. -/
def hexHalfWrong : ChangeSpec := { name := "hexHalf", fn := fun _ => fun
  | [d1, d2] => { results := [.lit (.bool false)], args := [d1, d2] }
  | _ => none }
def HexHalfWrongFalsely : Prop := hexHalfRow.holds Try.pinned (OpenSpec.ofChange hexHalfWrong)

/-- 'quicklimelaw02.HexSizes': WHATEVER THE INPUT: true; the input reads as it did. -/
def hexSizesSpec : ChangeSpec := { name := "hexSizes", fn := fun _ => fun
  | [d1, d2] => { results := [.lit (.bool true)], args := [d1, d2] }
  | _ => none }
def hexSizesRow : OpenClaim := { program := "ythfjlihfgmmomaa", sum := "4c52496f01cb182e2aa8004db193e21d1f678d45f4935cd083d3e3f2bbae33bd", func := "quicklime/quicklimelaw02.HexSizes", spec := "hexSizes", inPlace := ["internal/bytealg.IndexByteString", "internal/bytealg.IndexString", "internal/abi.NoEscape"], named := ["internal/bytealg.MaxLen"], apart := false }
def HexSizesSaid : Prop := hexSizesRow.holds Try.pinned (OpenSpec.ofChange hexSizesSpec)

/-- ITS FALSE NEIGHBOUR: 'it returns false'. Refute it at one input. -/
def hexSizesWrong : ChangeSpec := { name := "hexSizes", fn := fun _ => fun
  | [d1, d2] => { results := [.lit (.bool false)], args := [d1, d2] }
  | _ => none }
def HexSizesWrongFalsely : Prop := hexSizesRow.holds Try.pinned (OpenSpec.ofChange hexSizesWrong)

/-- 'quicklimelaw02.HexDigits': WHATEVER THE INPUT: true; the input reads as it did. -/
def hexDigitsSpec : ChangeSpec := { name := "hexDigits", fn := fun _ => fun
  | [d] => { results := [.lit (.bool true)], args := [d] }
  | _ => none }
def hexDigitsRow : OpenClaim := { program := "ythfjlihfgmmomaa", sum := "4c52496f01cb182e2aa8004db193e21d1f678d45f4935cd083d3e3f2bbae33bd", func := "quicklime/quicklimelaw02.HexDigits", spec := "hexDigits", inPlace := ["internal/bytealg.IndexByteString", "internal/bytealg.IndexString", "internal/abi.NoEscape"], named := ["internal/bytealg.MaxLen"], apart := false }
def HexDigitsSaid : Prop := hexDigitsRow.holds Try.pinned (OpenSpec.ofChange hexDigitsSpec)

/-- ITS FALSE NEIGHBOUR: 'it returns false'. Refute it at one input. -/
def hexDigitsWrong : ChangeSpec := { name := "hexDigits", fn := fun _ => fun
  | [d] => { results := [.lit (.bool false)], args := [d] }
  | _ => none }
def HexDigitsWrongFalsely : Prop := hexDigitsRow.holds Try.pinned (OpenSpec.ofChange hexDigitsWrong)

/- THE SECOND FORM. 'bulk': how many values and letters a reading holds, each counted each time it is reached (what is shared counts as often as it is met; a slice's spare places count too). A statement '..UptoSaid' is the law's where the arguments, and the package variables that the reading takes, are together of bulk at most 1048576: NARROWER than '..Said'. Prove '..Said' where nothing that the law and all that it calls make is longer than what came in: it says more and counts as full. Else prove '..UptoSaid'. A law counts once. -/
mutual
def uptoBulk {H : Type} : DataW H → Nat
  | .lit (.string bytes) => bytes.length + 1
  | .lit _ => 1
  | .nil => 1
  | .ptr d => uptoBulk d + 1
  | .slice elems spare => uptoBulkAll elems + uptoBulkAll spare + 1
  | .agg parts => uptoBulkAll parts + 1
  | .iface _ d => uptoBulk d + 1
  | .map entries => uptoBulkEntries entries + 1
  | .held _ => 1
def uptoBulkAll {H : Type} : List (DataW H) → Nat
  | [] => 0
  | d :: r => uptoBulk d + uptoBulkAll r
def uptoBulkEntries {H : Type} : List (Lit × DataW H) → Nat
  | [] => 0
  | x :: r => uptoBulkEntry x + uptoBulkEntries r
def uptoBulkEntry {H : Type} : Lit × DataW H → Nat
  | (.string bytes, d) => bytes.length + uptoBulk d + 1
  | (_, d) => uptoBulk d + 1
 end
def uptoSmall : (H : Type) → List (DataW H) → Bool := fun _ ds => decide (uptoBulkAll ds ≤ 1048576)
def OpenSpec.upto (s : _root_.Go.ChangeSpec) : _root_.Go.OpenSpec := { _root_.Go.OpenSpec.ofChange s with cond := some uptoSmall }

/-- 'quicklimelaw02.HexTells', WHERE WHAT IT READS IS OF BULK AT MOST 1048576: true; the input reads as it did. -/
def hexTellsUptoRow : OpenClaim := { program := "ythfjlihfgmmomaa", sum := "4c52496f01cb182e2aa8004db193e21d1f678d45f4935cd083d3e3f2bbae33bd", func := "quicklime/quicklimelaw02.HexTells", spec := "hexTells", inPlace := ["internal/bytealg.IndexByteString", "internal/bytealg.IndexString", "internal/abi.NoEscape"], named := ["internal/bytealg.MaxLen"], apart := false, narrowed := true }
def HexTellsUptoSaid : Prop := hexTellsUptoRow.holds Try.pinned (OpenSpec.upto hexTellsSpec)

/-- 'quicklimelaw02.HexBack', WHERE WHAT IT READS IS OF BULK AT MOST 1048576: true; the input reads as it did. -/
def hexBackUptoRow : OpenClaim := { program := "ythfjlihfgmmomaa", sum := "4c52496f01cb182e2aa8004db193e21d1f678d45f4935cd083d3e3f2bbae33bd", func := "quicklime/quicklimelaw02.HexBack", spec := "hexBack", inPlace := ["internal/bytealg.IndexByteString", "internal/bytealg.IndexString", "internal/abi.NoEscape"], named := ["internal/bytealg.MaxLen"], apart := false, narrowed := true }
def HexBackUptoSaid : Prop := hexBackUptoRow.holds Try.pinned (OpenSpec.upto hexBackSpec)

/-- 'quicklimelaw02.HexLetters', WHERE WHAT IT READS IS OF BULK AT MOST 1048576: true; the input reads as it did. -/
def hexLettersUptoRow : OpenClaim := { program := "ythfjlihfgmmomaa", sum := "4c52496f01cb182e2aa8004db193e21d1f678d45f4935cd083d3e3f2bbae33bd", func := "quicklime/quicklimelaw02.HexLetters", spec := "hexLetters", inPlace := ["internal/bytealg.IndexByteString", "internal/bytealg.IndexString", "internal/abi.NoEscape"], named := ["internal/bytealg.MaxLen"], apart := false, narrowed := true }
def HexLettersUptoSaid : Prop := hexLettersUptoRow.holds Try.pinned (OpenSpec.upto hexLettersSpec)

/-- 'quicklimelaw02.HexApart', WHERE WHAT IT READS IS OF BULK AT MOST 1048576: true; the input reads as it did. -/
def hexApartUptoRow : OpenClaim := { program := "ythfjlihfgmmomaa", sum := "4c52496f01cb182e2aa8004db193e21d1f678d45f4935cd083d3e3f2bbae33bd", func := "quicklime/quicklimelaw02.HexApart", spec := "hexApart", inPlace := ["internal/bytealg.IndexByteString", "internal/bytealg.IndexString", "internal/abi.NoEscape"], named := ["internal/bytealg.MaxLen"], apart := false, narrowed := true }
def HexApartUptoSaid : Prop := hexApartUptoRow.holds Try.pinned (OpenSpec.upto hexApartSpec)

/-- 'quicklimelaw02.HexHalf', WHERE WHAT IT READS IS OF BULK AT MOST 1048576: true; the input reads as it did. -/
def hexHalfUptoRow : OpenClaim := { program := "ythfjlihfgmmomaa", sum := "4c52496f01cb182e2aa8004db193e21d1f678d45f4935cd083d3e3f2bbae33bd", func := "quicklime/quicklimelaw02.HexHalf", spec := "hexHalf", inPlace := ["internal/bytealg.IndexByteString", "internal/bytealg.IndexString", "internal/abi.NoEscape"], named := ["internal/bytealg.MaxLen"], apart := false, narrowed := true }
def HexHalfUptoSaid : Prop := hexHalfUptoRow.holds Try.pinned (OpenSpec.upto hexHalfSpec)

/-- 'quicklimelaw02.HexSizes', WHERE WHAT IT READS IS OF BULK AT MOST 1048576: true; the input reads as it did. -/
def hexSizesUptoRow : OpenClaim := { program := "ythfjlihfgmmomaa", sum := "4c52496f01cb182e2aa8004db193e21d1f678d45f4935cd083d3e3f2bbae33bd", func := "quicklime/quicklimelaw02.HexSizes", spec := "hexSizes", inPlace := ["internal/bytealg.IndexByteString", "internal/bytealg.IndexString", "internal/abi.NoEscape"], named := ["internal/bytealg.MaxLen"], apart := false, narrowed := true }
def HexSizesUptoSaid : Prop := hexSizesUptoRow.holds Try.pinned (OpenSpec.upto hexSizesSpec)

/-- 'quicklimelaw02.HexDigits', WHERE WHAT IT READS IS OF BULK AT MOST 1048576: true; the input reads as it did. -/
def hexDigitsUptoRow : OpenClaim := { program := "ythfjlihfgmmomaa", sum := "4c52496f01cb182e2aa8004db193e21d1f678d45f4935cd083d3e3f2bbae33bd", func := "quicklime/quicklimelaw02.HexDigits", spec := "hexDigits", inPlace := ["internal/bytealg.IndexByteString", "internal/bytealg.IndexString", "internal/abi.NoEscape"], named := ["internal/bytealg.MaxLen"], apart := false, narrowed := true }
def HexDigitsUptoSaid : Prop := hexDigitsUptoRow.holds Try.pinned (OpenSpec.upto hexDigitsSpec)

end Rows
end Go.Proofs.Ythfjlihfgmmomaa
