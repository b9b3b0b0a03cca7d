/-
  No cell of these rows narrows 'for every input' (looked for: loops, veiled, ifaces, maps, wideKeys, modest, calm, conditions, laid).
  DERIVED. THE GIVEN ROWS OF THIS SEAT. 5 by the template 'for every input the law returns true; each argument reads behind the call as it read before'; 0 by the template 'total and deterministic' (their statements: YtbcpbndhkainnaaTotals.lean).
  GIVEN WITH THE SEED: the statements are not yours to turn. If you find one false, say at which input.
  Laid BY PROGRAM, IN A SANDBOX (cutbox-rows.mjs): the forced cells as the released guide's own fill.sh prints them over the translation 2f0388e1a0b2a60e… (all of the seat's roots in one cut). By AI agents, Wed Nov 11 2026. No macro, syntax, notation, axiom, sorry.
-/
import Derived.Test.YtbcpbndhkainnaaChecked
import GoSem.Claim
import GoSem.ClaimJoined
import GoSem.ClaimMapViews
import Derived.JoinedTies
import Derived.KernelRfl
namespace Go.Proofs.Ytbcpbndhkainnaa
/- THE CELL 'sum', in the pinned program and in every row, IS THE sha256 OF THE DUMP (.gsa) THAT YtbcpbndhkainnaaProg.lean LOADS. Nothing in Lean hashes anything: it is a label: what it is worth is what the hold of that sum in a sandbox is worth. -/
noncomputable def Try.pinned : Pinned := { name := "ytbcpbndhkainnaa", sum := "2f0388e1a0b2a60ed36ae0856820a680a8a76ffc1ff0dbf643ff20ce187de8ad", checked := Try.checked }
namespace Rows
def none {H : Type} : Left H := { results := [], args := [] }

/-- 'polyptychlaw2.EscaForms': WHATEVER THE INPUT: true; the input reads as it did. -/
def escaFormsSpec : ChangeSpec := { name := "escaForms", fn := fun _ => fun
  | [d] => { results := [.lit (.bool true)], args := [d] }
  | _ => none }
def escaFormsRow : OpenClaim := { program := "ytbcpbndhkainnaa", sum := "2f0388e1a0b2a60ed36ae0856820a680a8a76ffc1ff0dbf643ff20ce187de8ad", func := "polyptych/polyptychlaw2.EscaForms", spec := "escaForms", unfollowed := true, recurses := true, apart := false }
def EscaFormsSaid : Prop := escaFormsRow.holds Try.pinned (OpenSpec.ofChange escaFormsSpec)

/-- ITS FALSE NEIGHBOUR: 'it returns false'. Refute it at one input. -/
def escaFormsWrong : ChangeSpec := { name := "escaForms", fn := fun _ => fun
  | [d] => { results := [.lit (.bool false)], args := [d] }
  | _ => none }
def EscaFormsWrongFalsely : Prop := escaFormsRow.holds Try.pinned (OpenSpec.ofChange escaFormsWrong)

/-- 'polyptychlaw2.EscaMany': WHATEVER THE INPUT: true; the input reads as it did. -/
def escaManySpec : ChangeSpec := { name := "escaMany", fn := fun _ => fun
  | [d1, d2, d3] => { results := [.lit (.bool true)], args := [d1, d2, d3] }
  | _ => none }
def escaManyRow : OpenClaim := { program := "ytbcpbndhkainnaa", sum := "2f0388e1a0b2a60ed36ae0856820a680a8a76ffc1ff0dbf643ff20ce187de8ad", func := "polyptych/polyptychlaw2.EscaMany", spec := "escaMany", apart := false }
def EscaManySaid : Prop := escaManyRow.holds Try.pinned (OpenSpec.ofChange escaManySpec)

/-- ITS FALSE NEIGHBOUR: 'it returns false'. Refute it at one input. -/
def escaManyWrong : ChangeSpec := { name := "escaMany", fn := fun _ => fun
  | [d1, d2, d3] => { results := [.lit (.bool false)], args := [d1, d2, d3] }
  | _ => none }
def EscaManyWrongFalsely : Prop := escaManyRow.holds Try.pinned (OpenSpec.ofChange escaManyWrong)

/-- 'polyptychlaw2.EscaStrings': WHATEVER THE INPUT: true; the input reads as it did. -/
def escaStringsSpec : ChangeSpec := { name := "escaStrings", fn := fun _ => fun
  | [d1, d2, d3] => { results := [.lit (.bool true)], args := [d1, d2, d3] }
  | _ => none }
def escaStringsRow : OpenClaim := { program := "ytbcpbndhkainnaa", sum := "2f0388e1a0b2a60ed36ae0856820a680a8a76ffc1ff0dbf643ff20ce187de8ad", func := "polyptych/polyptychlaw2.EscaStrings", spec := "escaStrings", apart := false }
def EscaStringsSaid : Prop := escaStringsRow.holds Try.pinned (OpenSpec.ofChange escaStringsSpec)

/-- ITS FALSE NEIGHBOUR: 'it returns false'. Refute it at one input. -/
def escaStringsWrong : ChangeSpec := { name := "escaStrings", fn := fun _ => fun
  | [d1, d2, d3] => { results := [.lit (.bool false)], args := [d1, d2, d3] }
  | _ => none }
def EscaStringsWrongFalsely : Prop := escaStringsRow.holds Try.pinned (OpenSpec.ofChange escaStringsWrong)

/-- 'polyptychlaw2.EscaCancel': WHATEVER THE INPUT: true; the input reads as it did. -/
def escaCancelSpec : ChangeSpec := { name := "escaCancel", fn := fun _ => fun
  | [d1, d2, d3] => { results := [.lit (.bool true)], args := [d1, d2, d3] }
  | _ => none }
def escaCancelRow : OpenClaim := { program := "ytbcpbndhkainnaa", sum := "2f0388e1a0b2a60ed36ae0856820a680a8a76ffc1ff0dbf643ff20ce187de8ad", func := "polyptych/polyptychlaw2.EscaCancel", spec := "escaCancel", apart := false }
def EscaCancelSaid : Prop := escaCancelRow.holds Try.pinned (OpenSpec.ofChange escaCancelSpec)

/-- ITS FALSE NEIGHBOUR: 'it returns false'. Refute it at one input. -/
def escaCancelWrong : ChangeSpec := { name := "escaCancel", fn := fun _ => fun
  | [d1, d2, d3] => { results := [.lit (.bool false)], args := [d1, d2, d3] }
  | _ => none }
def EscaCancelWrongFalsely : Prop := escaCancelRow.holds Try.pinned (OpenSpec.ofChange escaCancelWrong)

/-- 'polyptychlaw2.EscaParts': WHATEVER THE INPUT: true; the input reads as it did. -/
def escaPartsSpec : ChangeSpec := { name := "escaParts", fn := fun _ => fun
  | [d1, d2, d3, d4] => { results := [.lit (.bool true)], args := [d1, d2, d3, d4] }
  | _ => none }
def escaPartsRow : OpenClaim := { program := "ytbcpbndhkainnaa", sum := "2f0388e1a0b2a60ed36ae0856820a680a8a76ffc1ff0dbf643ff20ce187de8ad", func := "polyptych/polyptychlaw2.EscaParts", spec := "escaParts", apart := false }
def EscaPartsSaid : Prop := escaPartsRow.holds Try.pinned (OpenSpec.ofChange escaPartsSpec)

/-- ITS FALSE NEIGHBOUR: 'it returns false'. Refute it at one input. -/
def escaPartsWrong : ChangeSpec := { name := "escaParts", fn := fun _ => fun
  | [d1, d2, d3, d4] => { results := [.lit (.bool false)], args := [d1, d2, d3, d4] }
  | _ => none }
def EscaPartsWrongFalsely : Prop := escaPartsRow.holds Try.pinned (OpenSpec.ofChange escaPartsWrong)

/- THE SECOND FORM. 'bulk': how many values and letters a reading holds, each counted each time it is reached (what is shared counts as often as it is met; a slice's spare places count too). A statement '..UptoSaid' is the law's where the arguments, and the package variables that the reading takes, are together of bulk at most 1048576: NARROWER than '..Said'. Prove '..Said' where nothing that the law and all that it calls make is longer than what came in: it says more and counts as full. Else prove '..UptoSaid'. A law counts once. -/
mutual
def uptoBulk {H : Type} : DataW H → Nat
  | .lit (.string bytes) => bytes.length + 1
  | .lit _ => 1
  | .nil => 1
  | .ptr d => uptoBulk d + 1
  | .slice elems spare => uptoBulkAll elems + uptoBulkAll spare + 1
  | .agg parts => uptoBulkAll parts + 1
  | .iface _ d => uptoBulk d + 1
  | .map entries => uptoBulkEntries entries + 1
  | .held _ => 1
def uptoBulkAll {H : Type} : List (DataW H) → Nat
  | [] => 0
  | d :: r => uptoBulk d + uptoBulkAll r
def uptoBulkEntries {H : Type} : List (Lit × DataW H) → Nat
  | [] => 0
  | x :: r => uptoBulkEntry x + uptoBulkEntries r
def uptoBulkEntry {H : Type} : Lit × DataW H → Nat
  | (.string bytes, d) => bytes.length + uptoBulk d + 1
  | (_, d) => uptoBulk d + 1
 end
def uptoSmall : (H : Type) → List (DataW H) → Bool := fun _ ds => decide (uptoBulkAll ds ≤ 1048576)
def OpenSpec.upto (s : _root_.Go.ChangeSpec) : _root_.Go.OpenSpec := { _root_.Go.OpenSpec.ofChange s with cond := some uptoSmall }

/-- 'polyptychlaw2.EscaForms', WHERE WHAT IT READS IS OF BULK AT MOST 1048576: true; the input reads as it did. -/
def escaFormsUptoRow : OpenClaim := { program := "ytbcpbndhkainnaa", sum := "2f0388e1a0b2a60ed36ae0856820a680a8a76ffc1ff0dbf643ff20ce187de8ad", func := "polyptych/polyptychlaw2.EscaForms", spec := "escaForms", unfollowed := true, recurses := true, apart := false, narrowed := true }
def EscaFormsUptoSaid : Prop := escaFormsUptoRow.holds Try.pinned (OpenSpec.upto escaFormsSpec)

/-- 'polyptychlaw2.EscaMany', WHERE WHAT IT READS IS OF BULK AT MOST 1048576: true; the input reads as it did. -/
def escaManyUptoRow : OpenClaim := { program := "ytbcpbndhkainnaa", sum := "2f0388e1a0b2a60ed36ae0856820a680a8a76ffc1ff0dbf643ff20ce187de8ad", func := "polyptych/polyptychlaw2.EscaMany", spec := "escaMany", apart := false, narrowed := true }
def EscaManyUptoSaid : Prop := escaManyUptoRow.holds Try.pinned (OpenSpec.upto escaManySpec)

/-- 'polyptychlaw2.EscaStrings', WHERE WHAT IT READS IS OF BULK AT MOST 1048576: true; the input reads as it did. -/
def escaStringsUptoRow : OpenClaim := { program := "ytbcpbndhkainnaa", sum := "2f0388e1a0b2a60ed36ae0856820a680a8a76ffc1ff0dbf643ff20ce187de8ad", func := "polyptych/polyptychlaw2.EscaStrings", spec := "escaStrings", apart := false, narrowed := true }
def EscaStringsUptoSaid : Prop := escaStringsUptoRow.holds Try.pinned (OpenSpec.upto escaStringsSpec)

/-- 'polyptychlaw2.EscaCancel', WHERE WHAT IT READS IS OF BULK AT MOST 1048576: true; the input reads as it did. -/
def escaCancelUptoRow : OpenClaim := { program := "ytbcpbndhkainnaa", sum := "2f0388e1a0b2a60ed36ae0856820a680a8a76ffc1ff0dbf643ff20ce187de8ad", func := "polyptych/polyptychlaw2.EscaCancel", spec := "escaCancel", apart := false, narrowed := true }
def EscaCancelUptoSaid : Prop := escaCancelUptoRow.holds Try.pinned (OpenSpec.upto escaCancelSpec)

/-- 'polyptychlaw2.EscaParts', WHERE WHAT IT READS IS OF BULK AT MOST 1048576: true; the input reads as it did. -/
def escaPartsUptoRow : OpenClaim := { program := "ytbcpbndhkainnaa", sum := "2f0388e1a0b2a60ed36ae0856820a680a8a76ffc1ff0dbf643ff20ce187de8ad", func := "polyptych/polyptychlaw2.EscaParts", spec := "escaParts", apart := false, narrowed := true }
def EscaPartsUptoSaid : Prop := escaPartsUptoRow.holds Try.pinned (OpenSpec.upto escaPartsSpec)

end Rows
end Go.Proofs.Ytbcpbndhkainnaa
