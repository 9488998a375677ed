/-
  No cell of these rows narrows 'for every input' (looked for: loops, veiled, ifaces, maps, wideKeys, modest, calm, conditions, laid).
  DERIVED. THE GIVEN ROWS OF THIS SEAT. 7 by the template 'for every input the law returns true; each argument reads behind the call as it read before'; 0 by the template 'total and deterministic' (their statements: YtonidoghcihnnaaTotals.lean).
  GIVEN WITH THE SEED: the statements are not yours to turn. If you find one false, say at which input.
  Laid BY PROGRAM, IN A SANDBOX (cutbox-rows.mjs): the forced cells as the released guide's own fill.sh prints them over the translation 3defc3bce15f0fd8… (all of the seat's roots in one cut). By AI agents, Wed Nov 11 2026. No macro, syntax, notation, axiom, sorry.
-/
import Derived.Test.YtonidoghcihnnaaChecked
import GoSem.Claim
import GoSem.ClaimJoined
import GoSem.ClaimMapViews
import Derived.JoinedTies
import Derived.KernelRfl
namespace Go.Proofs.Ytonidoghcihnnaa
/- THE CELL 'sum', in the pinned program and in every row, IS THE sha256 OF THE DUMP (.gsa) THAT YtonidoghcihnnaaProg.lean LOADS. Nothing in Lean hashes anything: it is a label: what it is worth is what the hold of that sum in a sandbox is worth. -/
noncomputable def Try.pinned : Pinned := { name := "ytonidoghcihnnaa", sum := "3defc3bce15f0fd8ba42aa235f2fd7625177130c593f86e2de17c1ded8a305f2", checked := Try.checked }
namespace Rows
def none {H : Type} : Left H := { results := [], args := [] }

/-- 'orrerylaw05.TapeRights': WHATEVER THE INPUT: true; the input reads as it did. -/
def tapeRightsSpec : ChangeSpec := { name := "tapeRights", fn := fun _ => fun
  | [d] => { results := [.lit (.bool true)], args := [d] }
  | _ => none }
def tapeRightsRow : OpenClaim := { program := "ytonidoghcihnnaa", sum := "3defc3bce15f0fd8ba42aa235f2fd7625177130c593f86e2de17c1ded8a305f2", func := "orrery/orrerylaw05.TapeRights", spec := "tapeRights", inPlace := ["math.Float64frombits", "math.Float64bits"], unfollowed := true, recurses := true, plainKeys := false, apart := false }
def TapeRightsSaid : Prop := tapeRightsRow.holds Try.pinned (OpenSpec.ofChange tapeRightsSpec)

/-- ITS FALSE NEIGHBOUR: 'it returns false'. Refute it at one input. -/
def tapeRightsWrong : ChangeSpec := { name := "tapeRights", fn := fun _ => fun
  | [d] => { results := [.lit (.bool false)], args := [d] }
  | _ => none }
def TapeRightsWrongFalsely : Prop := tapeRightsRow.holds Try.pinned (OpenSpec.ofChange tapeRightsWrong)

/-- 'orrerylaw05.TapeTrims': WHATEVER THE INPUT: true; the input reads as it did. -/
def tapeTrimsSpec : ChangeSpec := { name := "tapeTrims", fn := fun _ => fun
  | [d] => { results := [.lit (.bool true)], args := [d] }
  | _ => none }
def tapeTrimsRow : OpenClaim := { program := "ytonidoghcihnnaa", sum := "3defc3bce15f0fd8ba42aa235f2fd7625177130c593f86e2de17c1ded8a305f2", func := "orrery/orrerylaw05.TapeTrims", spec := "tapeTrims", inPlace := ["math.Float64frombits", "math.Float64bits"], unfollowed := true, recurses := true, plainKeys := false, apart := false }
def TapeTrimsSaid : Prop := tapeTrimsRow.holds Try.pinned (OpenSpec.ofChange tapeTrimsSpec)

/-- ITS FALSE NEIGHBOUR: 'it returns false'. Refute it at one input. -/
def tapeTrimsWrong : ChangeSpec := { name := "tapeTrims", fn := fun _ => fun
  | [d] => { results := [.lit (.bool false)], args := [d] }
  | _ => none }
def TapeTrimsWrongFalsely : Prop := tapeTrimsRow.holds Try.pinned (OpenSpec.ofChange tapeTrimsWrong)

/-- 'orrerylaw02.IvalSizes': WHATEVER THE INPUT: true; the input reads as it did. -/
def ivalSizesSpec : ChangeSpec := { name := "ivalSizes", fn := fun _ => fun
  | [d] => { results := [.lit (.bool true)], args := [d] }
  | _ => none }
def ivalSizesRow : OpenClaim := { program := "ytonidoghcihnnaa", sum := "3defc3bce15f0fd8ba42aa235f2fd7625177130c593f86e2de17c1ded8a305f2", func := "orrery/orrerylaw02.IvalSizes", spec := "ivalSizes", inPlace := ["math.Float64frombits", "math.Float64bits", "math/bits.Add64", "math/bits.Sub64"], plainKeys := false, apart := false }
def IvalSizesSaid : Prop := ivalSizesRow.holds Try.pinned (OpenSpec.ofChange ivalSizesSpec)

/-- ITS FALSE NEIGHBOUR: 'it returns false'. Refute it at one input. -/
def ivalSizesWrong : ChangeSpec := { name := "ivalSizes", fn := fun _ => fun
  | [d] => { results := [.lit (.bool false)], args := [d] }
  | _ => none }
def IvalSizesWrongFalsely : Prop := ivalSizesRow.holds Try.pinned (OpenSpec.ofChange ivalSizesWrong)

/-- 'orrerylaw02.IvalSums': WHATEVER THE INPUT: true; the input reads as it did. -/
def ivalSumsSpec : ChangeSpec := { name := "ivalSums", fn := fun _ => fun
  | [d1, d2] => { results := [.lit (.bool true)], args := [d1, d2] }
  | _ => none }
def ivalSumsRow : OpenClaim := { program := "ytonidoghcihnnaa", sum := "3defc3bce15f0fd8ba42aa235f2fd7625177130c593f86e2de17c1ded8a305f2", func := "orrery/orrerylaw02.IvalSums", spec := "ivalSums", inPlace := ["math.Float64frombits", "math.Float64bits", "math/bits.Add64", "math/bits.Sub64"], plainKeys := false, apart := false }
def IvalSumsSaid : Prop := ivalSumsRow.holds Try.pinned (OpenSpec.ofChange ivalSumsSpec)

/-- ITS FALSE NEIGHBOUR: 'it returns false'. Refute it at one input. -/
def ivalSumsWrong : ChangeSpec := { name := "ivalSums", fn := fun _ => fun
  | [d1, d2] => { results := [.lit (.bool false)], args := [d1, d2] }
  | _ => none }
def IvalSumsWrongFalsely : Prop := ivalSumsRow.holds Try.pinned (OpenSpec.ofChange ivalSumsWrong)

/-- 'orrerylaw02.IvalQuotients': WHATEVER THE INPUT: true; the input reads as it did. -/
def ivalQuotientsSpec : ChangeSpec := { name := "ivalQuotients", fn := fun _ => fun
  | [d1, d2] => { results := [.lit (.bool true)], args := [d1, d2] }
  | _ => none }
def ivalQuotientsRow : OpenClaim := { program := "ytonidoghcihnnaa", sum := "3defc3bce15f0fd8ba42aa235f2fd7625177130c593f86e2de17c1ded8a305f2", func := "orrery/orrerylaw02.IvalQuotients", spec := "ivalQuotients", inPlace := ["math.Float64frombits", "math.Float64bits"], unfollowed := true, recurses := true, named := ["math/bits.divideError", "math/bits.overflowError"], plainKeys := false, apart := false }
def IvalQuotientsSaid : Prop := ivalQuotientsRow.holds Try.pinned (OpenSpec.ofChange ivalQuotientsSpec)

/-- ITS FALSE NEIGHBOUR: 'it returns false'. Refute it at one input. -/
def ivalQuotientsWrong : ChangeSpec := { name := "ivalQuotients", fn := fun _ => fun
  | [d1, d2] => { results := [.lit (.bool false)], args := [d1, d2] }
  | _ => none }
def IvalQuotientsWrongFalsely : Prop := ivalQuotientsRow.holds Try.pinned (OpenSpec.ofChange ivalQuotientsWrong)

/-- 'orrerylaw02.IvalProducts': WHATEVER THE INPUT: true; the input reads as it did. -/
def ivalProductsSpec : ChangeSpec := { name := "ivalProducts", fn := fun _ => fun
  | [d1, d2] => { results := [.lit (.bool true)], args := [d1, d2] }
  | _ => none }
def ivalProductsRow : OpenClaim := { program := "ytonidoghcihnnaa", sum := "3defc3bce15f0fd8ba42aa235f2fd7625177130c593f86e2de17c1ded8a305f2", func := "orrery/orrerylaw02.IvalProducts", spec := "ivalProducts", inPlace := ["math.Float64frombits", "math.Float64bits"], unfollowed := true, recurses := true, named := ["math/bits.divideError", "math/bits.overflowError"], plainKeys := false, apart := false }
def IvalProductsSaid : Prop := ivalProductsRow.holds Try.pinned (OpenSpec.ofChange ivalProductsSpec)

/-- ITS FALSE NEIGHBOUR: 'it returns false'. Refute it at one input. -/
def ivalProductsWrong : ChangeSpec := { name := "ivalProducts", fn := fun _ => fun
  | [d1, d2] => { results := [.lit (.bool false)], args := [d1, d2] }
  | _ => none }
def IvalProductsWrongFalsely : Prop := ivalProductsRow.holds Try.pinned (OpenSpec.ofChange ivalProductsWrong)

/-- 'orrerylaw02.IvalLattice': WHATEVER THE INPUT: true; the input reads as it did. -/
def ivalLatticeSpec : ChangeSpec := { name := "ivalLattice", fn := fun _ => fun
  | [d1, d2, d3] => { results := [.lit (.bool true)], args := [d1, d2, d3] }
  | _ => none }
def ivalLatticeRow : OpenClaim := { program := "ytonidoghcihnnaa", sum := "3defc3bce15f0fd8ba42aa235f2fd7625177130c593f86e2de17c1ded8a305f2", func := "orrery/orrerylaw02.IvalLattice", spec := "ivalLattice", inPlace := ["math.Float64frombits", "math.Float64bits", "math/bits.Add64", "math/bits.Sub64"], unfollowed := true, recurses := true, named := ["math/bits.divideError", "math/bits.overflowError"], plainKeys := false, apart := false }
def IvalLatticeSaid : Prop := ivalLatticeRow.holds Try.pinned (OpenSpec.ofChange ivalLatticeSpec)

/-- ITS FALSE NEIGHBOUR: 'it returns false'. Refute it at one input. -/
def ivalLatticeWrong : ChangeSpec := { name := "ivalLattice", fn := fun _ => fun
  | [d1, d2, d3] => { results := [.lit (.bool false)], args := [d1, d2, d3] }
  | _ => none }
def IvalLatticeWrongFalsely : Prop := ivalLatticeRow.holds Try.pinned (OpenSpec.ofChange ivalLatticeWrong)

/- THE SECOND FORM. 'bulk': how many values and letters a reading holds, each counted each time it is reached (what is shared counts as often as it is met; a slice's spare places count too). A statement '..UptoSaid' is the law's where the arguments, and the package variables that the reading takes, are together of bulk at most 1048576: NARROWER than '..Said'. Prove '..Said' where nothing that the law and all that it calls make is longer than what came in: it says more and counts as full. Else prove '..UptoSaid'. A law counts once. -/
mutual
def uptoBulk {H : Type} : DataW H → Nat
  | .lit (.string bytes) => bytes.length + 1
  | .lit _ => 1
  | .nil => 1
  | .ptr d => uptoBulk d + 1
  | .slice elems spare => uptoBulkAll elems + uptoBulkAll spare + 1
  | .agg parts => uptoBulkAll parts + 1
  | .iface _ d => uptoBulk d + 1
  | .map entries => uptoBulkEntries entries + 1
  | .held _ => 1
def uptoBulkAll {H : Type} : List (DataW H) → Nat
  | [] => 0
  | d :: r => uptoBulk d + uptoBulkAll r
def uptoBulkEntries {H : Type} : List (Lit × DataW H) → Nat
  | [] => 0
  | x :: r => uptoBulkEntry x + uptoBulkEntries r
def uptoBulkEntry {H : Type} : Lit × DataW H → Nat
  | (.string bytes, d) => bytes.length + uptoBulk d + 1
  | (_, d) => uptoBulk d + 1
 end
def uptoSmall : (H : Type) → List (DataW H) → Bool := fun _ ds => decide (uptoBulkAll ds ≤ 1048576)
def OpenSpec.upto (s : _root_.Go.ChangeSpec) : _root_.Go.OpenSpec := { _root_.Go.OpenSpec.ofChange s with cond := some uptoSmall }

/-- 'orrerylaw05.TapeRights', WHERE WHAT IT READS IS OF BULK AT MOST 1048576: true; the input reads as it did. -/
def tapeRightsUptoRow : OpenClaim := { program := "ytonidoghcihnnaa", sum := "3defc3bce15f0fd8ba42aa235f2fd7625177130c593f86e2de17c1ded8a305f2", func := "orrery/orrerylaw05.TapeRights", spec := "tapeRights", inPlace := ["math.Float64frombits", "math.Float64bits"], unfollowed := true, recurses := true, plainKeys := false, apart := false, narrowed := true }
def TapeRightsUptoSaid : Prop := tapeRightsUptoRow.holds Try.pinned (OpenSpec.upto tapeRightsSpec)

/-- 'orrerylaw05.TapeTrims', WHERE WHAT IT READS IS OF BULK AT MOST 1048576: true; the input reads as it did. -/
def tapeTrimsUptoRow : OpenClaim := { program := "ytonidoghcihnnaa", sum := "3defc3bce15f0fd8ba42aa235f2fd7625177130c593f86e2de17c1ded8a305f2", func := "orrery/orrerylaw05.TapeTrims", spec := "tapeTrims", inPlace := ["math.Float64frombits", "math.Float64bits"], unfollowed := true, recurses := true, plainKeys := false, apart := false, narrowed := true }
def TapeTrimsUptoSaid : Prop := tapeTrimsUptoRow.holds Try.pinned (OpenSpec.upto tapeTrimsSpec)

/-- 'orrerylaw02.IvalSizes', WHERE WHAT IT READS IS OF BULK AT MOST 1048576: true; the input reads as it did. -/
def ivalSizesUptoRow : OpenClaim := { program := "ytonidoghcihnnaa", sum := "3defc3bce15f0fd8ba42aa235f2fd7625177130c593f86e2de17c1ded8a305f2", func := "orrery/orrerylaw02.IvalSizes", spec := "ivalSizes", inPlace := ["math.Float64frombits", "math.Float64bits", "math/bits.Add64", "math/bits.Sub64"], plainKeys := false, apart := false, narrowed := true }
def IvalSizesUptoSaid : Prop := ivalSizesUptoRow.holds Try.pinned (OpenSpec.upto ivalSizesSpec)

/-- 'orrerylaw02.IvalSums', WHERE WHAT IT READS IS OF BULK AT MOST 1048576: true; the input reads as it did. -/
def ivalSumsUptoRow : OpenClaim := { program := "ytonidoghcihnnaa", sum := "3defc3bce15f0fd8ba42aa235f2fd7625177130c593f86e2de17c1ded8a305f2", func := "orrery/orrerylaw02.IvalSums", spec := "ivalSums", inPlace := ["math.Float64frombits", "math.Float64bits", "math/bits.Add64", "math/bits.Sub64"], plainKeys := false, apart := false, narrowed := true }
def IvalSumsUptoSaid : Prop := ivalSumsUptoRow.holds Try.pinned (OpenSpec.upto ivalSumsSpec)

/-- 'orrerylaw02.IvalQuotients', WHERE WHAT IT READS IS OF BULK AT MOST 1048576: true; the input reads as it did. -/
def ivalQuotientsUptoRow : OpenClaim := { program := "ytonidoghcihnnaa", sum := "3defc3bce15f0fd8ba42aa235f2fd7625177130c593f86e2de17c1ded8a305f2", func := "orrery/orrerylaw02.IvalQuotients", spec := "ivalQuotients", inPlace := ["math.Float64frombits", "math.Float64bits"], unfollowed := true, recurses := true, named := ["math/bits.divideError", "math/bits.overflowError"], plainKeys := false, apart := false, narrowed := true }
def IvalQuotientsUptoSaid : Prop := ivalQuotientsUptoRow.holds Try.pinned (OpenSpec.upto ivalQuotientsSpec)

/-- 'orrerylaw02.IvalProducts', WHERE WHAT IT READS IS OF BULK AT MOST 1048576: true; the input reads as it did. -/
def ivalProductsUptoRow : OpenClaim := { program := "ytonidoghcihnnaa", sum := "3defc3bce15f0fd8ba42aa235f2fd7625177130c593f86e2de17c1ded8a305f2", func := "orrery/orrerylaw02.IvalProducts", spec := "ivalProducts", inPlace := ["math.Float64frombits", "math.Float64bits"], unfollowed := true, recurses := true, named := ["math/bits.divideError", "math/bits.overflowError"], plainKeys := false, apart := false, narrowed := true }
def IvalProductsUptoSaid : Prop := ivalProductsUptoRow.holds Try.pinned (OpenSpec.upto ivalProductsSpec)

/-- 'orrerylaw02.IvalLattice', WHERE WHAT IT READS IS OF BULK AT MOST 1048576: true; the input reads as it did. -/
def ivalLatticeUptoRow : OpenClaim := { program := "ytonidoghcihnnaa", sum := "3defc3bce15f0fd8ba42aa235f2fd7625177130c593f86e2de17c1ded8a305f2", func := "orrery/orrerylaw02.IvalLattice", spec := "ivalLattice", inPlace := ["math.Float64frombits", "math.Float64bits", "math/bits.Add64", "math/bits.Sub64"], unfollowed := true, recurses := true, named := ["math/bits.divideError", "math/bits.overflowError"], plainKeys := false, apart := false, narrowed := true }
def IvalLatticeUptoSaid : Prop := ivalLatticeUptoRow.holds Try.pinned (OpenSpec.upto ivalLatticeSpec)

end Rows
end Go.Proofs.Ytonidoghcihnnaa
