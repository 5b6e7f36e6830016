/-
  No cell of these rows narrows 'for every input' (looked for: loops, veiled, ifaces, maps, wideKeys, modest, calm, conditions, laid).
  DERIVED. THE GIVEN ROWS OF THIS SEAT. 4 by the template 'for every input the law returns true; each argument reads behind the call as it read before'; 0 by the template 'total and deterministic' (their statements: YtlgancadedlbiaaTotals.lean).
  GIVEN WITH THE SEED: the statements are not yours to turn. If you find one false, say at which input.
  Laid BY PROGRAM, IN A SANDBOX (cutbox-rows.mjs): the forced cells as the released guide's own fill.sh prints them over the translation b244e2d0c0a81910… (all of the seat's roots in one cut). By AI agents, Wed Nov 11 2026. No macro, syntax, notation, axiom, sorry.
-/
import Derived.Test.YtlgancadedlbiaaChecked
import GoSem.Claim
import GoSem.ClaimJoined
import GoSem.ClaimMapViews
import Derived.JoinedTies
import Derived.KernelRfl
namespace Go.Proofs.Ytlgancadedlbiaa
/- THE CELL 'sum', in the pinned program and in every row, IS THE sha256 OF THE DUMP (.gsa) THAT YtlgancadedlbiaaProg.lean LOADS. Nothing in Lean hashes anything: it is a label: what it is worth is what the hold of that sum in a sandbox is worth. -/
noncomputable def Try.pinned : Pinned := { name := "ytlgancadedlbiaa", sum := "b244e2d0c0a81910094ca00ca7a69ef365c0bd377200d78d9f2785ce28ab4ef9", checked := Try.checked }
namespace Rows
def none {H : Type} : Left H := { results := [], args := [] }

/-- 'jetonlaw20.RegisterChecks': WHATEVER THE INPUT: true; the input reads as it did. -/
def registerChecksSpec : ChangeSpec := { name := "registerChecks", fn := fun _ => fun
  | [d] => { results := [.lit (.bool true)], args := [d] }
  | _ => none }
def registerChecksRow : OpenClaim := { program := "ytlgancadedlbiaa", sum := "b244e2d0c0a81910094ca00ca7a69ef365c0bd377200d78d9f2785ce28ab4ef9", func := "jeton/jetonlaw20.RegisterChecks", spec := "registerChecks", apart := false }
def RegisterChecksSaid : Prop := registerChecksRow.holds Try.pinned (OpenSpec.ofChange registerChecksSpec)

/-- ITS FALSE NEIGHBOUR: 'it returns false'. Refute it at one input. -/
def registerChecksWrong : ChangeSpec := { name := "registerChecks", fn := fun _ => fun
  | [d] => { results := [.lit (.bool false)], args := [d] }
  | _ => none }
def RegisterChecksWrongFalsely : Prop := registerChecksRow.holds Try.pinned (OpenSpec.ofChange registerChecksWrong)

/-- 'jetonlaw20.RegisterValues': WHATEVER THE INPUT: true; the input reads as it did. -/
def registerValuesSpec : ChangeSpec := { name := "registerValues", fn := fun _ => fun
  | [d1, d2] => { results := [.lit (.bool true)], args := [d1, d2] }
  | _ => none }
def registerValuesRow : OpenClaim := { program := "ytlgancadedlbiaa", sum := "b244e2d0c0a81910094ca00ca7a69ef365c0bd377200d78d9f2785ce28ab4ef9", func := "jeton/jetonlaw20.RegisterValues", spec := "registerValues", apart := false }
def RegisterValuesSaid : Prop := registerValuesRow.holds Try.pinned (OpenSpec.ofChange registerValuesSpec)

/-- ITS FALSE NEIGHBOUR: 'it returns false'. Refute it at one input. -/
def registerValuesWrong : ChangeSpec := { name := "registerValues", fn := fun _ => fun
  | [d1, d2] => { results := [.lit (.bool false)], args := [d1, d2] }
  | _ => none }
def RegisterValuesWrongFalsely : Prop := registerValuesRow.holds Try.pinned (OpenSpec.ofChange registerValuesWrong)

/-- 'jetonlaw20.RegisterFront': WHATEVER THE INPUT: true; the input reads as it did. -/
def registerFrontSpec : ChangeSpec := { name := "registerFront", fn := fun _ => fun
  | [d1, d2] => { results := [.lit (.bool true)], args := [d1, d2] }
  | _ => none }
def registerFrontRow : OpenClaim := { program := "ytlgancadedlbiaa", sum := "b244e2d0c0a81910094ca00ca7a69ef365c0bd377200d78d9f2785ce28ab4ef9", func := "jeton/jetonlaw20.RegisterFront", spec := "registerFront", apart := false }
def RegisterFrontSaid : Prop := registerFrontRow.holds Try.pinned (OpenSpec.ofChange registerFrontSpec)

/-- ITS FALSE NEIGHBOUR: 'it returns false'. Refute it at one input. -/
def registerFrontWrong : ChangeSpec := { name := "registerFront", fn := fun _ => fun
  | [d1, d2] => { results := [.lit (.bool false)], args := [d1, d2] }
  | _ => none }
def RegisterFrontWrongFalsely : Prop := registerFrontRow.holds Try.pinned (OpenSpec.ofChange registerFrontWrong)

/-- 'jetonlaw20.RegisterBlocks': WHATEVER THE INPUT: true; the input reads as it did. -/
def registerBlocksSpec : ChangeSpec := { name := "registerBlocks", fn := fun _ => fun
  | [d1, d2] => { results := [.lit (.bool true)], args := [d1, d2] }
  | _ => none }
def registerBlocksRow : OpenClaim := { program := "ytlgancadedlbiaa", sum := "b244e2d0c0a81910094ca00ca7a69ef365c0bd377200d78d9f2785ce28ab4ef9", func := "jeton/jetonlaw20.RegisterBlocks", spec := "registerBlocks", apart := false }
def RegisterBlocksSaid : Prop := registerBlocksRow.holds Try.pinned (OpenSpec.ofChange registerBlocksSpec)

/-- ITS FALSE NEIGHBOUR: 'it returns false'. Refute it at one input. -/
def registerBlocksWrong : ChangeSpec := { name := "registerBlocks", fn := fun _ => fun
  | [d1, d2] => { results := [.lit (.bool false)], args := [d1, d2] }
  | _ => none }
def RegisterBlocksWrongFalsely : Prop := registerBlocksRow.holds Try.pinned (OpenSpec.ofChange registerBlocksWrong)

/- THE SECOND FORM. 'bulk': how many values and letters a reading holds, each counted each time it is reached (what is shared counts as often as it is met; a slice's spare places count too). A statement '..UptoSaid' is the law's where the arguments, and the package variables that the reading takes, are together of bulk at most 1048576: NARROWER than '..Said'. Prove '..Said' where nothing that the law and all that it calls make is longer than what came in: it says more and counts as full. Else prove '..UptoSaid'. A law counts once. -/
mutual
def uptoBulk {H : Type} : DataW H → Nat
  | .lit (.string bytes) => bytes.length + 1
  | .lit _ => 1
  | .nil => 1
  | .ptr d => uptoBulk d + 1
  | .slice elems spare => uptoBulkAll elems + uptoBulkAll spare + 1
  | .agg parts => uptoBulkAll parts + 1
  | .iface _ d => uptoBulk d + 1
  | .map entries => uptoBulkEntries entries + 1
  | .held _ => 1
def uptoBulkAll {H : Type} : List (DataW H) → Nat
  | [] => 0
  | d :: r => uptoBulk d + uptoBulkAll r
def uptoBulkEntries {H : Type} : List (Lit × DataW H) → Nat
  | [] => 0
  | x :: r => uptoBulkEntry x + uptoBulkEntries r
def uptoBulkEntry {H : Type} : Lit × DataW H → Nat
  | (.string bytes, d) => bytes.length + uptoBulk d + 1
  | (_, d) => uptoBulk d + 1
 end
def uptoSmall : (H : Type) → List (DataW H) → Bool := fun _ ds => decide (uptoBulkAll ds ≤ 1048576)
def OpenSpec.upto (s : _root_.Go.ChangeSpec) : _root_.Go.OpenSpec := { _root_.Go.OpenSpec.ofChange s with cond := some uptoSmall }

/-- 'jetonlaw20.RegisterChecks', WHERE WHAT IT READS IS OF BULK AT MOST 1048576: true; the input reads as it did. -/
def registerChecksUptoRow : OpenClaim := { program := "ytlgancadedlbiaa", sum := "b244e2d0c0a81910094ca00ca7a69ef365c0bd377200d78d9f2785ce28ab4ef9", func := "jeton/jetonlaw20.RegisterChecks", spec := "registerChecks", apart := false, narrowed := true }
def RegisterChecksUptoSaid : Prop := registerChecksUptoRow.holds Try.pinned (OpenSpec.upto registerChecksSpec)

/-- 'jetonlaw20.RegisterValues', WHERE WHAT IT READS IS OF BULK AT MOST 1048576: true; the input reads as it did. -/
def registerValuesUptoRow : OpenClaim := { program := "ytlgancadedlbiaa", sum := "b244e2d0c0a81910094ca00ca7a69ef365c0bd377200d78d9f2785ce28ab4ef9", func := "jeton/jetonlaw20.RegisterValues", spec := "registerValues", apart := false, narrowed := true }
def RegisterValuesUptoSaid : Prop := registerValuesUptoRow.holds Try.pinned (OpenSpec.upto registerValuesSpec)

/-- 'jetonlaw20.RegisterFront', WHERE WHAT IT READS IS OF BULK AT MOST 1048576: true; the input reads as it did. -/
def registerFrontUptoRow : OpenClaim := { program := "ytlgancadedlbiaa", sum := "b244e2d0c0a81910094ca00ca7a69ef365c0bd377200d78d9f2785ce28ab4ef9", func := "jeton/jetonlaw20.RegisterFront", spec := "registerFront", apart := false, narrowed := true }
def RegisterFrontUptoSaid : Prop := registerFrontUptoRow.holds Try.pinned (OpenSpec.upto registerFrontSpec)

/-- 'jetonlaw20.RegisterBlocks', WHERE WHAT IT READS IS OF BULK AT MOST 1048576: true; the input reads as it did. -/
def registerBlocksUptoRow : OpenClaim := { program := "ytlgancadedlbiaa", sum := "b244e2d0c0a81910094ca00ca7a69ef365c0bd377200d78d9f2785ce28ab4ef9", func := "jeton/jetonlaw20.RegisterBlocks", spec := "registerBlocks", apart := false, narrowed := true }
def RegisterBlocksUptoSaid : Prop := registerBlocksUptoRow.holds Try.pinned (OpenSpec.upto registerBlocksSpec)

end Rows
end Go.Proofs.Ytlgancadedlbiaa
