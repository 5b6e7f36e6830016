/-
  No cell of these rows narrows 'for every input' (looked for: loops, veiled, ifaces, maps, wideKeys, modest, calm, conditions, laid).
  DERIVED. THE GIVEN ROWS OF THIS SEAT. 4 by the template 'for every input the law returns true; each argument reads behind the call as it read before'; 0 by the template 'total and deterministic' (their statements: YtamidchoghmmgaaTotals.lean).
  GIVEN WITH THE SEED: the statements are not yours to turn. If you find one false, say at which input.
  Laid BY PROGRAM, IN A SANDBOX (cutbox-rows.mjs): the forced cells as the released guide's own fill.sh prints them over the translation 4ce4de703e0a3b58… (all of the seat's roots in one cut). By AI agents, Wed Nov 11 2026. No macro, syntax, notation, axiom, sorry.
-/
import Derived.Test.YtamidchoghmmgaaChecked
import GoSem.Claim
import GoSem.ClaimJoined
import GoSem.ClaimMapViews
import Derived.JoinedTies
import Derived.KernelRfl
namespace Go.Proofs.Ytamidchoghmmgaa
/- THE CELL 'sum', in the pinned program and in every row, IS THE sha256 OF THE DUMP (.gsa) THAT YtamidchoghmmgaaProg.lean LOADS. Nothing in Lean hashes anything: it is a label: what it is worth is what the hold of that sum in a sandbox is worth. -/
noncomputable def Try.pinned : Pinned := { name := "ytamidchoghmmgaa", sum := "4ce4de703e0a3b58b30fe9b40c3f42ef88cbaafb4db7908ac0b6cbf75aa7fc97", checked := Try.checked }
namespace Rows
def none {H : Type} : Left H := { results := [], args := [] }

/-- 'jetonlaw08.LinesPlays': WHATEVER THE INPUT: true; the input reads as it did. -/
def linesPlaysSpec : ChangeSpec := { name := "linesPlays", fn := fun _ => fun
  | [d1, d2, d3] => { results := [.lit (.bool true)], args := [d1, d2, d3] }
  | _ => none }
def linesPlaysRow : OpenClaim := { program := "ytamidchoghmmgaa", sum := "4ce4de703e0a3b58b30fe9b40c3f42ef88cbaafb4db7908ac0b6cbf75aa7fc97", func := "jeton/jetonlaw08.LinesPlays", spec := "linesPlays", recurses := true, apart := false }
def LinesPlaysSaid : Prop := linesPlaysRow.holds Try.pinned (OpenSpec.ofChange linesPlaysSpec)

/-- ITS FALSE NEIGHBOUR: 'it returns false'. Refute it at one input. -/
def linesPlaysWrong : ChangeSpec := { name := "linesPlays", fn := fun _ => fun
  | [d1, d2, d3] => { results := [.lit (.bool false)], args := [d1, d2, d3] }
  | _ => none }
def LinesPlaysWrongFalsely : Prop := linesPlaysRow.holds Try.pinned (OpenSpec.ofChange linesPlaysWrong)

/-- 'jetonlaw08.LinesVictims': WHATEVER THE INPUT: true; the input reads as it did. -/
def linesVictimsSpec : ChangeSpec := { name := "linesVictims", fn := fun _ => fun
  | [d1, d2, d3] => { results := [.lit (.bool true)], args := [d1, d2, d3] }
  | _ => none }
def linesVictimsRow : OpenClaim := { program := "ytamidchoghmmgaa", sum := "4ce4de703e0a3b58b30fe9b40c3f42ef88cbaafb4db7908ac0b6cbf75aa7fc97", func := "jeton/jetonlaw08.LinesVictims", spec := "linesVictims", recurses := true, apart := false }
def LinesVictimsSaid : Prop := linesVictimsRow.holds Try.pinned (OpenSpec.ofChange linesVictimsSpec)

/-- ITS FALSE NEIGHBOUR: 'it returns false'. Refute it at one input. -/
def linesVictimsWrong : ChangeSpec := { name := "linesVictims", fn := fun _ => fun
  | [d1, d2, d3] => { results := [.lit (.bool false)], args := [d1, d2, d3] }
  | _ => none }
def LinesVictimsWrongFalsely : Prop := linesVictimsRow.holds Try.pinned (OpenSpec.ofChange linesVictimsWrong)

/-- 'jetonlaw08.LinesUse': WHATEVER THE INPUT: true; the input reads as it did. -/
def linesUseSpec : ChangeSpec := { name := "linesUse", fn := fun _ => fun
  | [d1, d2, d3] => { results := [.lit (.bool true)], args := [d1, d2, d3] }
  | _ => none }
def linesUseRow : OpenClaim := { program := "ytamidchoghmmgaa", sum := "4ce4de703e0a3b58b30fe9b40c3f42ef88cbaafb4db7908ac0b6cbf75aa7fc97", func := "jeton/jetonlaw08.LinesUse", spec := "linesUse", recurses := true, apart := false }
def LinesUseSaid : Prop := linesUseRow.holds Try.pinned (OpenSpec.ofChange linesUseSpec)

/-- ITS FALSE NEIGHBOUR: 'it returns false'. Refute it at one input. -/
def linesUseWrong : ChangeSpec := { name := "linesUse", fn := fun _ => fun
  | [d1, d2, d3] => { results := [.lit (.bool false)], args := [d1, d2, d3] }
  | _ => none }
def LinesUseWrongFalsely : Prop := linesUseRow.holds Try.pinned (OpenSpec.ofChange linesUseWrong)

/-- 'jetonlaw08.LinesCopies': WHATEVER THE INPUT: true; the input reads as it did. -/
def linesCopiesSpec : ChangeSpec := { name := "linesCopies", fn := fun _ => fun
  | [d1, d2, d3] => { results := [.lit (.bool true)], args := [d1, d2, d3] }
  | _ => none }
def linesCopiesRow : OpenClaim := { program := "ytamidchoghmmgaa", sum := "4ce4de703e0a3b58b30fe9b40c3f42ef88cbaafb4db7908ac0b6cbf75aa7fc97", func := "jeton/jetonlaw08.LinesCopies", spec := "linesCopies", recurses := true, apart := false }
def LinesCopiesSaid : Prop := linesCopiesRow.holds Try.pinned (OpenSpec.ofChange linesCopiesSpec)

/-- ITS FALSE NEIGHBOUR: 'it returns false'. Refute it at one input. -/
def linesCopiesWrong : ChangeSpec := { name := "linesCopies", fn := fun _ => fun
  | [d1, d2, d3] => { results := [.lit (.bool false)], args := [d1, d2, d3] }
  | _ => none }
def LinesCopiesWrongFalsely : Prop := linesCopiesRow.holds Try.pinned (OpenSpec.ofChange linesCopiesWrong)

/- THE SECOND FORM. 'bulk': how many values and letters a reading holds, each counted each time it is reached (what is shared counts as often as it is met; a slice's spare places count too). A statement '..UptoSaid' is the law's where the arguments, and the package variables that the reading takes, are together of bulk at most 1048576: NARROWER than '..Said'. Prove '..Said' where nothing that the law and all that it calls make is longer than what came in: it says more and counts as full. Else prove '..UptoSaid'. A law counts once. -/
mutual
def uptoBulk {H : Type} : DataW H → Nat
  | .lit (.string bytes) => bytes.length + 1
  | .lit _ => 1
  | .nil => 1
  | .ptr d => uptoBulk d + 1
  | .slice elems spare => uptoBulkAll elems + uptoBulkAll spare + 1
  | .agg parts => uptoBulkAll parts + 1
  | .iface _ d => uptoBulk d + 1
  | .map entries => uptoBulkEntries entries + 1
  | .held _ => 1
def uptoBulkAll {H : Type} : List (DataW H) → Nat
  | [] => 0
  | d :: r => uptoBulk d + uptoBulkAll r
def uptoBulkEntries {H : Type} : List (Lit × DataW H) → Nat
  | [] => 0
  | x :: r => uptoBulkEntry x + uptoBulkEntries r
def uptoBulkEntry {H : Type} : Lit × DataW H → Nat
  | (.string bytes, d) => bytes.length + uptoBulk d + 1
  | (_, d) => uptoBulk d + 1
 end
def uptoSmall : (H : Type) → List (DataW H) → Bool := fun _ ds => decide (uptoBulkAll ds ≤ 1048576)
def OpenSpec.upto (s : _root_.Go.ChangeSpec) : _root_.Go.OpenSpec := { _root_.Go.OpenSpec.ofChange s with cond := some uptoSmall }

/-- 'jetonlaw08.LinesPlays', WHERE WHAT IT READS IS OF BULK AT MOST 1048576: true; the input reads as it did. -/
def linesPlaysUptoRow : OpenClaim := { program := "ytamidchoghmmgaa", sum := "4ce4de703e0a3b58b30fe9b40c3f42ef88cbaafb4db7908ac0b6cbf75aa7fc97", func := "jeton/jetonlaw08.LinesPlays", spec := "linesPlays", recurses := true, apart := false, narrowed := true }
def LinesPlaysUptoSaid : Prop := linesPlaysUptoRow.holds Try.pinned (OpenSpec.upto linesPlaysSpec)

/-- 'jetonlaw08.LinesVictims', WHERE WHAT IT READS IS OF BULK AT MOST 1048576: true; the input reads as it did. -/
def linesVictimsUptoRow : OpenClaim := { program := "ytamidchoghmmgaa", sum := "4ce4de703e0a3b58b30fe9b40c3f42ef88cbaafb4db7908ac0b6cbf75aa7fc97", func := "jeton/jetonlaw08.LinesVictims", spec := "linesVictims", recurses := true, apart := false, narrowed := true }
def LinesVictimsUptoSaid : Prop := linesVictimsUptoRow.holds Try.pinned (OpenSpec.upto linesVictimsSpec)

/-- 'jetonlaw08.LinesUse', WHERE WHAT IT READS IS OF BULK AT MOST 1048576: true; the input reads as it did. -/
def linesUseUptoRow : OpenClaim := { program := "ytamidchoghmmgaa", sum := "4ce4de703e0a3b58b30fe9b40c3f42ef88cbaafb4db7908ac0b6cbf75aa7fc97", func := "jeton/jetonlaw08.LinesUse", spec := "linesUse", recurses := true, apart := false, narrowed := true }
def LinesUseUptoSaid : Prop := linesUseUptoRow.holds Try.pinned (OpenSpec.upto linesUseSpec)

/-- 'jetonlaw08.LinesCopies', WHERE WHAT IT READS IS OF BULK AT MOST 1048576: true; the input reads as it did. -/
def linesCopiesUptoRow : OpenClaim := { program := "ytamidchoghmmgaa", sum := "4ce4de703e0a3b58b30fe9b40c3f42ef88cbaafb4db7908ac0b6cbf75aa7fc97", func := "jeton/jetonlaw08.LinesCopies", spec := "linesCopies", recurses := true, apart := false, narrowed := true }
def LinesCopiesUptoSaid : Prop := linesCopiesUptoRow.holds Try.pinned (OpenSpec.upto linesCopiesSpec)

end Rows
end Go.Proofs.Ytamidchoghmmgaa
