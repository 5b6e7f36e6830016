/-
  No cell of these rows narrows 'for every input' (looked for: loops, veiled, ifaces, maps, wideKeys, modest, calm, conditions, laid).
  DERIVED. THE GIVEN ROWS OF THIS SEAT. 8 by the template 'for every input the law returns true; each argument reads behind the call as it read before'; 0 by the template 'total and deterministic' (their statements: YtchlioikkhnidaaGreatTotals.lean).
  GIVEN WITH THE SEED: the statements are not yours to turn. If you find one false, say at which input.
  Laid BY PROGRAM, IN A SANDBOX (cutbox-rows.mjs): the forced cells as the released guide's own fill.sh prints them over the translation 2f15c39be5bf2413… (all of the seat's roots in one cut). By AI agents, Wed Nov 11 2026. No macro, syntax, notation, axiom, sorry.
-/
import Derived.Test.YtchlioikkhnidaaGreatChecked
import GoSem.Claim
import GoSem.ClaimJoined
import GoSem.ClaimMapViews
import Derived.JoinedTies
import Derived.KernelRfl
namespace Go.Proofs.YtchlioikkhnidaaGreat
/- THE CELL 'sum', in the pinned program and in every row, IS THE sha256 OF THE DUMP (.gsa) THAT YtchlioikkhnidaaGreatProg.lean LOADS. Nothing in Lean hashes anything: it is a label: what it is worth is what the hold of that sum in a sandbox is worth. -/
noncomputable def Tryz.pinned : Pinned := { name := "ytchlioikkhnidaagreat", sum := "2f15c39be5bf24134da9cfa26753654f1dc9261d52f2ce88a51f86484664ef6b", checked := Tryz.checked }
namespace Rows
def none {H : Type} : Left H := { results := [], args := [] }

/-- 'jetonlaw15.NodeGives': WHATEVER THE INPUT: true; the input reads as it did. -/
def nodeGivesSpec : ChangeSpec := { name := "nodeGives", fn := fun _ => fun
  | [d1, d2, d3] => { results := [.lit (.bool true)], args := [d1, d2, d3] }
  | _ => none }
def nodeGivesRow : OpenClaim := { program := "ytchlioikkhnidaagreat", sum := "2f15c39be5bf24134da9cfa26753654f1dc9261d52f2ce88a51f86484664ef6b", func := "jeton/jetonlaw15.NodeGives", spec := "nodeGives", unfollowed := true, recurses := true, plainKeys := false, apart := false }
def NodeGivesSaid : Prop := nodeGivesRow.holds Tryz.pinned (OpenSpec.ofChange nodeGivesSpec)

/-- ITS FALSE NEIGHBOUR: 'it returns false'. Refute it at one input. -/
def nodeGivesWrong : ChangeSpec := { name := "nodeGives", fn := fun _ => fun
  | [d1, d2, d3] => { results := [.lit (.bool false)], args := [d1, d2, d3] }
  | _ => none }
def NodeGivesWrongFalsely : Prop := nodeGivesRow.holds Tryz.pinned (OpenSpec.ofChange nodeGivesWrong)

/-- 'jetonlaw15.NodeNothing': WHATEVER THE INPUT: true; the input reads as it did. -/
def nodeNothingSpec : ChangeSpec := { name := "nodeNothing", fn := fun _ => fun
  | [d1, d2, d3] => { results := [.lit (.bool true)], args := [d1, d2, d3] }
  | _ => none }
def nodeNothingRow : OpenClaim := { program := "ytchlioikkhnidaagreat", sum := "2f15c39be5bf24134da9cfa26753654f1dc9261d52f2ce88a51f86484664ef6b", func := "jeton/jetonlaw15.NodeNothing", spec := "nodeNothing", unfollowed := true, recurses := true, plainKeys := false, apart := false }
def NodeNothingSaid : Prop := nodeNothingRow.holds Tryz.pinned (OpenSpec.ofChange nodeNothingSpec)

/-- ITS FALSE NEIGHBOUR: 'it returns false'. Refute it at one input. -/
def nodeNothingWrong : ChangeSpec := { name := "nodeNothing", fn := fun _ => fun
  | [d1, d2, d3] => { results := [.lit (.bool false)], args := [d1, d2, d3] }
  | _ => none }
def NodeNothingWrongFalsely : Prop := nodeNothingRow.holds Tryz.pinned (OpenSpec.ofChange nodeNothingWrong)

/-- 'jetonlaw15.NodeLoads': WHATEVER THE INPUT: true; the input reads as it did. -/
def nodeLoadsSpec : ChangeSpec := { name := "nodeLoads", fn := fun _ => fun
  | [d1, d2, d3] => { results := [.lit (.bool true)], args := [d1, d2, d3] }
  | _ => none }
def nodeLoadsRow : OpenClaim := { program := "ytchlioikkhnidaagreat", sum := "2f15c39be5bf24134da9cfa26753654f1dc9261d52f2ce88a51f86484664ef6b", func := "jeton/jetonlaw15.NodeLoads", spec := "nodeLoads", unfollowed := true, recurses := true, plainKeys := false, apart := false }
def NodeLoadsSaid : Prop := nodeLoadsRow.holds Tryz.pinned (OpenSpec.ofChange nodeLoadsSpec)

/-- ITS FALSE NEIGHBOUR: 'it returns false'. Refute it at one input. -/
def nodeLoadsWrong : ChangeSpec := { name := "nodeLoads", fn := fun _ => fun
  | [d1, d2, d3] => { results := [.lit (.bool false)], args := [d1, d2, d3] }
  | _ => none }
def NodeLoadsWrongFalsely : Prop := nodeLoadsRow.holds Tryz.pinned (OpenSpec.ofChange nodeLoadsWrong)

/-- 'jetonlaw15.NodeSums': WHATEVER THE INPUT: true; the input reads as it did. -/
def nodeSumsSpec : ChangeSpec := { name := "nodeSums", fn := fun _ => fun
  | [d1, d2, d3] => { results := [.lit (.bool true)], args := [d1, d2, d3] }
  | _ => none }
def nodeSumsRow : OpenClaim := { program := "ytchlioikkhnidaagreat", sum := "2f15c39be5bf24134da9cfa26753654f1dc9261d52f2ce88a51f86484664ef6b", func := "jeton/jetonlaw15.NodeSums", spec := "nodeSums", unfollowed := true, recurses := true, plainKeys := false, apart := false }
def NodeSumsSaid : Prop := nodeSumsRow.holds Tryz.pinned (OpenSpec.ofChange nodeSumsSpec)

/-- ITS FALSE NEIGHBOUR: 'it returns false'. Refute it at one input. -/
def nodeSumsWrong : ChangeSpec := { name := "nodeSums", fn := fun _ => fun
  | [d1, d2, d3] => { results := [.lit (.bool false)], args := [d1, d2, d3] }
  | _ => none }
def NodeSumsWrongFalsely : Prop := nodeSumsRow.holds Tryz.pinned (OpenSpec.ofChange nodeSumsWrong)

/-- 'jetonlaw15.NodeAsks': WHATEVER THE INPUT: true; the input reads as it did. -/
def nodeAsksSpec : ChangeSpec := { name := "nodeAsks", fn := fun _ => fun
  | [d1, d2, d3] => { results := [.lit (.bool true)], args := [d1, d2, d3] }
  | _ => none }
def nodeAsksRow : OpenClaim := { program := "ytchlioikkhnidaagreat", sum := "2f15c39be5bf24134da9cfa26753654f1dc9261d52f2ce88a51f86484664ef6b", func := "jeton/jetonlaw15.NodeAsks", spec := "nodeAsks", unfollowed := true, recurses := true, plainKeys := false, apart := false }
def NodeAsksSaid : Prop := nodeAsksRow.holds Tryz.pinned (OpenSpec.ofChange nodeAsksSpec)

/-- ITS FALSE NEIGHBOUR: 'it returns false'. Refute it at one input. -/
def nodeAsksWrong : ChangeSpec := { name := "nodeAsks", fn := fun _ => fun
  | [d1, d2, d3] => { results := [.lit (.bool false)], args := [d1, d2, d3] }
  | _ => none }
def NodeAsksWrongFalsely : Prop := nodeAsksRow.holds Tryz.pinned (OpenSpec.ofChange nodeAsksWrong)

/-- 'jetonlaw15.NodeEnds': WHATEVER THE INPUT: true; the input reads as it did. -/
def nodeEndsSpec : ChangeSpec := { name := "nodeEnds", fn := fun _ => fun
  | [d1, d2, d3] => { results := [.lit (.bool true)], args := [d1, d2, d3] }
  | _ => none }
def nodeEndsRow : OpenClaim := { program := "ytchlioikkhnidaagreat", sum := "2f15c39be5bf24134da9cfa26753654f1dc9261d52f2ce88a51f86484664ef6b", func := "jeton/jetonlaw15.NodeEnds", spec := "nodeEnds", unfollowed := true, recurses := true, plainKeys := false, apart := false }
def NodeEndsSaid : Prop := nodeEndsRow.holds Tryz.pinned (OpenSpec.ofChange nodeEndsSpec)

/-- ITS FALSE NEIGHBOUR: 'it returns false'. Refute it at one input. -/
def nodeEndsWrong : ChangeSpec := { name := "nodeEnds", fn := fun _ => fun
  | [d1, d2, d3] => { results := [.lit (.bool false)], args := [d1, d2, d3] }
  | _ => none }
def NodeEndsWrongFalsely : Prop := nodeEndsRow.holds Tryz.pinned (OpenSpec.ofChange nodeEndsWrong)

/-- 'jetonlaw15.NodePlays': WHATEVER THE INPUT: true; the input reads as it did. -/
def nodePlaysSpec : ChangeSpec := { name := "nodePlays", fn := fun _ => fun
  | [d1, d2, d3] => { results := [.lit (.bool true)], args := [d1, d2, d3] }
  | _ => none }
def nodePlaysRow : OpenClaim := { program := "ytchlioikkhnidaagreat", sum := "2f15c39be5bf24134da9cfa26753654f1dc9261d52f2ce88a51f86484664ef6b", func := "jeton/jetonlaw15.NodePlays", spec := "nodePlays", inPlace := ["maps.clone"], unfollowed := true, recurses := true, plainKeys := false, apart := false }
def NodePlaysSaid : Prop := nodePlaysRow.holds Tryz.pinned (OpenSpec.ofChange nodePlaysSpec)

/-- ITS FALSE NEIGHBOUR: 'it returns false'. Refute it at one input. -/
def nodePlaysWrong : ChangeSpec := { name := "nodePlays", fn := fun _ => fun
  | [d1, d2, d3] => { results := [.lit (.bool false)], args := [d1, d2, d3] }
  | _ => none }
def NodePlaysWrongFalsely : Prop := nodePlaysRow.holds Tryz.pinned (OpenSpec.ofChange nodePlaysWrong)

/-- 'jetonlaw15.NodeCopies': WHATEVER THE INPUT: true; the input reads as it did. -/
def nodeCopiesSpec : ChangeSpec := { name := "nodeCopies", fn := fun _ => fun
  | [d1, d2, d3] => { results := [.lit (.bool true)], args := [d1, d2, d3] }
  | _ => none }
def nodeCopiesRow : OpenClaim := { program := "ytchlioikkhnidaagreat", sum := "2f15c39be5bf24134da9cfa26753654f1dc9261d52f2ce88a51f86484664ef6b", func := "jeton/jetonlaw15.NodeCopies", spec := "nodeCopies", inPlace := ["maps.clone"], unfollowed := true, recurses := true, plainKeys := false, apart := false }
def NodeCopiesSaid : Prop := nodeCopiesRow.holds Tryz.pinned (OpenSpec.ofChange nodeCopiesSpec)

/-- ITS FALSE NEIGHBOUR: 'it returns false'. Refute it at one input. -/
def nodeCopiesWrong : ChangeSpec := { name := "nodeCopies", fn := fun _ => fun
  | [d1, d2, d3] => { results := [.lit (.bool false)], args := [d1, d2, d3] }
  | _ => none }
def NodeCopiesWrongFalsely : Prop := nodeCopiesRow.holds Tryz.pinned (OpenSpec.ofChange nodeCopiesWrong)

/- THE SECOND FORM. 'bulk': how many values and letters a reading holds, each counted each time it is reached (what is shared counts as often as it is met; a slice's spare places count too). A statement '..UptoSaid' is the law's where the arguments, and the package variables that the reading takes, are together of bulk at most 1048576: NARROWER than '..Said'. Prove '..Said' where nothing that the law and all that it calls make is longer than what came in: it says more and counts as full. Else prove '..UptoSaid'. A law counts once. -/
mutual
def uptoBulk {H : Type} : DataW H → Nat
  | .lit (.string bytes) => bytes.length + 1
  | .lit _ => 1
  | .nil => 1
  | .ptr d => uptoBulk d + 1
  | .slice elems spare => uptoBulkAll elems + uptoBulkAll spare + 1
  | .agg parts => uptoBulkAll parts + 1
  | .iface _ d => uptoBulk d + 1
  | .map entries => uptoBulkEntries entries + 1
  | .held _ => 1
def uptoBulkAll {H : Type} : List (DataW H) → Nat
  | [] => 0
  | d :: r => uptoBulk d + uptoBulkAll r
def uptoBulkEntries {H : Type} : List (Lit × DataW H) → Nat
  | [] => 0
  | x :: r => uptoBulkEntry x + uptoBulkEntries r
def uptoBulkEntry {H : Type} : Lit × DataW H → Nat
  | (.string bytes, d) => bytes.length + uptoBulk d + 1
  | (_, d) => uptoBulk d + 1
 end
def uptoSmall : (H : Type) → List (DataW H) → Bool := fun _ ds => decide (uptoBulkAll ds ≤ 1048576)
def OpenSpec.upto (s : _root_.Go.ChangeSpec) : _root_.Go.OpenSpec := { _root_.Go.OpenSpec.ofChange s with cond := some uptoSmall }

/-- 'jetonlaw15.NodeGives', WHERE WHAT IT READS IS OF BULK AT MOST 1048576: true; the input reads as it did. -/
def nodeGivesUptoRow : OpenClaim := { program := "ytchlioikkhnidaagreat", sum := "2f15c39be5bf24134da9cfa26753654f1dc9261d52f2ce88a51f86484664ef6b", func := "jeton/jetonlaw15.NodeGives", spec := "nodeGives", unfollowed := true, recurses := true, plainKeys := false, apart := false, narrowed := true }
def NodeGivesUptoSaid : Prop := nodeGivesUptoRow.holds Tryz.pinned (OpenSpec.upto nodeGivesSpec)

/-- 'jetonlaw15.NodeNothing', WHERE WHAT IT READS IS OF BULK AT MOST 1048576: true; the input reads as it did. -/
def nodeNothingUptoRow : OpenClaim := { program := "ytchlioikkhnidaagreat", sum := "2f15c39be5bf24134da9cfa26753654f1dc9261d52f2ce88a51f86484664ef6b", func := "jeton/jetonlaw15.NodeNothing", spec := "nodeNothing", unfollowed := true, recurses := true, plainKeys := false, apart := false, narrowed := true }
def NodeNothingUptoSaid : Prop := nodeNothingUptoRow.holds Tryz.pinned (OpenSpec.upto nodeNothingSpec)

/-- 'jetonlaw15.NodeLoads', WHERE WHAT IT READS IS OF BULK AT MOST 1048576: true; the input reads as it did. -/
def nodeLoadsUptoRow : OpenClaim := { program := "ytchlioikkhnidaagreat", sum := "2f15c39be5bf24134da9cfa26753654f1dc9261d52f2ce88a51f86484664ef6b", func := "jeton/jetonlaw15.NodeLoads", spec := "nodeLoads", unfollowed := true, recurses := true, plainKeys := false, apart := false, narrowed := true }
def NodeLoadsUptoSaid : Prop := nodeLoadsUptoRow.holds Tryz.pinned (OpenSpec.upto nodeLoadsSpec)

/-- 'jetonlaw15.NodeSums', WHERE WHAT IT READS IS OF BULK AT MOST 1048576: true; the input reads as it did. -/
def nodeSumsUptoRow : OpenClaim := { program := "ytchlioikkhnidaagreat", sum := "2f15c39be5bf24134da9cfa26753654f1dc9261d52f2ce88a51f86484664ef6b", func := "jeton/jetonlaw15.NodeSums", spec := "nodeSums", unfollowed := true, recurses := true, plainKeys := false, apart := false, narrowed := true }
def NodeSumsUptoSaid : Prop := nodeSumsUptoRow.holds Tryz.pinned (OpenSpec.upto nodeSumsSpec)

/-- 'jetonlaw15.NodeAsks', WHERE WHAT IT READS IS OF BULK AT MOST 1048576: true; the input reads as it did. -/
def nodeAsksUptoRow : OpenClaim := { program := "ytchlioikkhnidaagreat", sum := "2f15c39be5bf24134da9cfa26753654f1dc9261d52f2ce88a51f86484664ef6b", func := "jeton/jetonlaw15.NodeAsks", spec := "nodeAsks", unfollowed := true, recurses := true, plainKeys := false, apart := false, narrowed := true }
def NodeAsksUptoSaid : Prop := nodeAsksUptoRow.holds Tryz.pinned (OpenSpec.upto nodeAsksSpec)

/-- 'jetonlaw15.NodeEnds', WHERE WHAT IT READS IS OF BULK AT MOST 1048576: true; the input reads as it did. -/
def nodeEndsUptoRow : OpenClaim := { program := "ytchlioikkhnidaagreat", sum := "2f15c39be5bf24134da9cfa26753654f1dc9261d52f2ce88a51f86484664ef6b", func := "jeton/jetonlaw15.NodeEnds", spec := "nodeEnds", unfollowed := true, recurses := true, plainKeys := false, apart := false, narrowed := true }
def NodeEndsUptoSaid : Prop := nodeEndsUptoRow.holds Tryz.pinned (OpenSpec.upto nodeEndsSpec)

/-- 'jetonlaw15.NodePlays', WHERE WHAT IT READS IS OF BULK AT MOST 1048576: true; the input reads as it did. -/
def nodePlaysUptoRow : OpenClaim := { program := "ytchlioikkhnidaagreat", sum := "2f15c39be5bf24134da9cfa26753654f1dc9261d52f2ce88a51f86484664ef6b", func := "jeton/jetonlaw15.NodePlays", spec := "nodePlays", inPlace := ["maps.clone"], unfollowed := true, recurses := true, plainKeys := false, apart := false, narrowed := true }
def NodePlaysUptoSaid : Prop := nodePlaysUptoRow.holds Tryz.pinned (OpenSpec.upto nodePlaysSpec)

/-- 'jetonlaw15.NodeCopies', WHERE WHAT IT READS IS OF BULK AT MOST 1048576: true; the input reads as it did. -/
def nodeCopiesUptoRow : OpenClaim := { program := "ytchlioikkhnidaagreat", sum := "2f15c39be5bf24134da9cfa26753654f1dc9261d52f2ce88a51f86484664ef6b", func := "jeton/jetonlaw15.NodeCopies", spec := "nodeCopies", inPlace := ["maps.clone"], unfollowed := true, recurses := true, plainKeys := false, apart := false, narrowed := true }
def NodeCopiesUptoSaid : Prop := nodeCopiesUptoRow.holds Tryz.pinned (OpenSpec.upto nodeCopiesSpec)

end Rows
end Go.Proofs.YtchlioikkhnidaaGreat
