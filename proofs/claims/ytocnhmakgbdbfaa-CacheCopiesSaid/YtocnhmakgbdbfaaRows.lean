/-
  No cell of these rows narrows 'for every input' (looked for: loops, veiled, ifaces, maps, wideKeys, modest, calm, conditions, laid).
  DERIVED. THE GIVEN ROWS OF THIS SEAT. 10 by the template 'for every input the law returns true; each argument reads behind the call as it read before'; 0 by the template 'total and deterministic' (their statements: YtocnhmakgbdbfaaTotals.lean).
  GIVEN WITH THE SEED: the statements are not yours to turn. If you find one false, say at which input.
  Laid BY PROGRAM, IN A SANDBOX (cutbox-rows.mjs): the forced cells as the released guide's own fill.sh prints them over the translation 27e8159b6ee61622… (all of the seat's roots in one cut). By AI agents, Wed Nov 11 2026. No macro, syntax, notation, axiom, sorry.
-/
import Derived.Test.YtocnhmakgbdbfaaChecked
import GoSem.Claim
import GoSem.ClaimJoined
import GoSem.ClaimMapViews
import Derived.JoinedTies
import Derived.KernelRfl
namespace Go.Proofs.Ytocnhmakgbdbfaa
/- THE CELL 'sum', in the pinned program and in every row, IS THE sha256 OF THE DUMP (.gsa) THAT YtocnhmakgbdbfaaProg.lean LOADS. Nothing in Lean hashes anything: it is a label: what it is worth is what the hold of that sum in a sandbox is worth. -/
noncomputable def Try.pinned : Pinned := { name := "ytocnhmakgbdbfaa", sum := "27e8159b6ee616229767a3b24ce99500dcf46c5d48db9b510a046639cdf0856d", checked := Try.checked }
namespace Rows
def none {H : Type} : Left H := { results := [], args := [] }

/-- 'jetonlaw08.LinesOrder': WHATEVER THE INPUT: true; the input reads as it did. -/
def linesOrderSpec : ChangeSpec := { name := "linesOrder", fn := fun _ => fun
  | [d1, d2, d3] => { results := [.lit (.bool true)], args := [d1, d2, d3] }
  | _ => none }
def linesOrderRow : OpenClaim := { program := "ytocnhmakgbdbfaa", sum := "27e8159b6ee616229767a3b24ce99500dcf46c5d48db9b510a046639cdf0856d", func := "jeton/jetonlaw08.LinesOrder", spec := "linesOrder", recurses := true, apart := false }
def LinesOrderSaid : Prop := linesOrderRow.holds Try.pinned (OpenSpec.ofChange linesOrderSpec)

/-- ITS FALSE NEIGHBOUR: 'it returns false'. Refute it at one input. -/
def linesOrderWrong : ChangeSpec := { name := "linesOrder", fn := fun _ => fun
  | [d1, d2, d3] => { results := [.lit (.bool false)], args := [d1, d2, d3] }
  | _ => none }
def LinesOrderWrongFalsely : Prop := linesOrderRow.holds Try.pinned (OpenSpec.ofChange linesOrderWrong)

/-- 'jetonlaw08.LinesRoom': WHATEVER THE INPUT: true; the input reads as it did. -/
def linesRoomSpec : ChangeSpec := { name := "linesRoom", fn := fun _ => fun
  | [d1, d2, d3] => { results := [.lit (.bool true)], args := [d1, d2, d3] }
  | _ => none }
def linesRoomRow : OpenClaim := { program := "ytocnhmakgbdbfaa", sum := "27e8159b6ee616229767a3b24ce99500dcf46c5d48db9b510a046639cdf0856d", func := "jeton/jetonlaw08.LinesRoom", spec := "linesRoom", recurses := true, apart := false }
def LinesRoomSaid : Prop := linesRoomRow.holds Try.pinned (OpenSpec.ofChange linesRoomSpec)

/-- ITS FALSE NEIGHBOUR: 'it returns false'. Refute it at one input. -/
def linesRoomWrong : ChangeSpec := { name := "linesRoom", fn := fun _ => fun
  | [d1, d2, d3] => { results := [.lit (.bool false)], args := [d1, d2, d3] }
  | _ => none }
def LinesRoomWrongFalsely : Prop := linesRoomRow.holds Try.pinned (OpenSpec.ofChange linesRoomWrong)

/-- 'jetonlaw08.LinesCopies': WHATEVER THE INPUT: true; the input reads as it did. -/
def linesCopiesSpec : ChangeSpec := { name := "linesCopies", fn := fun _ => fun
  | [d1, d2, d3] => { results := [.lit (.bool true)], args := [d1, d2, d3] }
  | _ => none }
def linesCopiesRow : OpenClaim := { program := "ytocnhmakgbdbfaa", sum := "27e8159b6ee616229767a3b24ce99500dcf46c5d48db9b510a046639cdf0856d", func := "jeton/jetonlaw08.LinesCopies", spec := "linesCopies", recurses := true, apart := false }
def LinesCopiesSaid : Prop := linesCopiesRow.holds Try.pinned (OpenSpec.ofChange linesCopiesSpec)

/-- ITS FALSE NEIGHBOUR: 'it returns false'. Refute it at one input. -/
def linesCopiesWrong : ChangeSpec := { name := "linesCopies", fn := fun _ => fun
  | [d1, d2, d3] => { results := [.lit (.bool false)], args := [d1, d2, d3] }
  | _ => none }
def LinesCopiesWrongFalsely : Prop := linesCopiesRow.holds Try.pinned (OpenSpec.ofChange linesCopiesWrong)

/-- 'jetonlaw09.CachePinned': WHATEVER THE INPUT: true; the input reads as it did. -/
def cachePinnedSpec : ChangeSpec := { name := "cachePinned", fn := fun _ => fun
  | [d1, d2, d3] => { results := [.lit (.bool true)], args := [d1, d2, d3] }
  | _ => none }
def cachePinnedRow : OpenClaim := { program := "ytocnhmakgbdbfaa", sum := "27e8159b6ee616229767a3b24ce99500dcf46c5d48db9b510a046639cdf0856d", func := "jeton/jetonlaw09.CachePinned", spec := "cachePinned", recurses := true, apart := false }
def CachePinnedSaid : Prop := cachePinnedRow.holds Try.pinned (OpenSpec.ofChange cachePinnedSpec)

/-- ITS FALSE NEIGHBOUR: 'it returns false'. Refute it at one input. -/
def cachePinnedWrong : ChangeSpec := { name := "cachePinned", fn := fun _ => fun
  | [d1, d2, d3] => { results := [.lit (.bool false)], args := [d1, d2, d3] }
  | _ => none }
def CachePinnedWrongFalsely : Prop := cachePinnedRow.holds Try.pinned (OpenSpec.ofChange cachePinnedWrong)

/-- 'jetonlaw09.CacheStores': WHATEVER THE INPUT: true; the input reads as it did. -/
def cacheStoresSpec : ChangeSpec := { name := "cacheStores", fn := fun _ => fun
  | [d1, d2, d3] => { results := [.lit (.bool true)], args := [d1, d2, d3] }
  | _ => none }
def cacheStoresRow : OpenClaim := { program := "ytocnhmakgbdbfaa", sum := "27e8159b6ee616229767a3b24ce99500dcf46c5d48db9b510a046639cdf0856d", func := "jeton/jetonlaw09.CacheStores", spec := "cacheStores", recurses := true, apart := false }
def CacheStoresSaid : Prop := cacheStoresRow.holds Try.pinned (OpenSpec.ofChange cacheStoresSpec)

/-- ITS FALSE NEIGHBOUR: 'it returns false'. Refute it at one input. -/
def cacheStoresWrong : ChangeSpec := { name := "cacheStores", fn := fun _ => fun
  | [d1, d2, d3] => { results := [.lit (.bool false)], args := [d1, d2, d3] }
  | _ => none }
def CacheStoresWrongFalsely : Prop := cacheStoresRow.holds Try.pinned (OpenSpec.ofChange cacheStoresWrong)

/-- 'jetonlaw09.CachePlays': WHATEVER THE INPUT: true; the input reads as it did. -/
def cachePlaysSpec : ChangeSpec := { name := "cachePlays", fn := fun _ => fun
  | [d1, d2, d3] => { results := [.lit (.bool true)], args := [d1, d2, d3] }
  | _ => none }
def cachePlaysRow : OpenClaim := { program := "ytocnhmakgbdbfaa", sum := "27e8159b6ee616229767a3b24ce99500dcf46c5d48db9b510a046639cdf0856d", func := "jeton/jetonlaw09.CachePlays", spec := "cachePlays", recurses := true, apart := false }
def CachePlaysSaid : Prop := cachePlaysRow.holds Try.pinned (OpenSpec.ofChange cachePlaysSpec)

/-- ITS FALSE NEIGHBOUR: 'it returns false'. Refute it at one input. -/
def cachePlaysWrong : ChangeSpec := { name := "cachePlays", fn := fun _ => fun
  | [d1, d2, d3] => { results := [.lit (.bool false)], args := [d1, d2, d3] }
  | _ => none }
def CachePlaysWrongFalsely : Prop := cachePlaysRow.holds Try.pinned (OpenSpec.ofChange cachePlaysWrong)

/-- 'jetonlaw09.CacheSums': WHATEVER THE INPUT: true; the input reads as it did. -/
def cacheSumsSpec : ChangeSpec := { name := "cacheSums", fn := fun _ => fun
  | [d1, d2, d3] => { results := [.lit (.bool true)], args := [d1, d2, d3] }
  | _ => none }
def cacheSumsRow : OpenClaim := { program := "ytocnhmakgbdbfaa", sum := "27e8159b6ee616229767a3b24ce99500dcf46c5d48db9b510a046639cdf0856d", func := "jeton/jetonlaw09.CacheSums", spec := "cacheSums", recurses := true, apart := false }
def CacheSumsSaid : Prop := cacheSumsRow.holds Try.pinned (OpenSpec.ofChange cacheSumsSpec)

/-- ITS FALSE NEIGHBOUR: 'it returns false'. Refute it at one input. -/
def cacheSumsWrong : ChangeSpec := { name := "cacheSums", fn := fun _ => fun
  | [d1, d2, d3] => { results := [.lit (.bool false)], args := [d1, d2, d3] }
  | _ => none }
def CacheSumsWrongFalsely : Prop := cacheSumsRow.holds Try.pinned (OpenSpec.ofChange cacheSumsWrong)

/-- 'jetonlaw09.CacheTakes': WHATEVER THE INPUT: true; the input reads as it did. -/
def cacheTakesSpec : ChangeSpec := { name := "cacheTakes", fn := fun _ => fun
  | [d1, d2, d3] => { results := [.lit (.bool true)], args := [d1, d2, d3] }
  | _ => none }
def cacheTakesRow : OpenClaim := { program := "ytocnhmakgbdbfaa", sum := "27e8159b6ee616229767a3b24ce99500dcf46c5d48db9b510a046639cdf0856d", func := "jeton/jetonlaw09.CacheTakes", spec := "cacheTakes", recurses := true, apart := false }
def CacheTakesSaid : Prop := cacheTakesRow.holds Try.pinned (OpenSpec.ofChange cacheTakesSpec)

/-- ITS FALSE NEIGHBOUR: 'it returns false'. Refute it at one input. -/
def cacheTakesWrong : ChangeSpec := { name := "cacheTakes", fn := fun _ => fun
  | [d1, d2, d3] => { results := [.lit (.bool false)], args := [d1, d2, d3] }
  | _ => none }
def CacheTakesWrongFalsely : Prop := cacheTakesRow.holds Try.pinned (OpenSpec.ofChange cacheTakesWrong)

/-- 'jetonlaw09.CacheRoom': WHATEVER THE INPUT: true; the input reads as it did. -/
def cacheRoomSpec : ChangeSpec := { name := "cacheRoom", fn := fun _ => fun
  | [d1, d2, d3] => { results := [.lit (.bool true)], args := [d1, d2, d3] }
  | _ => none }
def cacheRoomRow : OpenClaim := { program := "ytocnhmakgbdbfaa", sum := "27e8159b6ee616229767a3b24ce99500dcf46c5d48db9b510a046639cdf0856d", func := "jeton/jetonlaw09.CacheRoom", spec := "cacheRoom", recurses := true, apart := false }
def CacheRoomSaid : Prop := cacheRoomRow.holds Try.pinned (OpenSpec.ofChange cacheRoomSpec)

/-- ITS FALSE NEIGHBOUR: 'it returns false'. Refute it at one input. -/
def cacheRoomWrong : ChangeSpec := { name := "cacheRoom", fn := fun _ => fun
  | [d1, d2, d3] => { results := [.lit (.bool false)], args := [d1, d2, d3] }
  | _ => none }
def CacheRoomWrongFalsely : Prop := cacheRoomRow.holds Try.pinned (OpenSpec.ofChange cacheRoomWrong)

/-- 'jetonlaw09.CacheCopies': WHATEVER THE INPUT: true; the input reads as it did. -/
def cacheCopiesSpec : ChangeSpec := { name := "cacheCopies", fn := fun _ => fun
  | [d1, d2, d3] => { results := [.lit (.bool true)], args := [d1, d2, d3] }
  | _ => none }
def cacheCopiesRow : OpenClaim := { program := "ytocnhmakgbdbfaa", sum := "27e8159b6ee616229767a3b24ce99500dcf46c5d48db9b510a046639cdf0856d", func := "jeton/jetonlaw09.CacheCopies", spec := "cacheCopies", inPlace := ["maps.clone"], recurses := true, apart := false }
def CacheCopiesSaid : Prop := cacheCopiesRow.holds Try.pinned (OpenSpec.ofChange cacheCopiesSpec)

/-- ITS FALSE NEIGHBOUR: 'it returns false'. Refute it at one input. -/
def cacheCopiesWrong : ChangeSpec := { name := "cacheCopies", fn := fun _ => fun
  | [d1, d2, d3] => { results := [.lit (.bool false)], args := [d1, d2, d3] }
  | _ => none }
def CacheCopiesWrongFalsely : Prop := cacheCopiesRow.holds Try.pinned (OpenSpec.ofChange cacheCopiesWrong)

/- THE SECOND FORM. 'bulk': how many values and letters a reading holds, each counted each time it is reached (what is shared counts as often as it is met; a slice's spare places count too). A statement '..UptoSaid' is the law's where the arguments, and the package variables that the reading takes, are together of bulk at most 1048576: NARROWER than '..Said'. Prove '..Said' where nothing that the law and all that it calls make is longer than what came in: it says more and counts as full. Else prove '..UptoSaid'. A law counts once. -/
mutual
def uptoBulk {H : Type} : DataW H → Nat
  | .lit (.string bytes) => bytes.length + 1
  | .lit _ => 1
  | .nil => 1
  | .ptr d => uptoBulk d + 1
  | .slice elems spare => uptoBulkAll elems + uptoBulkAll spare + 1
  | .agg parts => uptoBulkAll parts + 1
  | .iface _ d => uptoBulk d + 1
  | .map entries => uptoBulkEntries entries + 1
  | .held _ => 1
def uptoBulkAll {H : Type} : List (DataW H) → Nat
  | [] => 0
  | d :: r => uptoBulk d + uptoBulkAll r
def uptoBulkEntries {H : Type} : List (Lit × DataW H) → Nat
  | [] => 0
  | x :: r => uptoBulkEntry x + uptoBulkEntries r
def uptoBulkEntry {H : Type} : Lit × DataW H → Nat
  | (.string bytes, d) => bytes.length + uptoBulk d + 1
  | (_, d) => uptoBulk d + 1
 end
def uptoSmall : (H : Type) → List (DataW H) → Bool := fun _ ds => decide (uptoBulkAll ds ≤ 1048576)
def OpenSpec.upto (s : _root_.Go.ChangeSpec) : _root_.Go.OpenSpec := { _root_.Go.OpenSpec.ofChange s with cond := some uptoSmall }

/-- 'jetonlaw08.LinesOrder', WHERE WHAT IT READS IS OF BULK AT MOST 1048576: true; the input reads as it did. -/
def linesOrderUptoRow : OpenClaim := { program := "ytocnhmakgbdbfaa", sum := "27e8159b6ee616229767a3b24ce99500dcf46c5d48db9b510a046639cdf0856d", func := "jeton/jetonlaw08.LinesOrder", spec := "linesOrder", recurses := true, apart := false, narrowed := true }
def LinesOrderUptoSaid : Prop := linesOrderUptoRow.holds Try.pinned (OpenSpec.upto linesOrderSpec)

/-- 'jetonlaw08.LinesRoom', WHERE WHAT IT READS IS OF BULK AT MOST 1048576: true; the input reads as it did. -/
def linesRoomUptoRow : OpenClaim := { program := "ytocnhmakgbdbfaa", sum := "27e8159b6ee616229767a3b24ce99500dcf46c5d48db9b510a046639cdf0856d", func := "jeton/jetonlaw08.LinesRoom", spec := "linesRoom", recurses := true, apart := false, narrowed := true }
def LinesRoomUptoSaid : Prop := linesRoomUptoRow.holds Try.pinned (OpenSpec.upto linesRoomSpec)

/-- 'jetonlaw08.LinesCopies', WHERE WHAT IT READS IS OF BULK AT MOST 1048576: true; the input reads as it did. -/
def linesCopiesUptoRow : OpenClaim := { program := "ytocnhmakgbdbfaa", sum := "27e8159b6ee616229767a3b24ce99500dcf46c5d48db9b510a046639cdf0856d", func := "jeton/jetonlaw08.LinesCopies", spec := "linesCopies", recurses := true, apart := false, narrowed := true }
def LinesCopiesUptoSaid : Prop := linesCopiesUptoRow.holds Try.pinned (OpenSpec.upto linesCopiesSpec)

/-- 'jetonlaw09.CachePinned', WHERE WHAT IT READS IS OF BULK AT MOST 1048576: true; the input reads as it did. -/
def cachePinnedUptoRow : OpenClaim := { program := "ytocnhmakgbdbfaa", sum := "27e8159b6ee616229767a3b24ce99500dcf46c5d48db9b510a046639cdf0856d", func := "jeton/jetonlaw09.CachePinned", spec := "cachePinned", recurses := true, apart := false, narrowed := true }
def CachePinnedUptoSaid : Prop := cachePinnedUptoRow.holds Try.pinned (OpenSpec.upto cachePinnedSpec)

/-- 'jetonlaw09.CacheStores', WHERE WHAT IT READS IS OF BULK AT MOST 1048576: true; the input reads as it did. -/
def cacheStoresUptoRow : OpenClaim := { program := "ytocnhmakgbdbfaa", sum := "27e8159b6ee616229767a3b24ce99500dcf46c5d48db9b510a046639cdf0856d", func := "jeton/jetonlaw09.CacheStores", spec := "cacheStores", recurses := true, apart := false, narrowed := true }
def CacheStoresUptoSaid : Prop := cacheStoresUptoRow.holds Try.pinned (OpenSpec.upto cacheStoresSpec)

/-- 'jetonlaw09.CachePlays', WHERE WHAT IT READS IS OF BULK AT MOST 1048576: true; the input reads as it did. -/
def cachePlaysUptoRow : OpenClaim := { program := "ytocnhmakgbdbfaa", sum := "27e8159b6ee616229767a3b24ce99500dcf46c5d48db9b510a046639cdf0856d", func := "jeton/jetonlaw09.CachePlays", spec := "cachePlays", recurses := true, apart := false, narrowed := true }
def CachePlaysUptoSaid : Prop := cachePlaysUptoRow.holds Try.pinned (OpenSpec.upto cachePlaysSpec)

/-- 'jetonlaw09.CacheSums', WHERE WHAT IT READS IS OF BULK AT MOST 1048576: true; the input reads as it did. -/
def cacheSumsUptoRow : OpenClaim := { program := "ytocnhmakgbdbfaa", sum := "27e8159b6ee616229767a3b24ce99500dcf46c5d48db9b510a046639cdf0856d", func := "jeton/jetonlaw09.CacheSums", spec := "cacheSums", recurses := true, apart := false, narrowed := true }
def CacheSumsUptoSaid : Prop := cacheSumsUptoRow.holds Try.pinned (OpenSpec.upto cacheSumsSpec)

/-- 'jetonlaw09.CacheTakes', WHERE WHAT IT READS IS OF BULK AT MOST 1048576: true; the input reads as it did. -/
def cacheTakesUptoRow : OpenClaim := { program := "ytocnhmakgbdbfaa", sum := "27e8159b6ee616229767a3b24ce99500dcf46c5d48db9b510a046639cdf0856d", func := "jeton/jetonlaw09.CacheTakes", spec := "cacheTakes", recurses := true, apart := false, narrowed := true }
def CacheTakesUptoSaid : Prop := cacheTakesUptoRow.holds Try.pinned (OpenSpec.upto cacheTakesSpec)

/-- 'jetonlaw09.CacheRoom', WHERE WHAT IT READS IS OF BULK AT MOST 1048576: true; the input reads as it did. -/
def cacheRoomUptoRow : OpenClaim := { program := "ytocnhmakgbdbfaa", sum := "27e8159b6ee616229767a3b24ce99500dcf46c5d48db9b510a046639cdf0856d", func := "jeton/jetonlaw09.CacheRoom", spec := "cacheRoom", recurses := true, apart := false, narrowed := true }
def CacheRoomUptoSaid : Prop := cacheRoomUptoRow.holds Try.pinned (OpenSpec.upto cacheRoomSpec)

/-- 'jetonlaw09.CacheCopies', WHERE WHAT IT READS IS OF BULK AT MOST 1048576: true; the input reads as it did. -/
def cacheCopiesUptoRow : OpenClaim := { program := "ytocnhmakgbdbfaa", sum := "27e8159b6ee616229767a3b24ce99500dcf46c5d48db9b510a046639cdf0856d", func := "jeton/jetonlaw09.CacheCopies", spec := "cacheCopies", inPlace := ["maps.clone"], recurses := true, apart := false, narrowed := true }
def CacheCopiesUptoSaid : Prop := cacheCopiesUptoRow.holds Try.pinned (OpenSpec.upto cacheCopiesSpec)

end Rows
end Go.Proofs.Ytocnhmakgbdbfaa
