/-
  Words and laws of memory that the proofs of this claim share: worlds that change in some blocks alone, maps with whole numbers as keys. No program is named.
-/
import Derived.WalkKit
import Derived.Maps.OwnSet
import Derived.Maps.RangeRun
import Derived.Deep.QuietTactic
import Derived.BigQuiet
import Derived.BigRegion
import Derived.Deep.RegionHeld3
import Derived.Deep.DeepCutAuto
import Derived.KernelRfl
import Derived.Lib.Hide
import Derived.Deep.MidRow
import Derived.Maps.AppendAt
import Derived.Deep.RegionLaw
import Derived.Deep.RegionWith
import Derived.Sort.Row
import Derived.Sort.Grow
import Derived.Test.YtchlioikkhnidaaGreatRows
import Derived.Laws.Rows
import Derived.Lib.Slices
set_option linter.unusedVariables false
set_option linter.unusedSimpArgs false
namespace Go.Proofs.YtchlioikkhnidaaGreat
open Go.RowKit Go.MapKept
open Go.ChangeMaps (setBlock)

/-! ### 1. Worlds -/

/-- Of the blocks that were there only those in S may have changed. -/
structure Chg (S : Nat → Prop) (w w' : World) : Prop where
  os : w'.os = w.os
  tape : w'.tape = w.tape
  output : w'.output = w.output
  size : w.heap.size ≤ w'.heap.size
  block : ∀ k, k < w.heap.size → ¬ S k → w'.heap[k]? = w.heap[k]?

namespace Chg
variable {S S' : Nat → Prop} {w w1 w2 : World}
theorem refl (S : Nat → Prop) (w : World) : Chg S w w := ⟨rfl, rfl, rfl, Nat.le_refl _, fun _ _ _ => rfl⟩
theorem mono (h : Chg S w w1) (hs : ∀ k, k < w.heap.size → S k → S' k) : Chg S' w w1 :=
  ⟨h.os, h.tape, h.output, h.size, fun k hk hn => h.block k hk fun e => hn (hs k hk e)⟩
theorem trans (h : Chg S w w1) (h' : Chg S' w1 w2) (hs : ∀ k, k < w.heap.size → S' k → S k) : Chg S w w2 :=
  ⟨h'.os.trans h.os, h'.tape.trans h.tape, h'.output.trans h.output, Nat.le_trans h.size h'.size,
    fun k hk hn => (h'.block k (Nat.lt_of_lt_of_le hk h.size) fun e => hn (hs k hk e)).trans (h.block k hk hn)⟩
theorem alloc (h : Chg S w w1) (o : Obj) : Chg S w (w1.alloc o) :=
  h.trans (S' := fun _ => False) ⟨rfl, rfl, rfl, by simp, fun k hk _ => Below.heap_alloc _ _ _ hk⟩ (fun _ _ hf => hf.elim)
theorem drew (h : Chg S w w1) : Chg S w w1.drew := ⟨h.os, h.tape, h.output, h.size, h.block⟩
theorem drewN (h : Chg S w w1) (n : Nat) : Chg S w (w1.drewN n) := ⟨h.os, h.tape, h.output, h.size, h.block⟩
theorem setCell (h : Chg S w w1) (a : Addr) (v : Value) (hs : a.block < w.heap.size → S a.block) : Chg S w (w1.setCell a v) :=
  h.trans (S' := fun b => b = a.block) ⟨rfl, rfl, rfl, by simp [World.setCell], fun k _ hn => Below.heap_setCell _ _ _ _ hn⟩ (fun k hk e => by subst e; exact hs hk)
theorem setBlock (h : Chg S w w1) (b : Nat) (o : Obj) (hs : b < w.heap.size → S b) : Chg S w (setBlock w1 b o) :=
  h.trans (S' := fun k => k = b) ⟨rfl, rfl, rfl, by simp [Go.ChangeMaps.setBlock], fun k _ hn => by simp [Go.ChangeMaps.setBlock, Ne.symm hn]⟩ (fun k hk e => by subst e; exact hs hk)
theorem of_below (h : Below w.heap.size w w1) : Chg S w w1 := ⟨h.os, h.tape, h.output, h.size, fun k hk _ => h.block k hk⟩
theorem below (h : Chg (fun _ => False) w w1) : Below w.heap.size w w1 := ⟨h.os, h.tape, h.output, h.size, fun k hk => h.block k hk (fun e => e)⟩
theorem of_grown {row : Option Nat} (h : w.grownBy w1 row) (hs : ∀ k, row = some k → S k) : Chg S w w1 :=
  ⟨h.os, h.tape, h.output, h.size, fun k hk hn => h.block k hk fun e => hn (hs k e.symm)⟩
theorem heap (h : Chg S w w1) {b : Nat} {o : Obj} (hb : w.heap[b]? = some o) (hn : ¬ S b) : w1.heap[b]? = some o :=
  (h.block b (Array.getElem?_eq_some_iff.1 hb).1 hn).trans hb
theorem cell (h : Chg S w w1) {a : Addr} {v : Value} (hc : w.cell? a = some v) (hn : ¬ S a.block) : w1.cell? a = some v :=
  (World.cell?_of_block (h.block a.block (World.block_lt_of_cell? w _ hc) hn)).trans hc
theorem frozen (h : Chg S w w1) {a : Addr} (hl : a.block < w.heap.size) (hn : ¬ S a.block) : w1.frozen? a = w.frozen? a :=
  World.frozen?_of_block (h.block a.block hl hn)
end Chg

/-- What lies in a block. -/
def ob (w : World) (b : Nat) : Option Obj := w.heap[b]?

theorem ob_heap {w : World} {b : Nat} {o : Obj} (h : ob w b = some o) : w.heap[b]? = some o := h
theorem ob_lt {w : World} {b : Nat} {o : Obj} (h : ob w b = some o) : b < w.heap.size := (Array.getElem?_eq_some_iff.1 h).1
theorem Chg.ob {S : Nat → Prop} {w w1 : World} (h : Chg S w w1) {b : Nat} {o : Obj} (hb : ob w b = some o) (hn : ¬ S b) : ob w1 b = some o := h.heap hb hn
theorem ob_alloc_at (w : World) (o : Obj) : ob (w.alloc o) w.heap.size = some o := (heap_alloc w o).1
@[go_sem] theorem ob_alloc_new (w : World) (o : Obj) (b : Nat) (h : b = w.heap.size) : ob (w.alloc o) b = some o := by subst h; exact ob_alloc_at w o
@[go_sem] theorem ob_alloc_past (w : World) (o : Obj) (b : Nat) (h : b < w.heap.size) : ob (w.alloc o) b = ob w b := Below.heap_alloc _ _ _ h
@[go_sem] theorem ob_drew (w : World) (b : Nat) : ob w.drew b = ob w b := rfl
@[go_sem] theorem ob_drewN (w : World) (n b : Nat) : ob (w.drewN n) b = ob w b := rfl
@[go_sem] theorem ob_setCell_ne (w : World) (a : Addr) (v : Value) (b : Nat) (h : b ≠ a.block) : ob (w.setCell a v) b = ob w b := Below.heap_setCell _ _ _ _ h
@[go_sem] theorem ob_setBlock_ne (w : World) (b c : Nat) (o : Obj) (h : c ≠ b) : ob (setBlock w b o) c = ob w c := by simp [ob, setBlock, Ne.symm h]
@[go_sem] theorem ob_setBlock_lt (w : World) (b : Nat) (o : Obj) (h : b < w.heap.size) : ob (setBlock w b o) b = some o := by
  simp [ob, setBlock, h]
@[go_sem] theorem size_setBlock (w : World) (b : Nat) (o : Obj) : (setBlock w b o).heap.size = w.heap.size := by simp [setBlock]
@[go_sem] theorem setBlock_drew (w : World) (b : Nat) (o : Obj) : setBlock w.drew b o = (setBlock w b o).drew := rfl
@[go_sem] theorem setBlock_drewN (w : World) (n b : Nat) (o : Obj) : setBlock (w.drewN n) b o = (setBlock w b o).drewN n := rfl
@[go_sem] theorem setCell_drewN (w : World) (n : Nat) (a : Addr) (v : Value) : (w.drewN n).setCell a v = (w.setCell a v).drewN n := rfl
@[go_sem] theorem alloc_drewN (w : World) (n : Nat) (o : Obj) : (w.drewN n).alloc o = (w.alloc o).drewN n := rfl
@[go_sem] theorem cell_setBlock_ne (w : World) (b : Nat) (o : Obj) (a : Addr) (h : a.block ≠ b) : (setBlock w b o).cell? a = w.cell? a :=
  World.cell?_of_block (ob_setBlock_ne w b a.block o h)
@[go_sem] theorem frozen_setBlock_ne (w : World) (b : Nat) (o : Obj) (a : Addr) (h : a.block ≠ b) : (setBlock w b o).frozen? a = w.frozen? a :=
  World.frozen?_of_block (ob_setBlock_ne w b a.block o h)
@[go_sem] theorem cell_setBlock_gt (w : World) (b : Nat) (o : Obj) (a : Addr) (h : b < a.block) : (setBlock w b o).cell? a = w.cell? a := cell_setBlock_ne w b o a (by omega)
@[go_sem] theorem frozen_setBlock_gt (w : World) (b : Nat) (o : Obj) (a : Addr) (h : b < a.block) : (setBlock w b o).frozen? a = w.frozen? a := frozen_setBlock_ne w b o a (by omega)
@[go_sem] theorem setBlock_setBlock (w : World) (b : Nat) (o o' : Obj) : setBlock (setBlock w b o) b o' = setBlock w b o' := by simp [setBlock]
theorem cell_ob {w : World} {b : Nat} {c : Array Value} {t : TypeId} {fr : Nat × Nat} (h : ob w b = some (.cells c t fr)) (i : Nat) : w.cell? ⟨b, i, none⟩ = c[i]? := by
  simp [World.cell?, ob_heap h]
theorem frozen_ob {w : World} {b : Nat} {c : Array Value} {t : TypeId} (h : ob w b = some (.cells c t (0, 0))) (i : Nat) : w.frozen? ⟨b, i, none⟩ = false := by
  simp [World.frozen?, ob_heap h]
/-- One cell of a block is another one. -/
def setAt (i : Nat) (v : Value) : Obj → Obj
  | .cells c t fr => .cells (c.setIfInBounds i v) t fr
  | o => o
@[go_sem] theorem setAt_cells (i : Nat) (v : Value) (c : Array Value) (t : TypeId) (fr : Nat × Nat) : setAt i v (.cells c t fr) = .cells (c.setIfInBounds i v) t fr := rfl
@[go_sem] theorem ob_setCell_same (w : World) (b i : Nat) (v : Value) : ob (w.setCell ⟨b, i, none⟩ v) b = (ob w b).map (setAt i v) := by
  unfold ob
  simp only [World.setCell, Array.getElem?_modify, if_true]
  congr 1

theorem beq_int (a b : Int) : (a == b) = decide (a = b) := rfl
theorem retb {a b : Bool} (h : a = b) : Ending.returned (.bool a) = .returned (.bool b) := by rw [h]
theorem reti {k : IntKind} {a b : Int} (h : a = b) : Ending.returned (.int k a) = .returned (.int k b) := by rw [h]

/-! ### 2. Maps with whole numbers as keys -/

def upd {α : Type} (f : Int → Option α) (k : Int) (v : α) : Int → Option α := fun j => if j = k then some v else f j
def del {α : Type} (f : Int → Option α) (k : Int) : Int → Option α := fun j => if j = k then none else f j

/-- A map's block: what stands at each key. -/
def MapObj (o : Obj) (f : Int → Option Value) : Prop :=
  ∃ es clock, o = .map es clock ∧ Stamped es clock ∧ (∀ x ∈ es.toList, ∃ k, x.key = .int .i64 k) ∧
    ∀ k v, f k = some v ↔ ∃ x ∈ es.toList, x.key = .int .i64 k ∧ x.val = v

theorem MapObj.empty (c : Nat) : MapObj (.map #[] c) (fun _ => none) := ⟨#[], c, rfl, stamped_empty c, by simp, by simp⟩

/-- The types of a map: its key's is int. -/
structure MapTy (P : Program) (mty kt et : TypeId) (z : Value) : Prop where
  map : P.underlying mty = some (.map kt et)
  key : P.underlying kt = some (.int .i64)
  zero : ∀ w, (zeroValue et).run P w = .ok z w

section
variable {P : Program} {mty kt et : TypeId} {z : Value} {o : Obj} {f : Int → Option Value}

theorem isKey_int (k : Int) : IsKey (.int .i64) (.int .i64 k) := rfl
theorem MapObj.found {es : Array MapEntry} (hk : ∀ x ∈ es.toList, ∃ k, x.key = .int .i64 k) (hf : ∀ k v, f k = some v ↔ ∃ x ∈ es.toList, x.key = .int .i64 k ∧ x.val = v) (k : Int) :
    (Instr.findNow (.int .i64) (.int .i64 k) es.toList 0 = some none ∧ f k = none ∧ ∀ x ∈ es.toList, x.key ≠ .int .i64 k) ∨
    ∃ j e, Instr.findNow (.int .i64) (.int .i64 k) es.toList 0 = some (some (j, e.val)) ∧ es[j]? = some e ∧ e.key = .int .i64 k ∧ f k = some e.val := by
  have hks : ∀ x ∈ es.toList, IsKey (.int .i64) x.key := fun x hx => by
    obtain ⟨k, e⟩ := hk x hx
    rw [e]; exact rfl
  rcases findNow_spec (d := .int .i64) (k := .int .i64 k) rfl es.toList 0 hks with ⟨h1, h2⟩ | ⟨j, e, h1, h2, h3⟩
  · refine .inl ⟨h1, ?_, h2⟩
    cases hfk : f k with
    | none => rfl
    | some v =>
      obtain ⟨x, hx, e1, _⟩ := (hf k v).1 hfk
      exact absurd e1 (h2 x hx)
  · refine .inr ⟨j, e, by simpa using h1, by simpa using h2, h3, (hf k e.val).2 ⟨e, List.mem_of_getElem? h2, h3, rfl⟩⟩

theorem MapObj.lookup (t : MapTy P mty kt et z) (h : MapObj o f) (k : Int) (b : Nat) (w : World) (hb : ob w b = some o) :
    (Instr.lookup mty (.map (some b)) (.int .i64 k) false).run P w = .ok ((f k).getD z) w := by
  obtain ⟨es, clock, rfl, hs, hk, hf⟩ := h
  rcases found hk hf k with ⟨h1, h2, _⟩ | ⟨j, e, h1, _, _, h4⟩
  · simp [Instr.lookup, run_underlying t.map, MapKept.run_getObj_map hb, MapKept.run_checkKey t.key (isKey_int k), MapKept.run_findKey t.key h1, t.zero, h2]
  · simp [Instr.lookup, run_underlying t.map, MapKept.run_getObj_map hb, MapKept.run_checkKey t.key (isKey_int k), MapKept.run_findKey t.key h1, h4]
theorem MapObj.lookup_ok (t : MapTy P mty kt et z) (h : MapObj o f) (k : Int) (b : Nat) (w : World) (hb : ob w b = some o) :
    (Instr.lookup mty (.map (some b)) (.int .i64 k) true).run P w = .ok (.tuple #[(f k).getD z, .bool (f k).isSome]) w := by
  obtain ⟨es, clock, rfl, hs, hk, hf⟩ := h
  rcases found hk hf k with ⟨h1, h2, _⟩ | ⟨j, e, h1, _, _, h4⟩
  · simp [Instr.lookup, run_underlying t.map, MapKept.run_getObj_map hb, MapKept.run_checkKey t.key (isKey_int k), MapKept.run_findKey t.key h1, t.zero, h2]
  · simp [Instr.lookup, run_underlying t.map, MapKept.run_getObj_map hb, MapKept.run_checkKey t.key (isKey_int k), MapKept.run_findKey t.key h1, h4]

theorem getElem_inj {es : Array MapEntry} {clock : Nat} (h : Stamped es clock) {i j : Nat} {x y : MapEntry} (hx : es[i]? = some x) (hy : es[j]? = some y) (e : x.key = y.key) : i = j := by
  have hn := h.2.2
  have h1 : (es.toList.map (·.key))[i]? = some x.key := by simp [hx]
  have h2 : (es.toList.map (·.key))[j]? = some y.key := by simp [hy]
  have l1 := (List.getElem?_eq_some_iff.1 h1).1
  exact (List.getElem?_inj l1 hn).1 (by rw [h1, h2, e])

theorem MapObj.pushed {es : Array MapEntry} {clock : Nat} (hs : Stamped es clock) (hk : ∀ x ∈ es.toList, ∃ k, x.key = .int .i64 k) (hf : ∀ k v, f k = some v ↔ ∃ x ∈ es.toList, x.key = .int .i64 k ∧ x.val = v)
    (k : Int) (v : Value) (hn : ∀ x ∈ es.toList, x.key ≠ .int .i64 k) : MapObj (.map (es.push { key := .int .i64 k, val := v, born := clock }) (clock + 1)) (upd f k v) := by
  refine ⟨_, _, rfl, stamped_push hs hn, ?_, ?_⟩
  · intro x hx
    simp only [Array.toList_push, List.mem_append, List.mem_singleton] at hx
    rcases hx with hx | rfl
    · exact hk x hx
    · exact ⟨k, rfl⟩
  · intro j u
    simp only [upd, Array.toList_push, List.mem_append, List.mem_singleton]
    by_cases hj : j = k
    · subst hj
      simp only [if_true, Option.some.injEq]
      constructor
      · rintro rfl; exact ⟨_, .inr rfl, rfl, rfl⟩
      · rintro ⟨x, hx | rfl, e1, e2⟩
        · exact absurd e1 (hn x hx)
        · exact e2
    · rw [if_neg hj, hf]
      constructor
      · rintro ⟨x, hx, e⟩; exact ⟨x, .inl hx, e⟩
      · rintro ⟨x, hx | rfl, e1, e2⟩
        · exact ⟨x, hx, e1, e2⟩
        · simp only [Value.int.injEq, true_and] at e1; exact absurd e1.symm hj

theorem mem_modify {es : Array MapEntry} {j : Nat} {e : MapEntry} (hj : es[j]? = some e) (g : MapEntry → MapEntry) (x : MapEntry) :
    x ∈ (es.modify j g).toList ↔ x = g e ∨ ∃ i, i ≠ j ∧ es[i]? = some x := by
  rw [Array.mem_toList_iff, Array.mem_iff_getElem?]
  simp only [Array.getElem?_modify]
  constructor
  · rintro ⟨i, hi⟩
    by_cases hij : j = i
    · subst hij
      rw [if_pos rfl, hj] at hi
      exact .inl (by simpa using hi.symm)
    · rw [if_neg hij] at hi
      exact .inr ⟨i, fun e => hij e.symm, hi⟩
  · rintro (rfl | ⟨i, hij, hi⟩)
    · exact ⟨j, by simp [hj]⟩
    · exact ⟨i, by rw [if_neg (Ne.symm hij)]; exact hi⟩

theorem MapObj.modified {es : Array MapEntry} {clock : Nat} (hs : Stamped es clock) (hk : ∀ x ∈ es.toList, ∃ k, x.key = .int .i64 k) (hf : ∀ k v, f k = some v ↔ ∃ x ∈ es.toList, x.key = .int .i64 k ∧ x.val = v)
    {j : Nat} {e : MapEntry} (k : Int) (v : Value) (hj : es[j]? = some e) (he : e.key = .int .i64 k) (g : MapEntry → MapEntry) (hg : g e = { e with key := .int .i64 k, val := v }) (hgb : ∀ x, (g x).born = x.born) :
    MapObj (.map (es.modify j g) clock) (upd f k v) := by
  refine ⟨_, _, rfl, stamped_modify hs _ _ (fun x _ => hgb x) (fun x _ hx => ?_), ?_, ?_⟩
  · rw [hj] at hx
    cases hx
    rw [hg, he]
  · intro x hx
    rcases (mem_modify hj g x).1 hx with rfl | ⟨i, _, hi⟩
    · rw [hg]; exact ⟨k, rfl⟩
    · exact hk x (by rw [Array.mem_toList_iff]; exact Array.mem_of_getElem? hi)
  · intro i u
    simp only [upd, mem_modify hj]
    by_cases hi : i = k
    · subst hi
      simp only [if_true, Option.some.injEq]
      constructor
      · rintro rfl; exact ⟨_, .inl rfl, by rw [hg], by rw [hg]⟩
      · rintro ⟨x, rfl | ⟨q, hq, hx⟩, e1, e2⟩
        · rw [hg] at e2; exact e2
        · exact absurd (getElem_inj hs hx hj (by rw [e1, he])) hq
    · rw [if_neg hi, hf]
      constructor
      · rintro ⟨x, hx, e1, e2⟩
        rw [Array.mem_toList_iff, Array.mem_iff_getElem?] at hx
        obtain ⟨q, hq⟩ := hx
        refine ⟨x, .inr ⟨q, fun e' => ?_, hq⟩, e1, e2⟩
        subst e'
        rw [hj] at hq
        cases hq
        rw [he] at e1
        simp only [Value.int.injEq, true_and] at e1
        exact hi e1.symm
      · rintro ⟨x, rfl | ⟨q, hq, hx⟩, e1, e2⟩
        · rw [hg] at e1
          simp only [Value.int.injEq, true_and] at e1
          exact absurd e1.symm hi
        · exact ⟨x, by rw [Array.mem_toList_iff]; exact Array.mem_of_getElem? hx, e1, e2⟩

theorem MapObj.update (t : MapTy P mty kt et z) (h : MapObj o f) (k : Int) (v : Value) (b : Nat) :
    ∃ o', MapObj o' (upd f k v) ∧ ∀ w : World, ob w b = some o → (Instr.mapUpdate mty (.map (some b)) (.int .i64 k) v).run P w = .ok () (setBlock w b o') := by
  obtain ⟨es, clock, rfl, hs, hk, hf⟩ := h
  rcases found hk hf k with ⟨h1, h2, h3⟩ | ⟨j, e, h1, h2, h3, h4⟩
  · refine ⟨_, pushed hs hk hf k v h3, fun w hb => ?_⟩
    simp [Instr.mapUpdate, run_underlying t.map, MapKept.run_getObj_map hb, MapKept.run_checkKey t.key (isKey_int k), MapKept.run_findKey t.key h1, MapKept.run_setObj_map _ hb, setBlock]
  · refine ⟨_, modified hs hk hf k v h2 h3 (fun e => { e with key := .int .i64 k, val := v }) rfl (fun _ => rfl), fun w hb => ?_⟩
    have hst : (Instr.keyThatStays (.int .i64 k) (.int .i64 k)).run P w = .ok (.int .i64 k) w := run_keyThatStays (d := .int .i64) rfl
    simp [Instr.mapUpdate, run_underlying t.map, MapKept.run_getObj_map hb, MapKept.run_checkKey t.key (isKey_int k), MapKept.run_findKey t.key h1, h2, h3, hst, MapKept.run_setObj_map _ hb, setBlock]

/-- 'm[k] op= v', or one place of several that are assigned: the entry is laid first, what it gets comes then. -/
theorem MapObj.entry (t : MapTy P mty kt et z) (h : MapObj o f) (k : Int) (b : Nat) :
    ∃ o' st, MapObj o' (upd f k ((f k).getD z)) ∧ (∀ w : World, ob w b = some o → (Instr.mapEntry mty (.map (some b)) (.int .i64 k)).run P w = .ok (.tuple #[(f k).getD z, .int .i64 st]) (setBlock w b o')) ∧
      ∀ v, ∃ o'', MapObj o'' (upd f k v) ∧ ∀ w : World, ob w b = some o' → (Instr.entryStore mty (.map (some b)) (.int .i64 st) v).run P w = .ok () (setBlock w b o'') := by
  obtain ⟨es, clock, rfl, hs, hk, hf⟩ := h
  have store : ∀ (es' : Array MapEntry) (clock' : Nat) (j : Nat) (e : MapEntry) (f' : Int → Option Value), Stamped es' clock' → (∀ x ∈ es'.toList, ∃ k, x.key = .int .i64 k) → (∀ k v, f' k = some v ↔ ∃ x ∈ es'.toList, x.key = .int .i64 k ∧ x.val = v) →
      es'[j]? = some e → e.key = .int .i64 k → (∀ q v, q ≠ k → (f' q = some v ↔ f q = some v)) →
      ∀ v, ∃ o'', MapObj o'' (upd f k v) ∧ ∀ w : World, ob w b = some (.map es' clock') → (Instr.entryStore mty (.map (some b)) (.int .i64 e.born) v).run P w = .ok () (setBlock w b o'') := by
    intro es' clock' j e f' hs' hk' hf' hj he hag v
    have hidx : es'.findIdx? (fun x => (x.born : Int) == (e.born : Int)) = some j := by
      rw [Array.findIdx?_eq_some_iff_getElem]
      have hlt := (Array.getElem?_eq_some_iff.1 hj).1
      have hej := (Array.getElem?_eq_some_iff.1 hj).2
      refine ⟨hlt, by simp [hej], fun i hi => ?_⟩
      simp only [beq_iff_eq, Int.natCast_inj]
      intro heq
      have hn := hs'.2.1
      have h1 : (es'.toList.map (·.born))[i]? = some (es'[i]).born := by simp [Array.getElem?_eq_getElem (show i < es'.size by omega)]
      have h2 : (es'.toList.map (·.born))[j]? = some e.born := by simp [hj]
      have l1 := (List.getElem?_eq_some_iff.1 h1).1
      have := (List.getElem?_inj (j := j) l1 hn).1 (by rw [h1, h2, heq])
      omega
    have hm := modified hs' hk' hf' k v hj he (fun x => { x with val := v }) (by rw [← he]) (fun _ => rfl)
    refine ⟨.map (es'.modify j fun x => { x with val := v }) clock', ?_, fun w hb => ?_⟩
    · have : upd f' k v = upd f k v := by
        funext q
        unfold upd
        split
        · rfl
        · rename_i hq
          cases h1 : f' q with
          | some u => exact ((hag q u hq).1 h1).symm
          | none =>
            cases h2 : f q with
            | none => rfl
            | some u => rw [(hag q u hq).2 h2] at h1; cases h1
      rw [← this]
      exact hm
    · simp [Instr.entryStore, MapKept.run_getObj_map hb, asInt, asIntOf, hidx, MapKept.run_setObj_map _ hb, setBlock]
  rcases found hk hf k with ⟨h1, h2, h3⟩ | ⟨j, e, h1, h2, h3, h4⟩
  · have hp := pushed hs hk hf k z h3
    refine ⟨_, clock, by rw [h2]; exact hp, fun w hb => ?_, ?_⟩
    · simp [Instr.mapEntry, run_underlying t.map, MapKept.run_getObj_map hb, MapKept.run_checkKey t.key (isKey_int k), MapKept.run_findKey t.key h1, MapKept.run_setObj_map _ hb, setBlock, t.zero, h2, goInt]
    · obtain ⟨es', clock', he, hs', hk', hf'⟩ := hp
      injection he with he1 he2
      subst he1 he2
      exact store _ _ es.size { key := .int .i64 k, val := z, born := clock } _ hs' hk' hf' (by simp) rfl (fun q v hq => by unfold upd; rw [if_neg hq])
  · have hst : ∀ w, (Instr.keyThatStays (.int .i64 k) (.int .i64 k)).run P w = .ok (.int .i64 k) w := fun w => run_keyThatStays (d := .int .i64) rfl
    have hp := modified hs hk hf k e.val h2 h3 (fun e => { e with key := .int .i64 k }) (by rw [← h3]) (fun _ => rfl)
    refine ⟨_, e.born, by rw [h4]; exact hp, fun w hb => ?_, ?_⟩
    · simp [Instr.mapEntry, run_underlying t.map, MapKept.run_getObj_map hb, MapKept.run_checkKey t.key (isKey_int k), MapKept.run_findKey t.key h1, MapKept.run_setObj_map _ hb, setBlock, h2, h3, hst, h4, goInt]
    · obtain ⟨es', clock', he, hs', hk', hf'⟩ := hp
      injection he with he1 he2
      subst he1 he2
      have hj' : (es.modify j (fun e => { e with key := .int .i64 k }))[j]? = some { e with key := .int .i64 k } := by rw [Array.getElem?_modify, if_pos rfl, h2]; rfl
      exact store _ _ j { e with key := .int .i64 k } _ hs' hk' hf' hj' rfl (fun q v hq => by rw [upd, if_neg hq])

theorem MapObj.delete (t : MapTy P mty kt et z) (h : MapObj o f) (k : Int) (b : Nat) :
    ∃ o', MapObj o' (del f k) ∧ ∀ (ty : TypeId) (w : World), ob w b = some o → (Builtin.delete_ #[mty, kt] ty #[.map (some b), .int .i64 k]).run P w = .ok (.tuple #[]) (setBlock w b o') := by
  obtain ⟨es, clock, rfl, hs, hk, hf⟩ := h
  rcases found hk hf k with ⟨h1, h2, h3⟩ | ⟨j, e, h1, h2, h3, h4⟩
  · refine ⟨.map es clock, ⟨es, clock, rfl, hs, hk, fun q v => ?_⟩, fun ty w hb => ?_⟩
    · unfold del
      split
      · rename_i e; subst e; rw [← hf, h2]
      · exact hf q v
    · simp [Builtin.delete_, run_underlying t.map, MapKept.run_getObj_map hb, MapKept.run_checkKey t.key (isKey_int k), MapKept.run_findKey t.key h1, MapKept.run_setObj_map _ hb, setBlock]
  · have hlt := (Array.getElem?_eq_some_iff.1 h2).1
    have hl : (es.eraseIdxIfInBounds j).toList = es.toList.eraseIdx j := by
      unfold Array.eraseIdxIfInBounds
      rw [dif_pos hlt, Array.toList_eraseIdx]
    have hmem : ∀ x, x ∈ (es.eraseIdxIfInBounds j).toList ↔ ∃ i, i ≠ j ∧ es[i]? = some x := by
      intro x
      rw [hl, List.mem_eraseIdx_iff_getElem?]
      constructor
      · rintro ⟨i, hi, hx⟩; exact ⟨i, hi, by simpa using hx⟩
      · rintro ⟨i, hi, hx⟩; exact ⟨i, hi, by simpa using hx⟩
    refine ⟨_, ⟨es.eraseIdxIfInBounds j, clock, rfl, stamped_erase hs j, fun x hx => ?_, fun q v => ?_⟩, fun ty w hb => ?_⟩
    · obtain ⟨i, _, hi⟩ := (hmem x).1 hx
      exact hk x (by rw [Array.mem_toList_iff]; exact Array.mem_of_getElem? hi)
    · simp only [hmem, del]
      by_cases hq : q = k
      · subst hq
        simp only [if_true]
        constructor
        · intro hh; cases hh
        · rintro ⟨x, ⟨i, hi, hx⟩, e1, _⟩
          exact absurd (getElem_inj hs hx h2 (by rw [e1, h3])) hi
      · rw [if_neg hq, hf]
        constructor
        · rintro ⟨x, hx, e1, e2⟩
          rw [Array.mem_toList_iff, Array.mem_iff_getElem?] at hx
          obtain ⟨i, hi⟩ := hx
          refine ⟨x, ⟨i, fun e' => ?_, hi⟩, e1, e2⟩
          subst e'
          rw [h2] at hi
          cases hi
          rw [h3] at e1
          simp only [Value.int.injEq, true_and] at e1
          exact hq e1.symm
        · rintro ⟨x, ⟨i, _, hx⟩, e⟩
          exact ⟨x, by rw [Array.mem_toList_iff]; exact Array.mem_of_getElem? hx, e⟩
    · simp [Builtin.delete_, run_underlying t.map, MapKept.run_getObj_map hb, MapKept.run_checkKey t.key (isKey_int k), MapKept.run_findKey t.key h1, MapKept.run_setObj_map _ hb, setBlock]
end


/-! ### 3. Slices that are read, element by element -/

/-- The rows lie one behind the other, sz cells each. -/
def RowsAt (w : World) (b off sz : Nat) (rows : List (List Value)) : Prop := ∀ i r, rows[i]? = some r → w.rangeAt b (off + i * sz) r

/-- A slice's value, and its elements' cells. -/
def SliceIs (w : World) (sz : Nat) (v : Value) (rows : List (List Value)) : Prop :=
  ∃ A cap, v = .slice A rows.length cap ∧ rows.length ≤ cap ∧ rows.length ≤ 9223372036854775807 ∧ (0 < rows.length → ∃ b off, A = some ⟨b, off, none⟩ ∧ RowsAt w b off sz rows)

theorem rangeAt_eq {w w' : World} {b o : Nat} {cs : List Value} (h : w.rangeAt b o cs) (hb : ∀ i, w'.cell? ⟨b, i, none⟩ = w.cell? ⟨b, i, none⟩) : w'.rangeAt b o cs := fun j v hv => by rw [hb]; exact h j v hv
/-- Where the first cell of a row that is not empty is there, its block is old. -/
theorem rangeAt_lt {w : World} {b o : Nat} {cs : List Value} (h : w.rangeAt b o cs) (hn : cs ≠ []) : b < w.heap.size := by
  cases cs with
  | nil => exact absurd rfl hn
  | cons x xs => exact World.block_lt_of_cell? w _ (h 0 x rfl)
theorem rangeAt_below {w w' : World} {b o : Nat} {cs : List Value} (h : w.rangeAt b o cs) (hb : Below w.heap.size w w') : w'.rangeAt b o cs := fun j v hv => by
  have := h j v hv
  rw [hb.cell (World.block_lt_of_cell? w _ this)]
  exact this
theorem RowsAt.below {w w' : World} {b off sz : Nat} {rows : List (List Value)} (h : RowsAt w b off sz rows) (hb : Below w.heap.size w w') : RowsAt w' b off sz rows := fun i r hr => rangeAt_below (h i r hr) hb
theorem SliceIs.below {w w' : World} {sz : Nat} {v : Value} {rows : List (List Value)} (h : SliceIs w sz v rows) (hb : Below w.heap.size w w') : SliceIs w' sz v rows := by
  obtain ⟨A, cap, e, h1, h2, h3⟩ := h
  exact ⟨A, cap, e, h1, h2, fun h0 => by obtain ⟨b, off, e, hr⟩ := h3 h0; exact ⟨b, off, e, hr.below hb⟩⟩
theorem RowsAt.take {w : World} {b off sz cap : Nat} {rows : List (List Value)} (h : RowsAt w b off sz rows) (k : Nat) (hk : k ≤ rows.length) (hc : k ≤ cap) (hm : k ≤ 9223372036854775807) :
    SliceIs w sz (.slice (some ⟨b, off, none⟩) k cap) (rows.take k) :=
  ⟨_, cap, by rw [List.length_take_of_le hk], by rw [List.length_take_of_le hk]; exact hc, by rw [List.length_take_of_le hk]; exact hm,
    fun _ => ⟨b, off, rfl, fun i r hr => h i r (by rw [List.getElem?_take] at hr; split at hr; exact hr; cases hr)⟩⟩
theorem bcell {W w1 : World} (hb : Below W.heap.size W w1) : (∀ b o, b < W.heap.size → w1.cell? ⟨b, o, none⟩ = W.cell? ⟨b, o, none⟩) ∧ (∀ b o, b < W.heap.size → w1.frozen? ⟨b, o, none⟩ = W.frozen? ⟨b, o, none⟩) :=
  ⟨fun b o h => hb.cell (p := ⟨b, o, none⟩) h, fun b o h => hb.frozen (p := ⟨b, o, none⟩) h⟩
theorem below_trans {w w1 w2 : World} (h : Below w.heap.size w w1) (h' : Below w1.heap.size w1 w2) : Below w.heap.size w w2 :=
  h.trans ⟨h'.os, h'.tape, h'.output, h'.size, fun k hk => h'.block k (Nat.lt_of_lt_of_le hk h.size)⟩
theorem below_chg {S : Nat → Prop} {w w1 w2 : World} (h : Below w.heap.size w w1) (h' : Chg S w1 w2) (hs : ∀ k, k < w.heap.size → ¬ S k) : Below w.heap.size w w2 :=
  h.trans ⟨h'.os, h'.tape, h'.output, h'.size, fun k hk => h'.block k (Nat.lt_of_lt_of_le hk h.size) (hs k hk)⟩


/-! ### 4. Slices of the call's own, and append -/

/-- Each row has sz cells. -/
structure RowsOk (sz : Nat) (rows : List (List Value)) : Prop where
  len : ∀ r ∈ rows, r.length = sz
  one : ∀ r ∈ rows, ∀ u ∈ r, u.oneCell' = true
theorem RowsOk.append {sz : Nat} {a b : List (List Value)} (h : RowsOk sz a) (h' : RowsOk sz b) : RowsOk sz (a ++ b) :=
  ⟨fun r hr => by rcases List.mem_append.1 hr with hr | hr; exact h.len r hr; exact h'.len r hr, fun r hr => by rcases List.mem_append.1 hr with hr | hr; exact h.one r hr; exact h'.one r hr⟩
theorem RowsOk.nil {sz : Nat} : RowsOk sz [] := ⟨by simp, by simp⟩
theorem RowsOk.single {sz : Nat} {r : List Value} (h : r.length = sz) (h1 : ∀ u ∈ r, u.oneCell' = true) : RowsOk sz [r] := ⟨by simp [h], by simpa using h1⟩
theorem RowsOk.flat {sz : Nat} : ∀ {rows : List (List Value)}, RowsOk sz rows → rows.flatten.length = rows.length * sz
  | [], _ => by simp
  | r :: rows, h => by
    have h1 := RowsOk.flat (rows := rows) ⟨fun x hx => h.len x (.tail _ hx), fun x hx => h.one x (.tail _ hx)⟩
    have h2 := h.len r (.head _)
    simp only [List.flatten_cons, List.length_append, List.length_cons, h1, h2, Nat.add_mul, Nat.one_mul]
    omega
theorem RowsOk.flat_at {sz : Nat} : ∀ {rows : List (List Value)}, RowsOk sz rows → ∀ i r, rows[i]? = some r → ∀ j u, r[j]? = some u → rows.flatten[i * sz + j]? = some u
  | [], _, i, r, hr, _, _, _ => by simp at hr
  | x :: rows, h, i, r, hr, j, u, hu => by
    have hx := h.len x (.head _)
    cases i with
    | zero =>
      simp at hr
      subst hr
      have := (List.getElem?_eq_some_iff.1 hu).1
      rw [Nat.zero_mul, Nat.zero_add, List.flatten_cons, List.getElem?_append_left this]
      exact hu
    | succ i =>
      have := RowsOk.flat_at (rows := rows) ⟨fun y hy => h.len y (.tail _ hy), fun y hy => h.one y (.tail _ hy)⟩ i r (by simpa using hr) j u hu
      rw [List.flatten_cons, List.getElem?_append_right (by rw [hx, Nat.add_mul, Nat.one_mul]; omega), hx, show (i + 1) * sz + j - sz = i * sz + j by rw [Nat.add_mul, Nat.one_mul]; omega]
      exact this
theorem RowsOk.flat_one {sz : Nat} {rows : List (List Value)} (h : RowsOk sz rows) : ∀ u ∈ rows.flatten, u.oneCell' = true := fun u hu => by
  obtain ⟨r, hr, hu⟩ := List.mem_flatten.1 hu
  exact h.one r hr u hu

/-- A slice of the call's own (nil, or at the head of a block that nobody froze): its elements. -/
structure OwnSl (w : World) (e sz : Nat) (v : Value) (rows : List (List Value)) : Prop where
  own : w.ownsRow 0 e sz v rows.length rows.flatten
  ok : RowsOk sz rows

theorem OwnSl.slice {w : World} {e sz : Nat} {v : Value} {rows : List (List Value)} (h : OwnSl w e sz v rows) : SliceIs w sz v rows := by
  obtain ⟨hl, hv⟩ := h.own
  rcases hv with ⟨rfl, h0⟩ | ⟨g, cap, cur, rfl, _, hh, hc, hm, hcs, ht⟩
  · exact ⟨none, 0, by rw [h0], by omega, by omega, fun hp => by omega⟩
  · unfold maxLen at hm
    refine ⟨_, cap, rfl, hc, by omega, fun hp => ⟨g, 0, rfl, fun i r hr j u hu => ?_⟩⟩
    have h1 := h.ok.flat_at i r hr j u hu
    rw [← ht, List.getElem?_take] at h1
    split at h1
    · rw [Nat.zero_add]
      simpa [World.cell?, hh] using h1
    · cases h1
theorem OwnSl.nil {w : World} {e sz : Nat} : OwnSl w e sz (.slice none 0 0) [] := ⟨World.ownsRow_nil w 0 e sz, RowsOk.nil⟩
theorem OwnSl.lt {w : World} {e sz : Nat} {v : Value} {rows : List (List Value)} (h : OwnSl w e sz v rows) {k : Nat} (hk : v.ownBlock = some k) : k < w.heap.size := (h.own.lt k hk).2
theorem OwnSl.chg {S : Nat → Prop} {w w' : World} {e sz : Nat} {v : Value} {rows : List (List Value)} (h : OwnSl w e sz v rows) (hc : Chg S w w') (hn : ∀ k, v.ownBlock = some k → ¬ S k) : OwnSl w' e sz v rows := by
  refine ⟨⟨h.own.1, ?_⟩, h.ok⟩
  rcases h.own.2 with h2 | ⟨g, cap, cur, hv, hb, hh, r⟩
  · exact .inl h2
  · exact .inr ⟨g, cap, cur, hv, hb, hc.heap hh (hn g (by rw [hv]; rfl)), r⟩
theorem OwnSl.typed {w : World} {e sz : Nat} {v : Value} {rows : List (List Value)} (h : OwnSl w e sz v rows) {k : Nat} (hk : v.ownBlock = some k) : ∃ c, ob w k = some (.cells c e (0, 0)) := by
  rcases h.own.2 with ⟨rfl, _⟩ | ⟨g, cap, cur, rfl, hb, hh, r⟩
  · cases hk
  · simp only [Value.ownBlock, Option.some.injEq] at hk
    subst hk
    exact ⟨_, hh⟩
/-- What a composite literal lays. -/
theorem OwnSl.made {w : World} {e sz b : Nat} {c : Array Value} {rows : List (List Value)} (hb : ob w b = some (.cells c e (0, 0))) (ok : RowsOk sz rows) (hc : c.toList = rows.flatten) (hm : rows.length ≤ 1000000) :
    OwnSl w e sz (.slice (some ⟨b, 0, none⟩) rows.length rows.length) rows := by
  refine ⟨⟨ok.flat, .inr ⟨b, _, c, rfl, Nat.zero_le _, hb, Nat.le_refl _, by unfold maxLen; omega, ?_, ?_⟩⟩, ok⟩
  · rw [← ok.flat, ← hc]; simp
  · rw [hc, ← ok.flat, List.take_length]

structure SlTy (P : Program) (t e sz bytes : Nat) (z : Value) : Prop where
  under : P.underlying t = some (.slice e)
  info : (P.info? e).map (fun i => (i.zero, i.size, i.bytes)) = some (some z, sz, bytes)
  zc : z.cells.size = sz
  pos : 0 < sz
  pb : 0 < bytes

section
variable {P : Program} {t e sz bytes : Nat} {z : Value} {v x : Value} {xs ys : List (List Value)} {w : World}

/-- append: the run. -/
theorem run_append_sl (T : SlTy P t e sz bytes z) (h : OwnSl w e sz v xs) (hx : SliceIs w sz x ys) (hy : RowsOk sz ys) (hb : (xs.length + ys.length) * bytes ≤ 140737488355328) (ty : TypeId) :
    ∃ v' w', (Builtin.append_ #[t, t] ty #[v, x]).run P w = .ok v' w' ∧ OwnSl w' e sz v' (xs ++ ys) ∧ Chg (fun k => v.ownBlock = some k) w w' ∧ (v'.ownBlock = v.ownBlock ∨ v'.ownBlock = some w.heap.size) := by
  obtain ⟨i0, hi, hzz⟩ := Option.map_eq_some_iff.1 T.info
  simp only [Prod.mk.injEq] at hzz
  obtain ⟨hz0, hz1, hz2⟩ := hzz
  have hpb := T.pb
  have hlen : xs.length + ys.length ≤ 140737488355328 := Nat.le_trans (Nat.le_mul_of_pos_right _ hpb) hb
  obtain ⟨A, cap, rfl, h1, h2, h3⟩ := hx
  rcases Nat.eq_zero_or_pos ys.length with h0 | h0
  · obtain rfl : ys = [] := List.eq_nil_of_length_eq_zero h0
    refine ⟨v, w, ?_, by simpa using h, Chg.refl _ _, .inl rfl⟩
    rcases h.own.2 with ⟨rfl, hn⟩ | ⟨g, cp, cur, rfl, _, hh, hc, _⟩
    · cases A <;> simp [Builtin.append_, run_underlying T.under, sizeOf, typeInfo, hi, Builtin.lenOf, Builtin.firstCells, loadCells, loadCellsFrom]
    · cases A <;> simp [Builtin.append_, run_underlying T.under, sizeOf, typeInfo, hi, Builtin.lenOf, Builtin.firstCells, loadCells, loadCellsFrom, hc, storeCells]
  · obtain ⟨b, off, rfl, hr⟩ := h3 h0
    obtain ⟨v', w', hrun, ho, hg, _, hloc⟩ := run_append_own_at (P := P) w 0 t ty e i0 z sz bytes T.under hi hz0 hz1 hz2 T.zc T.pos v xs.length xs.flatten h.own ⟨b, off, none⟩ ys.length cap ys.flatten hy.flat
      (fun j u hu => by
        have hj := (List.getElem?_eq_some_iff.1 hu).1
        rw [hy.flat] at hj
        have hpos := T.pos
        have hq : j / sz < ys.length := by rw [Nat.div_lt_iff_lt_mul hpos]; exact hj
        have hlenq := hy.len ys[j / sz] (List.getElem_mem _)
        have hmod := Nat.mod_lt j hpos
        have e1 : j / sz * sz + j % sz = j := by rw [Nat.mul_comm]; exact Nat.div_add_mod j sz
        have hu2 := hy.flat_at (j / sz) ys[j / sz] (by simp [hq]) (j % sz) _ (List.getElem?_eq_getElem (by omega))
        rw [e1, hu] at hu2
        have := hr (j / sz) _ (List.getElem?_eq_getElem hq) (j % sz) _ (List.getElem?_eq_getElem (by omega))
        rw [Nat.add_assoc, e1] at this
        rw [Addr.add_mid, this, hu2])
      hy.flat_one (by unfold maxLen; omega) hb (Nat.zero_le _)
    exact ⟨v', w', hrun, ⟨by rw [List.length_append, List.flatten_append]; exact ho, h.ok.append hy⟩, Chg.of_grown hg (fun k e => e), hloc⟩

theorem wpList_append_sl {ops : Array Oper} {rest : List Oper} {o : Oper} {a : Act} {Q : Exit → Act → World → Prop} (hgd : o.guard = none) (s y : Operand)
    (ho : o.op = .call { callee := .builtin .append, args := #[s, y], argTypes := #[t, t] }) (T : SlTy P t e sz bytes z) (hs : a.eval s = v) (hyy : a.eval y = x)
    (h : OwnSl w e sz v xs) (hx : SliceIs w sz x ys) (hy : RowsOk sz ys) (hb : (xs.length + ys.length) * bytes ≤ 140737488355328)
    (hk : ∀ v' w', OwnSl w' e sz v' (xs ++ ys) → Chg (fun k => v.ownBlock = some k) w w' → (v'.ownBlock = v.ownBlock ∨ v'.ownBlock = some w.heap.size) → wpList P ops Q rest (a.put o.dst v') w') : wpList P ops Q (o :: rest) a w := by
  refine wpList_plain hgd fun K hK => ?_
  obtain ⟨v', w', hr, h2, h3, h4⟩ := run_append_sl T h hx hy hb o.type
  unfold Oper.wp execOp
  simp only [ho, resolve, invoke, builtin, Sem.run_bind, Sem.run_pure, Result.andThen_ok, List.map_toArray, List.map_cons, List.map_nil, hs, hyy, hr]
  exact hK _ _ (hk v' w' h2 h3 h4)
/-- At a step of a region that draws its order. -/
theorem step_append_sl {ops : Array Oper} {o : Oper} {a : Act} {w : World} {K : Act → World → Prop} {Q : Exit → Act → World → Prop} {E : Prop} (hgd : o.guard = none) (s y : Operand)
    (ho : o.op = .call { callee := .builtin .append, args := #[s, y], argTypes := #[t, t] }) (T : SlTy P t e sz bytes z) (hs : a.eval s = v) (hyy : a.eval y = x)
    (h : OwnSl w e sz v xs) (hx : SliceIs w sz x ys) (hy : RowsOk sz ys) (hb : (xs.length + ys.length) * bytes ≤ 140737488355328)
    (hk : ∀ v' w', OwnSl w' e sz v' (xs ++ ys) → Chg (fun k => v.ownBlock = some k) w w' → (v'.ownBlock = v.ownBlock ∨ v'.ownBlock = some w.heap.size) → K (a.put o.dst v') w') :
    if Region.wanted o (yielded ops a.tmps) = true then Oper.wp P o a w K Q else E := by
  have hw : Region.wanted o (yielded ops a.tmps) = true := by simp [Region.wanted, hgd]
  rw [if_pos hw]
  obtain ⟨v', w', hr, h2, h3, h4⟩ := run_append_sl T h hx hy hb o.type
  unfold Oper.wp execOp
  simp only [ho, resolve, invoke, builtin, Sem.run_bind, Sem.run_pure, Result.andThen_ok, List.map_toArray, List.map_cons, List.map_nil, hs, hyy, hr]
  exact hk v' w' h2 h3 h4
end

/-! ### 5. Slicing -/
section
variable {P : Program} {w : World}
theorem addr_add0 (a : Addr) : a.add 0 = a := by simp [Addr.add]
theorem run_slice_to {t e : TypeId} (ht : P.underlying t = some (.slice e)) (hs : ∃ i, P.info? e = some i) (A : Option Addr) (len cap m : Nat) (hm : m ≤ cap) :
    (Instr.sliceAt t (.slice A len cap) none (some (.int .i64 m)) none).run P w = .ok (.slice A m cap) w := by
  obtain ⟨i, hi⟩ := hs
  have hm' : (0 : Int) ≤ (m : Int) ∧ (m : Int) ≤ (cap : Int) := ⟨by omega, by omega⟩
  have hA : A.map (fun x => x.add 0) = A := by cases A <;> simp [addr_add0]
  simp [Instr.sliceAt, Instr.slice, run_underlying ht, Instr.sliceBounds, Instr.sliceBound, asIntOf, hm', sizeOf, typeInfo, hi, hA]
  intro h
  omega
theorem wpList_slice_to {ops : Array Oper} {rest : List Oper} {o : Oper} {a : Act} {Q : Exit → Act → World → Prop} (hgd : o.guard = none) (t e : TypeId) (x n : Operand)
    (ho : o.op = .slice t x none (some n) none) (ht : P.underlying t = some (.slice e)) (hs : ∃ i, P.info? e = some i) (A : Option Addr) (len cap m : Nat) (hx : a.eval x = .slice A len cap) (hn : a.eval n = .int .i64 m) (hm : m ≤ cap)
    (h : wpList P ops Q rest (a.put o.dst (.slice A m cap)) w) : wpList P ops Q (o :: rest) a w := by
  refine wpList_plain hgd fun K hK => ?_
  unfold Oper.wp execOp
  simp only [ho, hx, hn, Option.map_some, Option.map_none, Sem.run_bind, run_slice_to ht hs A len cap m hm, Result.andThen_ok, Sem.run_pure]
  exact hK _ _ h
end
theorem SliceIs.take {w : World} {sz m len cap : Nat} {A : Option Addr} {rows : List (List Value)} (h : SliceIs w sz (.slice A len cap) rows) (hm : m ≤ len) : SliceIs w sz (.slice A m cap) (rows.take m) := by
  obtain ⟨A', cap', he, h1, h2, h3⟩ := h
  simp only [Value.slice.injEq] at he
  obtain ⟨rfl, rfl, rfl⟩ := he
  refine ⟨A, cap, by rw [List.length_take_of_le hm], by rw [List.length_take_of_le hm]; omega, by rw [List.length_take_of_le hm]; omega, fun h0 => ?_⟩
  rw [List.length_take_of_le hm] at h0
  obtain ⟨b, off, rfl, hr⟩ := h3 (by omega)
  exact ⟨b, off, rfl, fun i r hi => hr i r (by rw [List.getElem?_take] at hi; split at hi; exact hi; cases hi)⟩

end Go.Proofs.YtchlioikkhnidaaGreat

/-
  Slices of whole numbers: what they hold. No program is named.
-/
namespace Go.Proofs.YtchlioikkhnidaaGreat
open Go.RowKit Go.Sort

/-- Whole numbers as a slice's rows. -/
def ints (l : List Int) : List (List Value) := l.map fun b => [.int .i64 b]
@[simp] theorem ints_length (l : List Int) : (ints l).length = l.length := by simp [ints]
theorem ints_flat (l : List Int) : (ints l).flatten = l.map (Value.int .i64) := by
  induction l with
  | nil => rfl
  | cons a l ih => simp only [ints, List.map_cons, List.flatten_cons] at ih ⊢; rw [ih]; rfl
theorem ints_ok (l : List Int) : RowsOk 1 (ints l) := ⟨fun r hr => by obtain ⟨d, _, rfl⟩ := List.mem_map.1 hr; rfl, fun r hr u hu => by
  obtain ⟨d, _, rfl⟩ := List.mem_map.1 hr
  simp only [List.mem_cons, List.not_mem_nil, or_false] at hu
  subst hu; rfl⟩
theorem ints_append (a b : List Int) : ints (a ++ b) = ints a ++ ints b := by simp [ints]
theorem ints_take (a : List Int) (n : Nat) : ints (a.take n) = (ints a).take n := by simp [ints]
theorem ints_drop (a : List Int) (n : Nat) : ints (a.drop n) = (ints a).drop n := by simp [ints]

theorem ints_cells {w : World} {b off : Nat} {l : List Int} (h : RowsAt w b off 1 (ints l)) (j : Nat) (hj : j < l.length) : w.cell? ⟨b, off + j, none⟩ = some (.int .i64 (l.getD j 0)) := by
  have h1 := h j [.int .i64 (l.getD j 0)] (by simp [ints, List.getD, hj]) 0 (.int .i64 (l.getD j 0)) rfl
  simpa using h1

/-- A slice of one's own that isn't nil: its block. -/
theorem ownInts_cells {w : World} {e : TypeId} {v : Value} {l : List Int} (h : OwnSl w e 1 v (ints l)) :
    (v = .slice none 0 0 ∧ l = []) ∨ ∃ g cap cur, v = .slice (some ⟨g, 0, none⟩) l.length cap ∧ ob w g = some (.cells cur e (0, 0)) ∧ l.length ≤ cap ∧ cap ≤ 9223372036854775807 ∧ cur.size = cap ∧ cur.toList.take l.length = l.map (Value.int .i64) := by
  rcases h.own.2 with ⟨rfl, h0⟩ | ⟨g, cap, cur, rfl, _, hh, hc, hm, hcs, ht⟩
  · left
    simp at h0
    exact ⟨rfl, h0⟩
  · right
    unfold maxLen at hm
    simp only [ints_length, Nat.mul_one] at ht hc hcs ⊢
    exact ⟨g, cap, cur, rfl, hh, hc, hm, hcs, by rw [ht, ints_flat]⟩
theorem ownInts_of {w : World} {e : TypeId} {l : List Int} {g cap : Nat} {cur : Array Value} (hb : ob w g = some (.cells cur e (0, 0))) (h1 : l.length ≤ cap) (h2 : cap ≤ 9223372036854775807) (h3 : cur.size = cap) (h4 : cur.toList.take l.length = l.map (Value.int .i64)) :
    OwnSl w e 1 (.slice (some ⟨g, 0, none⟩) l.length cap) (ints l) := by
  refine ⟨⟨(ints_ok l).flat, .inr ⟨g, cap, cur, by simp, Nat.zero_le _, hb, by simpa using h1, by unfold maxLen; omega, by omega, ?_⟩⟩, ints_ok l⟩
  rw [ints_flat, ints_length, Nat.mul_one, h4]

theorem own_holds {w : World} {e : TypeId} {l : List Int} {g : Nat} {cur : Array Value} (hb : ob w g = some (.cells cur e (0, 0))) (h4 : cur.toList.take l.length = l.map (Value.int .i64)) :
    Holds (Value.int .i64) w g 0 l.toArray := by
  intro j hj
  have hj' : j < l.length := by simpa using hj
  refine ⟨?_, frozen_ob hb _⟩
  rw [cell_ob hb, Nat.zero_add]
  have h5 : (cur.toList.take l.length)[j]? = cur[j]? := by rw [List.getElem?_take, if_pos hj']; simp
  rw [← h5, h4]
  simp [hj', getElem!_pos]

theorem ob_putRow {w : World} {e : TypeId} {g : Nat} {cur : Array Value} (q : Nat) (d : Array Int) (hb : ob w g = some (.cells cur e (0, 0))) :
    ob (putRow (Value.int .i64) (Sort.ahead w q) g 0 d) g = some (.cells (putCells (Value.int .i64) 0 d cur) e (0, 0)) := by
  have hb' : w.heap[g]? = some (.cells cur e (0, 0)) := hb
  unfold ob putRow mapBlock Sort.ahead
  simp only [Array.getElem?_modify, if_true, hb', Option.map_some, onCells]
theorem chg_putRow {w : World} {g : Nat} (q : Nat) (d : Array Int) : Chg (fun k => k = g) w (putRow (Value.int .i64) (Sort.ahead w q) g 0 d) := by
  refine ⟨rfl, rfl, rfl, ?_, fun k hk hn => ?_⟩
  · simp [putRow, mapBlock, Sort.ahead]
  · simp only [putRow, mapBlock, Sort.ahead, Array.getElem?_modify]
    rw [if_neg (fun e => hn e.symm)]
theorem putCells_list (d : List Int) (cur : Array Value) (h : d.length ≤ cur.size) : (putCells (Value.int .i64) 0 d.toArray cur).size = cur.size ∧ ∀ n, n ≤ d.length → (putCells (Value.int .i64) 0 d.toArray cur).toList.take n = (d.take n).map (Value.int .i64) := by
  refine ⟨by simp [putCells], fun n hn => ?_⟩
  apply List.ext_getElem?
  intro i
  simp only [List.getElem?_take, List.getElem?_map]
  by_cases hi : i < n
  · rw [if_pos hi, if_pos hi]
    simp only [putCells, Array.getElem?_toList, Array.getElem?_mapIdx]
    rw [Array.getElem?_eq_getElem (by omega), Option.map_some, if_pos (by simp; omega)]
    simp [show i < d.length by omega, getElem!_pos]
  · rw [if_neg hi, if_neg hi]; rfl
theorem chg_grow {S : Nat → Prop} {w w1 : World} (h : Chg S w w1) (os : Array Obj) : Chg S w (Sort.grow w1 os) := by
  have hs := h.size
  refine ⟨h.os, h.tape, h.output, ?_, fun k hk hn => ?_⟩
  · simp only [Sort.grow, Array.size_append]; omega
  · rw [← h.block k hk hn]
    simp only [Sort.grow]
    rw [Array.getElem?_append_left (by omega)]
theorem ob_grow {w : World} (os : Array Obj) {g : Nat} {o : Obj} (h : ob w g = some o) : ob (Sort.grow w os) g = some o := by
  have := ob_lt h
  unfold ob at h ⊢
  simp only [Sort.grow]
  rw [Array.getElem?_append_left this]; exact h

theorem OwnSl.form {w : World} {e sz : Nat} {v : Value} {rows : List (List Value)} (h : OwnSl w e sz v rows) : ∃ A cap, v = .slice A rows.length cap := by
  rcases h.own.2 with ⟨rfl, h0⟩ | ⟨g, cap, cur, rfl, _⟩
  · exact ⟨none, 0, by rw [h0]⟩
  · exact ⟨_, cap, rfl⟩

theorem OwnSl.shape {w : World} {e sz : Nat} {v : Value} {rows : List (List Value)} (h : OwnSl w e sz v rows) : ∃ A n cap, v = .slice A n cap := by
  obtain ⟨A, cap, e⟩ := h.form
  exact ⟨A, _, cap, e⟩
theorem fresh_of {v v0 : Value} {w1 : World} {n j : Nat} (hloc : v.ownBlock = v0.ownBlock ∨ v.ownBlock = some w1.heap.size) (h0 : ∀ k, v0.ownBlock = some k → n ≤ k) (h1 : n ≤ w1.heap.size) (hj : v.ownBlock = some j) : n ≤ j := by
  rcases hloc with h | h
  · rw [h] at hj; exact h0 j hj
  · rw [h] at hj; injection hj with hj; omega

/-- x[:n] and x[n:] as the walk writes them. -/
theorem ints_to {w : World} {A : Option Addr} {cap : Nat} {l : List Int} (h : SliceIs w 1 (.slice A l.length cap) (ints l)) (n : Nat) (hn : n ≤ l.length) : SliceIs w 1 (.slice A n cap) (ints (l.take n)) := by
  rw [ints_take]
  exact h.take hn
theorem ints_from {w : World} {A A' : Option Addr} {cap : Nat} {l : List Int} (h : SliceIs w 1 (.slice A l.length cap) (ints l)) (n : Nat) (hn : n ≤ l.length) (hA : n < l.length → ∀ b off, A = some ⟨b, off, none⟩ → A' = some ⟨b, off + n, none⟩) :
    SliceIs w 1 (.slice A' (l.length - n) (cap - n)) (ints (l.drop n)) := by
  obtain ⟨A0, cap0, he, h1, h2, h3⟩ := h
  simp only [Value.slice.injEq, ints_length] at he h1 h2 h3
  obtain ⟨rfl, _, rfl⟩ := he
  refine ⟨A', cap - n, by simp, by simp; omega, by simp; omega, fun hp => ?_⟩
  rw [ints_length, List.length_drop] at hp
  obtain ⟨b, off, rfl, hr⟩ := h3 (by omega)
  refine ⟨b, off + n, hA (by omega) b off rfl, fun i r hi => ?_⟩
  rw [ints_drop, List.getElem?_drop] at hi
  have := hr (n + i) r hi
  rw [show off + n + i * 1 = off + (n + i) * 1 by omega]; exact this
end Go.Proofs.YtchlioikkhnidaaGreat

/-
  'for k, v := range m' over a map with whole numbers as keys that stands still meanwhile. No program is named.
-/
namespace Go.Proofs.YtchlioikkhnidaaGreat
open Go.RowKit Go.MapKept
open Go.ChangeMaps (setBlock)

/-- An iterator in block r over the map in block mb: the entries of these keys were handed out. -/
def IterAt (w : World) (r mb : Nat) (o : Obj) (D : List Int) : Prop :=
  ∃ es clock since seen c0, o = .map es clock ∧ ob w r = some (.mapIter (some mb) since seen c0) ∧ ob w mb = some o ∧ Stamped es clock ∧ (∀ x ∈ es.toList, x.born < since) ∧ since ≤ c0 ∧ since ≤ clock ∧
    (∀ x ∈ es.toList, seen.contains x.born = true ↔ ∃ k ∈ D, x.key = .int .i64 k)

variable {P : Program} {mty kt et : TypeId} {z : Value} {o : Obj} {f : Int → Option Value}

theorem MapObj.range (t : MapTy P mty kt et z) (h : MapObj o f) (b : Nat) (w : World) (hb : ob w b = some o) :
    ∃ io, (Instr.range mty (.map (some b))).run P w = .ok (.pointer (some ⟨w.heap.size, 0, none⟩)) (w.alloc io) ∧ IterAt (w.alloc io) w.heap.size b o [] := by
  obtain ⟨es, clock, rfl, hs, hk, hf⟩ := h
  refine ⟨_, run_range_map w mty kt et b es clock t.map hb, es, clock, clock, #[], clock, rfl, ob_alloc_at _ _, ?_, hs, hs.1, Nat.le_refl _, Nat.le_refl _, fun x _ => by simp⟩
  rw [ob_alloc_past _ _ _ (ob_lt hb)]; exact hb

theorem IterAt.chg {S : Nat → Prop} {w w' : World} {r mb : Nat} {D : List Int} (h : IterAt w r mb o D) (hc : Chg S w w') (h1 : ¬ S r) (h2 : ¬ S mb) : IterAt w' r mb o D := by
  obtain ⟨es, clock, since, seen, c0, e, hr, hb, rest⟩ := h
  exact ⟨es, clock, since, seen, c0, e, hc.ob hr h1, hc.ob hb h2, rest⟩

/-- How many entries are left. -/
def leftN (w : World) (r mb : Nat) : Nat := match ob w r, ob w mb with
  | some (.mapIter _ _ seen _), some (.map es _) => (leftOf es seen).size
  | _, _ => 0
theorem leftN_eq {w w' : World} {r mb : Nat} (h1 : ob w' r = ob w r) (h2 : ob w' mb = ob w mb) : leftN w' r mb = leftN w r mb := by unfold leftN; rw [h1, h2]

theorem IterAt.next {r mb : Nat} {D : List Int} {w : World} (h : MapObj o f) (hi : IterAt w r mb o D) (hne : r ≠ mb) :
    ((∀ k v, f k = some v → k ∈ D) ∧ ∀ ty, (Instr.next (.pointer (some ⟨r, 0, none⟩)) false ty).run P w = .ok (.tuple #[.bool false]) w) ∨
    ∃ k v w2, f k = some v ∧ k ∉ D ∧ (∀ ty, (Instr.next (.pointer (some ⟨r, 0, none⟩)) false ty).run P w = .ok (.tuple #[.bool true, .int .i64 k, v]) w2) ∧ Chg (fun j => j = r) w w2 ∧ w2.heap.size = w.heap.size ∧ IterAt w2 r mb o (D ++ [k]) ∧
      ∃ io, ob w2 r = some io ∧ ∀ W, ob W r = some io → ob W mb = some o → (Instr.entry (.pointer (some ⟨r, 0, none⟩))).run P W = .ok (.tuple #[.int .i64 k, v]) W ∧ leftN W r mb < leftN w r mb := by
  obtain ⟨es, clock, since, seen, c0, rfl, hr, hb, hs, hold, hsc, hcl, hD⟩ := hi
  obtain ⟨es', clock', e', _, hk, hf⟩ := h
  injection e' with e1 e2
  subst e1 e2
  rcases run_next_at (P := P) w 0 r mb since c0 seen es clock hr hb hold hsc with ⟨h0, hrun⟩ | ⟨e, he, w1, hw1, hrun⟩
  · refine .inl ⟨fun k v hkv => ?_, fun ty => hrun⟩
    obtain ⟨x, hx, ek, _⟩ := (hf k v).1 hkv
    obtain ⟨k', hk', e3⟩ := (hD x hx).1 (all_seen es seen h0 x hx)
    rw [ek] at e3
    injection e3 with _ e3
    rw [e3]; exact hk'
  · right
    obtain ⟨he1, he2⟩ := mem_left he
    obtain ⟨k, ek⟩ := hk e he1
    have hkD : k ∉ D := fun hkD => by
      rw [(hD e he1).2 ⟨k, hkD, ek⟩] at he2; cases he2
    have hc1 : Chg (fun j => j = r) w w1 := by
      rcases hw1 with rfl | rfl
      · exact Chg.refl _ _
      · exact (Chg.refl _ _).drew
    have hsz : w1.heap.size = w.heap.size := by rcases hw1 with rfl | rfl <;> rfl
    have hlt : r < w1.heap.size := by rw [hsz]; exact ob_lt hr
    have hb1 : ob w1 mb = some (.map es clock) := by rcases hw1 with rfl | rfl <;> exact hb
    have hr2 : ob (setBlock w1 r (.mapIter (some mb) since (seen.push e.born) clock)) r = some (.mapIter (some mb) since (seen.push e.born) clock) := ob_setBlock_lt _ _ _ hlt
    refine ⟨k, e.val, _, (hf k e.val).2 ⟨e, he1, ek, rfl⟩, hkD, fun ty => (show _ = _ from hrun).trans (by rw [ek]), hc1.setBlock _ _ (fun _ => rfl), by rw [size_setBlock, hsz], ?_, _, hr2, ?_⟩
    · refine ⟨es, clock, since, seen.push e.born, clock, rfl, hr2, ?_, hs, hold, hcl, hcl, ?_⟩
      · rw [ob_setBlock_ne _ _ _ _ (Ne.symm hne)]; exact hb1
      · intro x hx
        rw [contains_push, Bool.or_eq_true, hD x hx]
        constructor
        · rintro (⟨k', hk', e3⟩ | hx')
          · exact ⟨k', by simp [hk'], e3⟩
          · have : x = e := born_inj hs.2.1 hx he1 (by simpa using hx')
            subst this
            exact ⟨k, by simp, ek⟩
        · rintro ⟨k', hk', e3⟩
          rcases List.mem_append.1 hk' with hk' | hk'
          · exact .inl ⟨k', hk', e3⟩
          · simp only [List.mem_singleton] at hk'
            subst hk'
            have : x = e := by
              have hn := hs.2.2
              obtain ⟨i, hi⟩ := List.getElem?_of_mem hx
              obtain ⟨j, hj⟩ := List.getElem?_of_mem he1
              have := getElem_inj hs (i := i) (j := j) (x := x) (y := e) (by simpa using hi) (by simpa using hj) (by rw [e3, ek])
              subst this
              rw [hi] at hj
              exact Option.some.inj hj
            subst this
            exact .inr (by simp)
    · intro W hW hWb
      have := run_entry_at (P := P) W r mb since seen es clock e hW hWb he1 hs.2.1
      refine ⟨by rw [this, ek], ?_⟩
      unfold leftN
      rw [hW, hWb, hr, hb]
      exact left_shrinks es seen e he
end Go.Proofs.YtchlioikkhnidaaGreat

/-
  The plain data of the program: what the package api calls Config, Bundle, Letter and so on, as Lean records, and their cells. No program is named.
-/
namespace Go.Proofs.YtchlioikkhnidaaGreat
open Go.RowKit

/-- A number that an int holds. -/
def i64ok (n : Int) : Prop := -9223372036854775808 ≤ n ∧ n ≤ 9223372036854775807

structure Op where
  block : Int
  write : Bool
  value : Int
  deriving DecidableEq, Inhabited
def Op.cells (d : Op) : List Value := [.int .i64 d.block, .bool d.write, .int .i64 d.value]
def Op.val (d : Op) : Value := .agg d.cells.toArray
def Op.ok (d : Op) : Prop := i64ok d.block ∧ i64ok d.value
theorem Op.range {w : World} {b o : Nat} {d : Op} (h : w.rangeAt b o d.cells) : w.cell? ⟨b, o, none⟩ = some (.int .i64 d.block) ∧
    w.cell? ⟨b, o + 1, none⟩ = some (.bool d.write) ∧
    w.cell? ⟨b, o + 2, none⟩ = some (.int .i64 d.value) :=
  ⟨h 0 _ rfl, h 1 _ rfl, h 2 _ rfl⟩

structure Done where
  node : Int
  number : Int
  op : Op
  value : Int
  step : Int
  deriving DecidableEq, Inhabited
def Done.cells (d : Done) : List Value := [.int .i64 d.node, .int .i64 d.number, .int .i64 d.op.block, .bool d.op.write, .int .i64 d.op.value, .int .i64 d.value, .int .i64 d.step]
def Done.val (d : Done) : Value := .agg d.cells.toArray
def Done.ok (d : Done) : Prop := i64ok d.node ∧ i64ok d.number ∧ d.op.ok ∧ i64ok d.value ∧ i64ok d.step
theorem Done.range {w : World} {b o : Nat} {d : Done} (h : w.rangeAt b o d.cells) : w.cell? ⟨b, o, none⟩ = some (.int .i64 d.node) ∧
    w.cell? ⟨b, o + 1, none⟩ = some (.int .i64 d.number) ∧
    w.cell? ⟨b, o + 2, none⟩ = some (.int .i64 d.op.block) ∧
    w.cell? ⟨b, o + 3, none⟩ = some (.bool d.op.write) ∧
    w.cell? ⟨b, o + 4, none⟩ = some (.int .i64 d.op.value) ∧
    w.cell? ⟨b, o + 5, none⟩ = some (.int .i64 d.value) ∧
    w.cell? ⟨b, o + 6, none⟩ = some (.int .i64 d.step) :=
  ⟨h 0 _ rfl, h 1 _ rfl, h 2 _ rfl, h 3 _ rfl, h 4 _ rfl, h 5 _ rfl, h 6 _ rfl⟩

structure Bundle where
  count : Int
  owner : Bool
  has : Bool
  data : Int
  deriving DecidableEq, Inhabited
def Bundle.cells (d : Bundle) : List Value := [.int .i64 d.count, .bool d.owner, .bool d.has, .int .i64 d.data]
def Bundle.val (d : Bundle) : Value := .agg d.cells.toArray
def Bundle.ok (d : Bundle) : Prop := i64ok d.count ∧ i64ok d.data
theorem Bundle.range {w : World} {b o : Nat} {d : Bundle} (h : w.rangeAt b o d.cells) : w.cell? ⟨b, o, none⟩ = some (.int .i64 d.count) ∧
    w.cell? ⟨b, o + 1, none⟩ = some (.bool d.owner) ∧
    w.cell? ⟨b, o + 2, none⟩ = some (.bool d.has) ∧
    w.cell? ⟨b, o + 3, none⟩ = some (.int .i64 d.data) :=
  ⟨h 0 _ rfl, h 1 _ rfl, h 2 _ rfl, h 3 _ rfl⟩

structure Letter where
  kind : Int
  src : Int
  dst : Int
  block : Int
  seq : Int
  who : Int
  write : Bool
  tokens : Bundle
  deriving DecidableEq, Inhabited
def Letter.cells (d : Letter) : List Value := [.int .i64 d.kind, .int .i64 d.src, .int .i64 d.dst, .int .i64 d.block, .int .i64 d.seq, .int .i64 d.who, .bool d.write, .int .i64 d.tokens.count, .bool d.tokens.owner, .bool d.tokens.has, .int .i64 d.tokens.data]
def Letter.val (d : Letter) : Value := .agg d.cells.toArray
def Letter.ok (d : Letter) : Prop := i64ok d.kind ∧ i64ok d.src ∧ i64ok d.dst ∧ i64ok d.block ∧ i64ok d.seq ∧ i64ok d.who ∧ d.tokens.ok
theorem Letter.range {w : World} {b o : Nat} {d : Letter} (h : w.rangeAt b o d.cells) : w.cell? ⟨b, o, none⟩ = some (.int .i64 d.kind) ∧
    w.cell? ⟨b, o + 1, none⟩ = some (.int .i64 d.src) ∧
    w.cell? ⟨b, o + 2, none⟩ = some (.int .i64 d.dst) ∧
    w.cell? ⟨b, o + 3, none⟩ = some (.int .i64 d.block) ∧
    w.cell? ⟨b, o + 4, none⟩ = some (.int .i64 d.seq) ∧
    w.cell? ⟨b, o + 5, none⟩ = some (.int .i64 d.who) ∧
    w.cell? ⟨b, o + 6, none⟩ = some (.bool d.write) ∧
    w.cell? ⟨b, o + 7, none⟩ = some (.int .i64 d.tokens.count) ∧
    w.cell? ⟨b, o + 8, none⟩ = some (.bool d.tokens.owner) ∧
    w.cell? ⟨b, o + 9, none⟩ = some (.bool d.tokens.has) ∧
    w.cell? ⟨b, o + 10, none⟩ = some (.int .i64 d.tokens.data) :=
  ⟨h 0 _ rfl, h 1 _ rfl, h 2 _ rfl, h 3 _ rfl, h 4 _ rfl, h 5 _ rfl, h 6 _ rfl, h 7 _ rfl, h 8 _ rfl, h 9 _ rfl, h 10 _ rfl⟩

structure Entry where
  kind : Int
  a : Int
  b : Int
  c : Int
  d : Int
  deriving DecidableEq, Inhabited
def Entry.cells (d : Entry) : List Value := [.int .i64 d.kind, .int .i64 d.a, .int .i64 d.b, .int .i64 d.c, .int .i64 d.d]
def Entry.val (d : Entry) : Value := .agg d.cells.toArray
def Entry.ok (d : Entry) : Prop := i64ok d.kind ∧ i64ok d.a ∧ i64ok d.b ∧ i64ok d.c ∧ i64ok d.d
theorem Entry.range {w : World} {b o : Nat} {d : Entry} (h : w.rangeAt b o d.cells) : w.cell? ⟨b, o, none⟩ = some (.int .i64 d.kind) ∧
    w.cell? ⟨b, o + 1, none⟩ = some (.int .i64 d.a) ∧
    w.cell? ⟨b, o + 2, none⟩ = some (.int .i64 d.b) ∧
    w.cell? ⟨b, o + 3, none⟩ = some (.int .i64 d.c) ∧
    w.cell? ⟨b, o + 4, none⟩ = some (.int .i64 d.d) :=
  ⟨h 0 _ rfl, h 1 _ rfl, h 2 _ rfl, h 3 _ rfl, h 4 _ rfl⟩

structure Line where
  block : Int
  tokens : Bundle
  deriving DecidableEq, Inhabited
def Line.cells (d : Line) : List Value := [.int .i64 d.block, .int .i64 d.tokens.count, .bool d.tokens.owner, .bool d.tokens.has, .int .i64 d.tokens.data]
def Line.val (d : Line) : Value := .agg d.cells.toArray
def Line.ok (d : Line) : Prop := i64ok d.block ∧ d.tokens.ok
theorem Line.range {w : World} {b o : Nat} {d : Line} (h : w.rangeAt b o d.cells) : w.cell? ⟨b, o, none⟩ = some (.int .i64 d.block) ∧
    w.cell? ⟨b, o + 1, none⟩ = some (.int .i64 d.tokens.count) ∧
    w.cell? ⟨b, o + 2, none⟩ = some (.bool d.tokens.owner) ∧
    w.cell? ⟨b, o + 3, none⟩ = some (.bool d.tokens.has) ∧
    w.cell? ⟨b, o + 4, none⟩ = some (.int .i64 d.tokens.data) :=
  ⟨h 0 _ rfl, h 1 _ rfl, h 2 _ rfl, h 3 _ rfl, h 4 _ rfl⟩

structure Active where
  block : Int
  node : Int
  seq : Int
  deriving DecidableEq, Inhabited
def Active.cells (d : Active) : List Value := [.int .i64 d.block, .int .i64 d.node, .int .i64 d.seq]
def Active.val (d : Active) : Value := .agg d.cells.toArray
def Active.ok (d : Active) : Prop := i64ok d.block ∧ i64ok d.node ∧ i64ok d.seq
theorem Active.range {w : World} {b o : Nat} {d : Active} (h : w.rangeAt b o d.cells) : w.cell? ⟨b, o, none⟩ = some (.int .i64 d.block) ∧
    w.cell? ⟨b, o + 1, none⟩ = some (.int .i64 d.node) ∧
    w.cell? ⟨b, o + 2, none⟩ = some (.int .i64 d.seq) :=
  ⟨h 0 _ rfl, h 1 _ rfl, h 2 _ rfl⟩

structure Config where
  nodes : Int
  blocks : Int
  tokens : Int
  sets : Int
  ways : Int
  cap : Int
  wait : Int
  tries : Int
  policy : Int
  deriving DecidableEq, Inhabited
def Config.cells (d : Config) : List Value := [.int .i64 d.nodes, .int .i64 d.blocks, .int .i64 d.tokens, .int .i64 d.sets, .int .i64 d.ways, .int .i64 d.cap, .int .i64 d.wait, .int .i64 d.tries, .int .i64 d.policy]
def Config.val (d : Config) : Value := .agg d.cells.toArray
def Config.ok (d : Config) : Prop := i64ok d.nodes ∧ i64ok d.blocks ∧ i64ok d.tokens ∧ i64ok d.sets ∧ i64ok d.ways ∧ i64ok d.cap ∧ i64ok d.wait ∧ i64ok d.tries ∧ i64ok d.policy
theorem Config.range {w : World} {b o : Nat} {d : Config} (h : w.rangeAt b o d.cells) : w.cell? ⟨b, o, none⟩ = some (.int .i64 d.nodes) ∧
    w.cell? ⟨b, o + 1, none⟩ = some (.int .i64 d.blocks) ∧
    w.cell? ⟨b, o + 2, none⟩ = some (.int .i64 d.tokens) ∧
    w.cell? ⟨b, o + 3, none⟩ = some (.int .i64 d.sets) ∧
    w.cell? ⟨b, o + 4, none⟩ = some (.int .i64 d.ways) ∧
    w.cell? ⟨b, o + 5, none⟩ = some (.int .i64 d.cap) ∧
    w.cell? ⟨b, o + 6, none⟩ = some (.int .i64 d.wait) ∧
    w.cell? ⟨b, o + 7, none⟩ = some (.int .i64 d.tries) ∧
    w.cell? ⟨b, o + 8, none⟩ = some (.int .i64 d.policy) :=
  ⟨h 0 _ rfl, h 1 _ rfl, h 2 _ rfl, h 3 _ rfl, h 4 _ rfl, h 5 _ rfl, h 6 _ rfl, h 7 _ rfl, h 8 _ rfl⟩

structure Draws where
  d0 : Int
  d1 : Int
  d2 : Int
  deriving DecidableEq, Inhabited
def Draws.cells (d : Draws) : List Value := [.int .i64 d.d0, .int .i64 d.d1, .int .i64 d.d2]
def Draws.val (d : Draws) : Value := .agg d.cells.toArray
def Draws.ok (d : Draws) : Prop := i64ok d.d0 ∧ i64ok d.d1 ∧ i64ok d.d2
theorem Draws.range {w : World} {b o : Nat} {d : Draws} (h : w.rangeAt b o d.cells) : w.cell? ⟨b, o, none⟩ = some (.int .i64 d.d0) ∧
    w.cell? ⟨b, o + 1, none⟩ = some (.int .i64 d.d1) ∧
    w.cell? ⟨b, o + 2, none⟩ = some (.int .i64 d.d2) :=
  ⟨h 0 _ rfl, h 1 _ rfl, h 2 _ rfl⟩

structure Pair where
  p0 : Int
  p1 : Int
  deriving DecidableEq, Inhabited
def Pair.cells (d : Pair) : List Value := [.int .i64 d.p0, .int .i64 d.p1]
def Pair.val (d : Pair) : Value := .agg d.cells.toArray
def Pair.ok (d : Pair) : Prop := i64ok d.p0 ∧ i64ok d.p1
theorem Pair.range {w : World} {b o : Nat} {d : Pair} (h : w.rangeAt b o d.cells) : w.cell? ⟨b, o, none⟩ = some (.int .i64 d.p0) ∧
    w.cell? ⟨b, o + 1, none⟩ = some (.int .i64 d.p1) :=
  ⟨h 0 _ rfl, h 1 _ rfl⟩

structure Flags where
  b0 : Bool
  b1 : Bool
  deriving DecidableEq, Inhabited
def Flags.cells (d : Flags) : List Value := [.bool d.b0, .bool d.b1]
def Flags.val (d : Flags) : Value := .agg d.cells.toArray
def Flags.ok (_ : Flags) : Prop := True
theorem Flags.range {w : World} {b o : Nat} {d : Flags} (h : w.rangeAt b o d.cells) : w.cell? ⟨b, o, none⟩ = some (.bool d.b0) ∧
    w.cell? ⟨b, o + 1, none⟩ = some (.bool d.b1) :=
  ⟨h 0 _ rfl, h 1 _ rfl⟩

structure Act08 where
  kind : Int
  block : Int
  deriving DecidableEq, Inhabited
def Act08.cells (d : Act08) : List Value := [.int .i64 d.kind, .int .i64 d.block]
def Act08.val (d : Act08) : Value := .agg d.cells.toArray
def Act08.ok (d : Act08) : Prop := i64ok d.kind ∧ i64ok d.block
theorem Act08.range {w : World} {b o : Nat} {d : Act08} (h : w.rangeAt b o d.cells) : w.cell? ⟨b, o, none⟩ = some (.int .i64 d.kind) ∧
    w.cell? ⟨b, o + 1, none⟩ = some (.int .i64 d.block) :=
  ⟨h 0 _ rfl, h 1 _ rfl⟩

structure Act09 where
  kind : Int
  block : Int
  count : Int
  pinned : Int
  owner : Bool
  data : Bool
  tokens : Bundle
  op : Op
  deriving DecidableEq, Inhabited
def Act09.cells (d : Act09) : List Value := [.int .i64 d.kind, .int .i64 d.block, .int .i64 d.count, .int .i64 d.pinned, .bool d.owner, .bool d.data, .int .i64 d.tokens.count, .bool d.tokens.owner, .bool d.tokens.has, .int .i64 d.tokens.data, .int .i64 d.op.block, .bool d.op.write, .int .i64 d.op.value]
def Act09.val (d : Act09) : Value := .agg d.cells.toArray
def Act09.ok (d : Act09) : Prop := i64ok d.kind ∧ i64ok d.block ∧ i64ok d.count ∧ i64ok d.pinned ∧ d.tokens.ok ∧ d.op.ok
theorem Act09.range {w : World} {b o : Nat} {d : Act09} (h : w.rangeAt b o d.cells) : w.cell? ⟨b, o, none⟩ = some (.int .i64 d.kind) ∧
    w.cell? ⟨b, o + 1, none⟩ = some (.int .i64 d.block) ∧
    w.cell? ⟨b, o + 2, none⟩ = some (.int .i64 d.count) ∧
    w.cell? ⟨b, o + 3, none⟩ = some (.int .i64 d.pinned) ∧
    w.cell? ⟨b, o + 4, none⟩ = some (.bool d.owner) ∧
    w.cell? ⟨b, o + 5, none⟩ = some (.bool d.data) ∧
    w.cell? ⟨b, o + 6, none⟩ = some (.int .i64 d.tokens.count) ∧
    w.cell? ⟨b, o + 7, none⟩ = some (.bool d.tokens.owner) ∧
    w.cell? ⟨b, o + 8, none⟩ = some (.bool d.tokens.has) ∧
    w.cell? ⟨b, o + 9, none⟩ = some (.int .i64 d.tokens.data) ∧
    w.cell? ⟨b, o + 10, none⟩ = some (.int .i64 d.op.block) ∧
    w.cell? ⟨b, o + 11, none⟩ = some (.bool d.op.write) ∧
    w.cell? ⟨b, o + 12, none⟩ = some (.int .i64 d.op.value) :=
  ⟨h 0 _ rfl, h 1 _ rfl, h 2 _ rfl, h 3 _ rfl, h 4 _ rfl, h 5 _ rfl, h 6 _ rfl, h 7 _ rfl, h 8 _ rfl, h 9 _ rfl, h 10 _ rfl, h 11 _ rfl, h 12 _ rfl⟩

structure Act15 where
  kind : Int
  op : Op
  letter : Letter
  draws : Draws
  deriving DecidableEq, Inhabited
def Act15.cells (d : Act15) : List Value := [.int .i64 d.kind, .int .i64 d.op.block, .bool d.op.write, .int .i64 d.op.value, .int .i64 d.letter.kind, .int .i64 d.letter.src, .int .i64 d.letter.dst, .int .i64 d.letter.block, .int .i64 d.letter.seq, .int .i64 d.letter.who, .bool d.letter.write, .int .i64 d.letter.tokens.count, .bool d.letter.tokens.owner, .bool d.letter.tokens.has, .int .i64 d.letter.tokens.data, .int .i64 d.draws.d0, .int .i64 d.draws.d1, .int .i64 d.draws.d2]
def Act15.val (d : Act15) : Value := .agg d.cells.toArray
def Act15.ok (d : Act15) : Prop := i64ok d.kind ∧ d.op.ok ∧ d.letter.ok ∧ d.draws.ok
theorem Act15.range {w : World} {b o : Nat} {d : Act15} (h : w.rangeAt b o d.cells) : w.cell? ⟨b, o, none⟩ = some (.int .i64 d.kind) ∧
    w.cell? ⟨b, o + 1, none⟩ = some (.int .i64 d.op.block) ∧
    w.cell? ⟨b, o + 2, none⟩ = some (.bool d.op.write) ∧
    w.cell? ⟨b, o + 3, none⟩ = some (.int .i64 d.op.value) ∧
    w.cell? ⟨b, o + 4, none⟩ = some (.int .i64 d.letter.kind) ∧
    w.cell? ⟨b, o + 5, none⟩ = some (.int .i64 d.letter.src) ∧
    w.cell? ⟨b, o + 6, none⟩ = some (.int .i64 d.letter.dst) ∧
    w.cell? ⟨b, o + 7, none⟩ = some (.int .i64 d.letter.block) ∧
    w.cell? ⟨b, o + 8, none⟩ = some (.int .i64 d.letter.seq) ∧
    w.cell? ⟨b, o + 9, none⟩ = some (.int .i64 d.letter.who) ∧
    w.cell? ⟨b, o + 10, none⟩ = some (.bool d.letter.write) ∧
    w.cell? ⟨b, o + 11, none⟩ = some (.int .i64 d.letter.tokens.count) ∧
    w.cell? ⟨b, o + 12, none⟩ = some (.bool d.letter.tokens.owner) ∧
    w.cell? ⟨b, o + 13, none⟩ = some (.bool d.letter.tokens.has) ∧
    w.cell? ⟨b, o + 14, none⟩ = some (.int .i64 d.letter.tokens.data) ∧
    w.cell? ⟨b, o + 15, none⟩ = some (.int .i64 d.draws.d0) ∧
    w.cell? ⟨b, o + 16, none⟩ = some (.int .i64 d.draws.d1) ∧
    w.cell? ⟨b, o + 17, none⟩ = some (.int .i64 d.draws.d2) :=
  ⟨h 0 _ rfl, h 1 _ rfl, h 2 _ rfl, h 3 _ rfl, h 4 _ rfl, h 5 _ rfl, h 6 _ rfl, h 7 _ rfl, h 8 _ rfl, h 9 _ rfl, h 10 _ rfl, h 11 _ rfl, h 12 _ rfl, h 13 _ rfl, h 14 _ rfl, h 15 _ rfl, h 16 _ rfl, h 17 _ rfl⟩

end Go.Proofs.YtchlioikkhnidaaGreat

/-
  Maps from whole numbers to whole numbers.
-/
namespace Go.Proofs.YtchlioikkhnidaaGreat
open Go.RowKit

theorem tyII : MapTy Tryz.prog 62 3 3 (.int .i64 0) := ⟨Tryz.underlying62, Tryz.underlying3, fun _ => by kernel_rfl⟩

def IntMap (f : Int → Int) (g : Int → Option Value) : Prop := ∀ k, (g k).getD (.int .i64 0) = .int .i64 (f k)
theorem IntMap.upd {f : Int → Int} {g : Int → Option Value} (h : IntMap f g) (k v : Int) : IntMap (fun j => if j = k then v else f j) (upd g k (.int .i64 v)) := by
  intro j
  unfold YtchlioikkhnidaaGreat.upd
  split
  · rename_i e; simp [e]
  · rename_i e; simp [e, h j]
theorem IntMap.empty : IntMap (fun _ => 0) (fun _ => none) := fun _ => rfl
end Go.Proofs.YtchlioikkhnidaaGreat

/-
  Results that lie in memory: a struct that is returned out of a local of its own.
-/
namespace Go.Proofs.YtchlioikkhnidaaGreat
open Go.RowKit

/-- What a result's place gives. -/
def ResIs (P : Program) (w : World) (tmps : Array Value) : ResultVar → Value → Prop
  | .tmp t, v => tmps.getD t undef = v
  | .cell p ty, v => (asAddr (tmps.getD p undef)).run P w = .ok (match tmps.getD p undef with | .pointer (some a) => a | _ => ⟨0, 0, none⟩) w ∧
      (loadVar ty (match tmps.getD p undef with | .pointer (some a) => a | _ => ⟨0, 0, none⟩)).run P w = .ok v w

theorem ResIs.tmp {P : Program} {w : World} {tmps : Array Value} {t : Tmp} : ResIs P w tmps (.tmp t) (tmps.getD t undef) := rfl
theorem ResIs.row {P : Program} {w : World} {tmps : Array Value} {p : Tmp} {ty t : TypeId} {g : Nat} {cs : Array Value} {fr : Nat × Nat} {d : TypeDesc}
    (hu : P.underlying ty = some d) (hd : (match d with | .struct _ | .array _ _ => true | _ => false) = true) (hi : (P.info? ty).map (·.size) = some cs.size)
    (hp : tmps.getD p undef = .pointer (some ⟨g, 0, none⟩)) (hg : ob w g = some (.cells cs t fr)) : ResIs P w tmps (.cell p ty) (.agg cs) := by
  refine ⟨?_, ?_⟩
  · rw [hp]; simp [asAddr]
  · rw [hp]; exact run_loadVar_row w g t ty cs fr d hg hu hd hi

theorem results_one {P : Program} {fn : Func} {r : ResultVar} {tmps : Array Value} {w : World} {v : Value} (h : fn.results = #[r]) (h1 : ResIs P w tmps r v) : (results fn tmps).run P w = .ok v w := by
  cases r with
  | tmp t => simp only [ResIs] at h1; simp [results, h]; simpa using h1
  | cell p ty =>
    obtain ⟨a, b⟩ := h1
    simp only [results, h]
    simp at a b
    simp [a, b]
theorem results_two {P : Program} {fn : Func} {r1 r2 : ResultVar} {tmps : Array Value} {w : World} {v1 v2 : Value} (h : fn.results = #[r1, r2]) (h1 : ResIs P w tmps r1 v1) (h2 : ResIs P w tmps r2 v2) :
    (results fn tmps).run P w = .ok (.tuple #[v1, v2]) w := by
  cases r1 <;> cases r2
  all_goals
    (try obtain ⟨a1, b1⟩ := h1)
    (try obtain ⟨a2, b2⟩ := h2)
    (try simp at a1 b1)
    (try simp at a2 b2)
    simp only [results, h]
    simp [*]
    try simp_all [ResIs]
theorem results_three {P : Program} {fn : Func} {r1 r2 r3 : ResultVar} {tmps : Array Value} {w : World} {v1 v2 v3 : Value} (h : fn.results = #[r1, r2, r3]) (h1 : ResIs P w tmps r1 v1) (h2 : ResIs P w tmps r2 v2) (h3 : ResIs P w tmps r3 v3) :
    (results fn tmps).run P w = .ok (.tuple #[v1, v2, v3]) w := by
  cases r1 <;> cases r2 <;> cases r3
  all_goals
    (try obtain ⟨a1, b1⟩ := h1)
    (try obtain ⟨a2, b2⟩ := h2)
    (try obtain ⟨a3, b3⟩ := h3)
    (try simp at a1 b1)
    (try simp at a2 b2)
    (try simp at a3 b3)
    simp only [results, h]
    simp [*]
    try simp_all [ResIs]
theorem bodyRet1 {P : Program} {fn : Func} {R : Ending → World → Prop} {a : Act} {w : World} {r : ResultVar} (v : Value) (h : fn.results = #[r]) (hd : a.defers = []) (h1 : ResIs P w a.tmps r v) (hR : R (.returned v) w) : bodyPost P fn R .ret a w :=
  ⟨hd, v, results_one h h1, hR⟩
theorem bodyRet2 {P : Program} {fn : Func} {R : Ending → World → Prop} {a : Act} {w : World} {r1 r2 : ResultVar} (v1 v2 : Value) (h : fn.results = #[r1, r2]) (hd : a.defers = []) (h1 : ResIs P w a.tmps r1 v1) (h2 : ResIs P w a.tmps r2 v2) (hR : R (.returned (.tuple #[v1, v2])) w) : bodyPost P fn R .ret a w :=
  ⟨hd, _, results_two h h1 h2, hR⟩
theorem bodyRet3 {P : Program} {fn : Func} {R : Ending → World → Prop} {a : Act} {w : World} {r1 r2 r3 : ResultVar} (v1 v2 v3 : Value) (h : fn.results = #[r1, r2, r3]) (hd : a.defers = []) (h1 : ResIs P w a.tmps r1 v1) (h2 : ResIs P w a.tmps r2 v2) (h3 : ResIs P w a.tmps r3 v3) (hR : R (.returned (.tuple #[v1, v2, v3])) w) : bodyPost P fn R .ret a w :=
  ⟨hd, _, results_three h h1 h2 h3, hR⟩
theorem ob_cells3 {w : World} {b : Nat} {t : TypeId} {a0 a1 a2 : Value} (h : ob w b = some (.cells #[a0, a1, a2] t (0, 0))) : w.cell? ⟨b, 0, none⟩ = some a0 ∧ w.cell? ⟨b, 1, none⟩ = some a1 ∧ w.cell? ⟨b, 2, none⟩ = some a2 ∧ ∀ i, w.frozen? ⟨b, i, none⟩ = false :=
  ⟨cell_ob h 0, cell_ob h 1, cell_ob h 2, fun i => frozen_ob h i⟩
theorem ob_cells4 {w : World} {b : Nat} {t : TypeId} {a0 a1 a2 a3 : Value} (h : ob w b = some (.cells #[a0, a1, a2, a3] t (0, 0))) : w.cell? ⟨b, 0, none⟩ = some a0 ∧ w.cell? ⟨b, 1, none⟩ = some a1 ∧ w.cell? ⟨b, 2, none⟩ = some a2 ∧ w.cell? ⟨b, 3, none⟩ = some a3 ∧ ∀ i, w.frozen? ⟨b, i, none⟩ = false :=
  ⟨cell_ob h 0, cell_ob h 1, cell_ob h 2, cell_ob h 3, fun i => frozen_ob h i⟩
theorem ob_cells5 {w : World} {b : Nat} {t : TypeId} {a0 a1 a2 a3 a4 : Value} (h : ob w b = some (.cells #[a0, a1, a2, a3, a4] t (0, 0))) : w.cell? ⟨b, 0, none⟩ = some a0 ∧ w.cell? ⟨b, 1, none⟩ = some a1 ∧ w.cell? ⟨b, 2, none⟩ = some a2 ∧ w.cell? ⟨b, 3, none⟩ = some a3 ∧ w.cell? ⟨b, 4, none⟩ = some a4 ∧ ∀ i, w.frozen? ⟨b, i, none⟩ = false :=
  ⟨cell_ob h 0, cell_ob h 1, cell_ob h 2, cell_ob h 3, cell_ob h 4, fun i => frozen_ob h i⟩
theorem ob_cells7 {w : World} {b : Nat} {t : TypeId} {a0 a1 a2 a3 a4 a5 a6 : Value} (h : ob w b = some (.cells #[a0, a1, a2, a3, a4, a5, a6] t (0, 0))) : w.cell? ⟨b, 0, none⟩ = some a0 ∧ w.cell? ⟨b, 1, none⟩ = some a1 ∧ w.cell? ⟨b, 2, none⟩ = some a2 ∧ w.cell? ⟨b, 3, none⟩ = some a3 ∧ w.cell? ⟨b, 4, none⟩ = some a4 ∧ w.cell? ⟨b, 5, none⟩ = some a5 ∧ w.cell? ⟨b, 6, none⟩ = some a6 ∧ ∀ i, w.frozen? ⟨b, i, none⟩ = false :=
  ⟨cell_ob h 0, cell_ob h 1, cell_ob h 2, cell_ob h 3, cell_ob h 4, cell_ob h 5, cell_ob h 6, fun i => frozen_ob h i⟩
theorem ob_cells11 {w : World} {b : Nat} {t : TypeId} {a0 a1 a2 a3 a4 a5 a6 a7 a8 a9 a10 : Value} (h : ob w b = some (.cells #[a0, a1, a2, a3, a4, a5, a6, a7, a8, a9, a10] t (0, 0))) : w.cell? ⟨b, 0, none⟩ = some a0 ∧ w.cell? ⟨b, 1, none⟩ = some a1 ∧ w.cell? ⟨b, 2, none⟩ = some a2 ∧ w.cell? ⟨b, 3, none⟩ = some a3 ∧ w.cell? ⟨b, 4, none⟩ = some a4 ∧ w.cell? ⟨b, 5, none⟩ = some a5 ∧ w.cell? ⟨b, 6, none⟩ = some a6 ∧ w.cell? ⟨b, 7, none⟩ = some a7 ∧ w.cell? ⟨b, 8, none⟩ = some a8 ∧ w.cell? ⟨b, 9, none⟩ = some a9 ∧ w.cell? ⟨b, 10, none⟩ = some a10 ∧ ∀ i, w.frozen? ⟨b, i, none⟩ = false :=
  ⟨cell_ob h 0, cell_ob h 1, cell_ob h 2, cell_ob h 3, cell_ob h 4, cell_ob h 5, cell_ob h 6, cell_ob h 7, cell_ob h 8, cell_ob h 9, cell_ob h 10, fun i => frozen_ob h i⟩
theorem ob_alloc2 (w : World) (o o' : Obj) : ob ((w.alloc o).alloc o') (w.heap.size + 1) = some o' := ob_alloc_new _ _ _ (by simp)
theorem ob_step {w w' : World} {b : Nat} {o : Obj} (hb : Below w.heap.size w w') (h : ob w b = some o) : ob w' b = some o := (Chg.of_below (S := fun _ => False) hb).ob h fun h => h
theorem keep3 {S : Nat → Prop} {w w' : World} {k : Nat} {a b c : Value} (hc : Chg S w w') (hn : ¬ S k) (h : w.cell? ⟨k, 0, none⟩ = some a ∧ w.cell? ⟨k, 1, none⟩ = some b ∧ w.cell? ⟨k, 2, none⟩ = some c) :
    w'.cell? ⟨k, 0, none⟩ = some a ∧ w'.cell? ⟨k, 1, none⟩ = some b ∧ w'.cell? ⟨k, 2, none⟩ = some c :=
  ⟨hc.cell h.1 hn, hc.cell h.2.1 hn, hc.cell h.2.2 hn⟩
end Go.Proofs.YtchlioikkhnidaaGreat

/-
  Cells that a region reads, kept through a change of other blocks.
-/
namespace Go.Proofs.YtchlioikkhnidaaGreat
open Go.RowKit
variable {S : Nat → Prop} {w w' : World}
theorem kept_1 {a0 : Addr} {v0 : Value} (hc : Chg S w w') (n : ¬ S a0.block) (h : w.cell? a0 = some v0) : w'.cell? a0 = some v0 := hc.cell h n
theorem kept_2 {a0 a1 : Addr} {v0 v1 : Value} (hc : Chg S w w') (n : ¬ S a0.block ∧ ¬ S a1.block) (h : w.cell? a0 = some v0 ∧ w.cell? a1 = some v1) : w'.cell? a0 = some v0 ∧ w'.cell? a1 = some v1 := ⟨hc.cell h.1 n.1, hc.cell h.2 n.2⟩
theorem kept_3 {a0 a1 a2 : Addr} {v0 v1 v2 : Value} (hc : Chg S w w') (n : ¬ S a0.block ∧ ¬ S a1.block ∧ ¬ S a2.block) (h : w.cell? a0 = some v0 ∧ w.cell? a1 = some v1 ∧ w.cell? a2 = some v2) : w'.cell? a0 = some v0 ∧ w'.cell? a1 = some v1 ∧ w'.cell? a2 = some v2 := ⟨hc.cell h.1 n.1, hc.cell h.2.1 n.2.1, hc.cell h.2.2 n.2.2⟩
theorem kept_4 {a0 a1 a2 a3 : Addr} {v0 v1 v2 v3 : Value} (hc : Chg S w w') (n : ¬ S a0.block ∧ ¬ S a1.block ∧ ¬ S a2.block ∧ ¬ S a3.block) (h : w.cell? a0 = some v0 ∧ w.cell? a1 = some v1 ∧ w.cell? a2 = some v2 ∧ w.cell? a3 = some v3) : w'.cell? a0 = some v0 ∧ w'.cell? a1 = some v1 ∧ w'.cell? a2 = some v2 ∧ w'.cell? a3 = some v3 := ⟨hc.cell h.1 n.1, hc.cell h.2.1 n.2.1, hc.cell h.2.2.1 n.2.2.1, hc.cell h.2.2.2 n.2.2.2⟩
theorem kept_5 {a0 a1 a2 a3 a4 : Addr} {v0 v1 v2 v3 v4 : Value} (hc : Chg S w w') (n : ¬ S a0.block ∧ ¬ S a1.block ∧ ¬ S a2.block ∧ ¬ S a3.block ∧ ¬ S a4.block) (h : w.cell? a0 = some v0 ∧ w.cell? a1 = some v1 ∧ w.cell? a2 = some v2 ∧ w.cell? a3 = some v3 ∧ w.cell? a4 = some v4) : w'.cell? a0 = some v0 ∧ w'.cell? a1 = some v1 ∧ w'.cell? a2 = some v2 ∧ w'.cell? a3 = some v3 ∧ w'.cell? a4 = some v4 := ⟨hc.cell h.1 n.1, hc.cell h.2.1 n.2.1, hc.cell h.2.2.1 n.2.2.1, hc.cell h.2.2.2.1 n.2.2.2.1, hc.cell h.2.2.2.2 n.2.2.2.2⟩
theorem kept_6 {a0 a1 a2 a3 a4 a5 : Addr} {v0 v1 v2 v3 v4 v5 : Value} (hc : Chg S w w') (n : ¬ S a0.block ∧ ¬ S a1.block ∧ ¬ S a2.block ∧ ¬ S a3.block ∧ ¬ S a4.block ∧ ¬ S a5.block) (h : w.cell? a0 = some v0 ∧ w.cell? a1 = some v1 ∧ w.cell? a2 = some v2 ∧ w.cell? a3 = some v3 ∧ w.cell? a4 = some v4 ∧ w.cell? a5 = some v5) : w'.cell? a0 = some v0 ∧ w'.cell? a1 = some v1 ∧ w'.cell? a2 = some v2 ∧ w'.cell? a3 = some v3 ∧ w'.cell? a4 = some v4 ∧ w'.cell? a5 = some v5 := ⟨hc.cell h.1 n.1, hc.cell h.2.1 n.2.1, hc.cell h.2.2.1 n.2.2.1, hc.cell h.2.2.2.1 n.2.2.2.1, hc.cell h.2.2.2.2.1 n.2.2.2.2.1, hc.cell h.2.2.2.2.2 n.2.2.2.2.2⟩
theorem kept_7 {a0 a1 a2 a3 a4 a5 a6 : Addr} {v0 v1 v2 v3 v4 v5 v6 : Value} (hc : Chg S w w') (n : ¬ S a0.block ∧ ¬ S a1.block ∧ ¬ S a2.block ∧ ¬ S a3.block ∧ ¬ S a4.block ∧ ¬ S a5.block ∧ ¬ S a6.block) (h : w.cell? a0 = some v0 ∧ w.cell? a1 = some v1 ∧ w.cell? a2 = some v2 ∧ w.cell? a3 = some v3 ∧ w.cell? a4 = some v4 ∧ w.cell? a5 = some v5 ∧ w.cell? a6 = some v6) : w'.cell? a0 = some v0 ∧ w'.cell? a1 = some v1 ∧ w'.cell? a2 = some v2 ∧ w'.cell? a3 = some v3 ∧ w'.cell? a4 = some v4 ∧ w'.cell? a5 = some v5 ∧ w'.cell? a6 = some v6 := ⟨hc.cell h.1 n.1, hc.cell h.2.1 n.2.1, hc.cell h.2.2.1 n.2.2.1, hc.cell h.2.2.2.1 n.2.2.2.1, hc.cell h.2.2.2.2.1 n.2.2.2.2.1, hc.cell h.2.2.2.2.2.1 n.2.2.2.2.2.1, hc.cell h.2.2.2.2.2.2 n.2.2.2.2.2.2⟩
theorem kept_8 {a0 a1 a2 a3 a4 a5 a6 a7 : Addr} {v0 v1 v2 v3 v4 v5 v6 v7 : Value} (hc : Chg S w w') (n : ¬ S a0.block ∧ ¬ S a1.block ∧ ¬ S a2.block ∧ ¬ S a3.block ∧ ¬ S a4.block ∧ ¬ S a5.block ∧ ¬ S a6.block ∧ ¬ S a7.block) (h : w.cell? a0 = some v0 ∧ w.cell? a1 = some v1 ∧ w.cell? a2 = some v2 ∧ w.cell? a3 = some v3 ∧ w.cell? a4 = some v4 ∧ w.cell? a5 = some v5 ∧ w.cell? a6 = some v6 ∧ w.cell? a7 = some v7) : w'.cell? a0 = some v0 ∧ w'.cell? a1 = some v1 ∧ w'.cell? a2 = some v2 ∧ w'.cell? a3 = some v3 ∧ w'.cell? a4 = some v4 ∧ w'.cell? a5 = some v5 ∧ w'.cell? a6 = some v6 ∧ w'.cell? a7 = some v7 := ⟨hc.cell h.1 n.1, hc.cell h.2.1 n.2.1, hc.cell h.2.2.1 n.2.2.1, hc.cell h.2.2.2.1 n.2.2.2.1, hc.cell h.2.2.2.2.1 n.2.2.2.2.1, hc.cell h.2.2.2.2.2.1 n.2.2.2.2.2.1, hc.cell h.2.2.2.2.2.2.1 n.2.2.2.2.2.2.1, hc.cell h.2.2.2.2.2.2.2 n.2.2.2.2.2.2.2⟩
theorem kept_9 {a0 a1 a2 a3 a4 a5 a6 a7 a8 : Addr} {v0 v1 v2 v3 v4 v5 v6 v7 v8 : Value} (hc : Chg S w w') (n : ¬ S a0.block ∧ ¬ S a1.block ∧ ¬ S a2.block ∧ ¬ S a3.block ∧ ¬ S a4.block ∧ ¬ S a5.block ∧ ¬ S a6.block ∧ ¬ S a7.block ∧ ¬ S a8.block) (h : w.cell? a0 = some v0 ∧ w.cell? a1 = some v1 ∧ w.cell? a2 = some v2 ∧ w.cell? a3 = some v3 ∧ w.cell? a4 = some v4 ∧ w.cell? a5 = some v5 ∧ w.cell? a6 = some v6 ∧ w.cell? a7 = some v7 ∧ w.cell? a8 = some v8) : w'.cell? a0 = some v0 ∧ w'.cell? a1 = some v1 ∧ w'.cell? a2 = some v2 ∧ w'.cell? a3 = some v3 ∧ w'.cell? a4 = some v4 ∧ w'.cell? a5 = some v5 ∧ w'.cell? a6 = some v6 ∧ w'.cell? a7 = some v7 ∧ w'.cell? a8 = some v8 := ⟨hc.cell h.1 n.1, hc.cell h.2.1 n.2.1, hc.cell h.2.2.1 n.2.2.1, hc.cell h.2.2.2.1 n.2.2.2.1, hc.cell h.2.2.2.2.1 n.2.2.2.2.1, hc.cell h.2.2.2.2.2.1 n.2.2.2.2.2.1, hc.cell h.2.2.2.2.2.2.1 n.2.2.2.2.2.2.1, hc.cell h.2.2.2.2.2.2.2.1 n.2.2.2.2.2.2.2.1, hc.cell h.2.2.2.2.2.2.2.2 n.2.2.2.2.2.2.2.2⟩
theorem kept_10 {a0 a1 a2 a3 a4 a5 a6 a7 a8 a9 : Addr} {v0 v1 v2 v3 v4 v5 v6 v7 v8 v9 : Value} (hc : Chg S w w') (n : ¬ S a0.block ∧ ¬ S a1.block ∧ ¬ S a2.block ∧ ¬ S a3.block ∧ ¬ S a4.block ∧ ¬ S a5.block ∧ ¬ S a6.block ∧ ¬ S a7.block ∧ ¬ S a8.block ∧ ¬ S a9.block) (h : w.cell? a0 = some v0 ∧ w.cell? a1 = some v1 ∧ w.cell? a2 = some v2 ∧ w.cell? a3 = some v3 ∧ w.cell? a4 = some v4 ∧ w.cell? a5 = some v5 ∧ w.cell? a6 = some v6 ∧ w.cell? a7 = some v7 ∧ w.cell? a8 = some v8 ∧ w.cell? a9 = some v9) : w'.cell? a0 = some v0 ∧ w'.cell? a1 = some v1 ∧ w'.cell? a2 = some v2 ∧ w'.cell? a3 = some v3 ∧ w'.cell? a4 = some v4 ∧ w'.cell? a5 = some v5 ∧ w'.cell? a6 = some v6 ∧ w'.cell? a7 = some v7 ∧ w'.cell? a8 = some v8 ∧ w'.cell? a9 = some v9 := ⟨hc.cell h.1 n.1, hc.cell h.2.1 n.2.1, hc.cell h.2.2.1 n.2.2.1, hc.cell h.2.2.2.1 n.2.2.2.1, hc.cell h.2.2.2.2.1 n.2.2.2.2.1, hc.cell h.2.2.2.2.2.1 n.2.2.2.2.2.1, hc.cell h.2.2.2.2.2.2.1 n.2.2.2.2.2.2.1, hc.cell h.2.2.2.2.2.2.2.1 n.2.2.2.2.2.2.2.1, hc.cell h.2.2.2.2.2.2.2.2.1 n.2.2.2.2.2.2.2.2.1, hc.cell h.2.2.2.2.2.2.2.2.2 n.2.2.2.2.2.2.2.2.2⟩
theorem kept_11 {a0 a1 a2 a3 a4 a5 a6 a7 a8 a9 a10 : Addr} {v0 v1 v2 v3 v4 v5 v6 v7 v8 v9 v10 : Value} (hc : Chg S w w') (n : ¬ S a0.block ∧ ¬ S a1.block ∧ ¬ S a2.block ∧ ¬ S a3.block ∧ ¬ S a4.block ∧ ¬ S a5.block ∧ ¬ S a6.block ∧ ¬ S a7.block ∧ ¬ S a8.block ∧ ¬ S a9.block ∧ ¬ S a10.block) (h : w.cell? a0 = some v0 ∧ w.cell? a1 = some v1 ∧ w.cell? a2 = some v2 ∧ w.cell? a3 = some v3 ∧ w.cell? a4 = some v4 ∧ w.cell? a5 = some v5 ∧ w.cell? a6 = some v6 ∧ w.cell? a7 = some v7 ∧ w.cell? a8 = some v8 ∧ w.cell? a9 = some v9 ∧ w.cell? a10 = some v10) : w'.cell? a0 = some v0 ∧ w'.cell? a1 = some v1 ∧ w'.cell? a2 = some v2 ∧ w'.cell? a3 = some v3 ∧ w'.cell? a4 = some v4 ∧ w'.cell? a5 = some v5 ∧ w'.cell? a6 = some v6 ∧ w'.cell? a7 = some v7 ∧ w'.cell? a8 = some v8 ∧ w'.cell? a9 = some v9 ∧ w'.cell? a10 = some v10 := ⟨hc.cell h.1 n.1, hc.cell h.2.1 n.2.1, hc.cell h.2.2.1 n.2.2.1, hc.cell h.2.2.2.1 n.2.2.2.1, hc.cell h.2.2.2.2.1 n.2.2.2.2.1, hc.cell h.2.2.2.2.2.1 n.2.2.2.2.2.1, hc.cell h.2.2.2.2.2.2.1 n.2.2.2.2.2.2.1, hc.cell h.2.2.2.2.2.2.2.1 n.2.2.2.2.2.2.2.1, hc.cell h.2.2.2.2.2.2.2.2.1 n.2.2.2.2.2.2.2.2.1, hc.cell h.2.2.2.2.2.2.2.2.2.1 n.2.2.2.2.2.2.2.2.2.1, hc.cell h.2.2.2.2.2.2.2.2.2.2 n.2.2.2.2.2.2.2.2.2.2⟩
theorem kept_12 {a0 a1 a2 a3 a4 a5 a6 a7 a8 a9 a10 a11 : Addr} {v0 v1 v2 v3 v4 v5 v6 v7 v8 v9 v10 v11 : Value} (hc : Chg S w w') (n : ¬ S a0.block ∧ ¬ S a1.block ∧ ¬ S a2.block ∧ ¬ S a3.block ∧ ¬ S a4.block ∧ ¬ S a5.block ∧ ¬ S a6.block ∧ ¬ S a7.block ∧ ¬ S a8.block ∧ ¬ S a9.block ∧ ¬ S a10.block ∧ ¬ S a11.block) (h : w.cell? a0 = some v0 ∧ w.cell? a1 = some v1 ∧ w.cell? a2 = some v2 ∧ w.cell? a3 = some v3 ∧ w.cell? a4 = some v4 ∧ w.cell? a5 = some v5 ∧ w.cell? a6 = some v6 ∧ w.cell? a7 = some v7 ∧ w.cell? a8 = some v8 ∧ w.cell? a9 = some v9 ∧ w.cell? a10 = some v10 ∧ w.cell? a11 = some v11) : w'.cell? a0 = some v0 ∧ w'.cell? a1 = some v1 ∧ w'.cell? a2 = some v2 ∧ w'.cell? a3 = some v3 ∧ w'.cell? a4 = some v4 ∧ w'.cell? a5 = some v5 ∧ w'.cell? a6 = some v6 ∧ w'.cell? a7 = some v7 ∧ w'.cell? a8 = some v8 ∧ w'.cell? a9 = some v9 ∧ w'.cell? a10 = some v10 ∧ w'.cell? a11 = some v11 := ⟨hc.cell h.1 n.1, hc.cell h.2.1 n.2.1, hc.cell h.2.2.1 n.2.2.1, hc.cell h.2.2.2.1 n.2.2.2.1, hc.cell h.2.2.2.2.1 n.2.2.2.2.1, hc.cell h.2.2.2.2.2.1 n.2.2.2.2.2.1, hc.cell h.2.2.2.2.2.2.1 n.2.2.2.2.2.2.1, hc.cell h.2.2.2.2.2.2.2.1 n.2.2.2.2.2.2.2.1, hc.cell h.2.2.2.2.2.2.2.2.1 n.2.2.2.2.2.2.2.2.1, hc.cell h.2.2.2.2.2.2.2.2.2.1 n.2.2.2.2.2.2.2.2.2.1, hc.cell h.2.2.2.2.2.2.2.2.2.2.1 n.2.2.2.2.2.2.2.2.2.2.1, hc.cell h.2.2.2.2.2.2.2.2.2.2.2 n.2.2.2.2.2.2.2.2.2.2.2⟩
theorem kept_13 {a0 a1 a2 a3 a4 a5 a6 a7 a8 a9 a10 a11 a12 : Addr} {v0 v1 v2 v3 v4 v5 v6 v7 v8 v9 v10 v11 v12 : Value} (hc : Chg S w w') (n : ¬ S a0.block ∧ ¬ S a1.block ∧ ¬ S a2.block ∧ ¬ S a3.block ∧ ¬ S a4.block ∧ ¬ S a5.block ∧ ¬ S a6.block ∧ ¬ S a7.block ∧ ¬ S a8.block ∧ ¬ S a9.block ∧ ¬ S a10.block ∧ ¬ S a11.block ∧ ¬ S a12.block) (h : w.cell? a0 = some v0 ∧ w.cell? a1 = some v1 ∧ w.cell? a2 = some v2 ∧ w.cell? a3 = some v3 ∧ w.cell? a4 = some v4 ∧ w.cell? a5 = some v5 ∧ w.cell? a6 = some v6 ∧ w.cell? a7 = some v7 ∧ w.cell? a8 = some v8 ∧ w.cell? a9 = some v9 ∧ w.cell? a10 = some v10 ∧ w.cell? a11 = some v11 ∧ w.cell? a12 = some v12) : w'.cell? a0 = some v0 ∧ w'.cell? a1 = some v1 ∧ w'.cell? a2 = some v2 ∧ w'.cell? a3 = some v3 ∧ w'.cell? a4 = some v4 ∧ w'.cell? a5 = some v5 ∧ w'.cell? a6 = some v6 ∧ w'.cell? a7 = some v7 ∧ w'.cell? a8 = some v8 ∧ w'.cell? a9 = some v9 ∧ w'.cell? a10 = some v10 ∧ w'.cell? a11 = some v11 ∧ w'.cell? a12 = some v12 := ⟨hc.cell h.1 n.1, hc.cell h.2.1 n.2.1, hc.cell h.2.2.1 n.2.2.1, hc.cell h.2.2.2.1 n.2.2.2.1, hc.cell h.2.2.2.2.1 n.2.2.2.2.1, hc.cell h.2.2.2.2.2.1 n.2.2.2.2.2.1, hc.cell h.2.2.2.2.2.2.1 n.2.2.2.2.2.2.1, hc.cell h.2.2.2.2.2.2.2.1 n.2.2.2.2.2.2.2.1, hc.cell h.2.2.2.2.2.2.2.2.1 n.2.2.2.2.2.2.2.2.1, hc.cell h.2.2.2.2.2.2.2.2.2.1 n.2.2.2.2.2.2.2.2.2.1, hc.cell h.2.2.2.2.2.2.2.2.2.2.1 n.2.2.2.2.2.2.2.2.2.2.1, hc.cell h.2.2.2.2.2.2.2.2.2.2.2.1 n.2.2.2.2.2.2.2.2.2.2.2.1, hc.cell h.2.2.2.2.2.2.2.2.2.2.2.2 n.2.2.2.2.2.2.2.2.2.2.2.2⟩
theorem kept_14 {a0 a1 a2 a3 a4 a5 a6 a7 a8 a9 a10 a11 a12 a13 : Addr} {v0 v1 v2 v3 v4 v5 v6 v7 v8 v9 v10 v11 v12 v13 : Value} (hc : Chg S w w') (n : ¬ S a0.block ∧ ¬ S a1.block ∧ ¬ S a2.block ∧ ¬ S a3.block ∧ ¬ S a4.block ∧ ¬ S a5.block ∧ ¬ S a6.block ∧ ¬ S a7.block ∧ ¬ S a8.block ∧ ¬ S a9.block ∧ ¬ S a10.block ∧ ¬ S a11.block ∧ ¬ S a12.block ∧ ¬ S a13.block) (h : w.cell? a0 = some v0 ∧ w.cell? a1 = some v1 ∧ w.cell? a2 = some v2 ∧ w.cell? a3 = some v3 ∧ w.cell? a4 = some v4 ∧ w.cell? a5 = some v5 ∧ w.cell? a6 = some v6 ∧ w.cell? a7 = some v7 ∧ w.cell? a8 = some v8 ∧ w.cell? a9 = some v9 ∧ w.cell? a10 = some v10 ∧ w.cell? a11 = some v11 ∧ w.cell? a12 = some v12 ∧ w.cell? a13 = some v13) : w'.cell? a0 = some v0 ∧ w'.cell? a1 = some v1 ∧ w'.cell? a2 = some v2 ∧ w'.cell? a3 = some v3 ∧ w'.cell? a4 = some v4 ∧ w'.cell? a5 = some v5 ∧ w'.cell? a6 = some v6 ∧ w'.cell? a7 = some v7 ∧ w'.cell? a8 = some v8 ∧ w'.cell? a9 = some v9 ∧ w'.cell? a10 = some v10 ∧ w'.cell? a11 = some v11 ∧ w'.cell? a12 = some v12 ∧ w'.cell? a13 = some v13 := ⟨hc.cell h.1 n.1, hc.cell h.2.1 n.2.1, hc.cell h.2.2.1 n.2.2.1, hc.cell h.2.2.2.1 n.2.2.2.1, hc.cell h.2.2.2.2.1 n.2.2.2.2.1, hc.cell h.2.2.2.2.2.1 n.2.2.2.2.2.1, hc.cell h.2.2.2.2.2.2.1 n.2.2.2.2.2.2.1, hc.cell h.2.2.2.2.2.2.2.1 n.2.2.2.2.2.2.2.1, hc.cell h.2.2.2.2.2.2.2.2.1 n.2.2.2.2.2.2.2.2.1, hc.cell h.2.2.2.2.2.2.2.2.2.1 n.2.2.2.2.2.2.2.2.2.1, hc.cell h.2.2.2.2.2.2.2.2.2.2.1 n.2.2.2.2.2.2.2.2.2.2.1, hc.cell h.2.2.2.2.2.2.2.2.2.2.2.1 n.2.2.2.2.2.2.2.2.2.2.2.1, hc.cell h.2.2.2.2.2.2.2.2.2.2.2.2.1 n.2.2.2.2.2.2.2.2.2.2.2.2.1, hc.cell h.2.2.2.2.2.2.2.2.2.2.2.2.2 n.2.2.2.2.2.2.2.2.2.2.2.2.2⟩
theorem kept_15 {a0 a1 a2 a3 a4 a5 a6 a7 a8 a9 a10 a11 a12 a13 a14 : Addr} {v0 v1 v2 v3 v4 v5 v6 v7 v8 v9 v10 v11 v12 v13 v14 : Value} (hc : Chg S w w') (n : ¬ S a0.block ∧ ¬ S a1.block ∧ ¬ S a2.block ∧ ¬ S a3.block ∧ ¬ S a4.block ∧ ¬ S a5.block ∧ ¬ S a6.block ∧ ¬ S a7.block ∧ ¬ S a8.block ∧ ¬ S a9.block ∧ ¬ S a10.block ∧ ¬ S a11.block ∧ ¬ S a12.block ∧ ¬ S a13.block ∧ ¬ S a14.block) (h : w.cell? a0 = some v0 ∧ w.cell? a1 = some v1 ∧ w.cell? a2 = some v2 ∧ w.cell? a3 = some v3 ∧ w.cell? a4 = some v4 ∧ w.cell? a5 = some v5 ∧ w.cell? a6 = some v6 ∧ w.cell? a7 = some v7 ∧ w.cell? a8 = some v8 ∧ w.cell? a9 = some v9 ∧ w.cell? a10 = some v10 ∧ w.cell? a11 = some v11 ∧ w.cell? a12 = some v12 ∧ w.cell? a13 = some v13 ∧ w.cell? a14 = some v14) : w'.cell? a0 = some v0 ∧ w'.cell? a1 = some v1 ∧ w'.cell? a2 = some v2 ∧ w'.cell? a3 = some v3 ∧ w'.cell? a4 = some v4 ∧ w'.cell? a5 = some v5 ∧ w'.cell? a6 = some v6 ∧ w'.cell? a7 = some v7 ∧ w'.cell? a8 = some v8 ∧ w'.cell? a9 = some v9 ∧ w'.cell? a10 = some v10 ∧ w'.cell? a11 = some v11 ∧ w'.cell? a12 = some v12 ∧ w'.cell? a13 = some v13 ∧ w'.cell? a14 = some v14 := ⟨hc.cell h.1 n.1, hc.cell h.2.1 n.2.1, hc.cell h.2.2.1 n.2.2.1, hc.cell h.2.2.2.1 n.2.2.2.1, hc.cell h.2.2.2.2.1 n.2.2.2.2.1, hc.cell h.2.2.2.2.2.1 n.2.2.2.2.2.1, hc.cell h.2.2.2.2.2.2.1 n.2.2.2.2.2.2.1, hc.cell h.2.2.2.2.2.2.2.1 n.2.2.2.2.2.2.2.1, hc.cell h.2.2.2.2.2.2.2.2.1 n.2.2.2.2.2.2.2.2.1, hc.cell h.2.2.2.2.2.2.2.2.2.1 n.2.2.2.2.2.2.2.2.2.1, hc.cell h.2.2.2.2.2.2.2.2.2.2.1 n.2.2.2.2.2.2.2.2.2.2.1, hc.cell h.2.2.2.2.2.2.2.2.2.2.2.1 n.2.2.2.2.2.2.2.2.2.2.2.1, hc.cell h.2.2.2.2.2.2.2.2.2.2.2.2.1 n.2.2.2.2.2.2.2.2.2.2.2.2.1, hc.cell h.2.2.2.2.2.2.2.2.2.2.2.2.2.1 n.2.2.2.2.2.2.2.2.2.2.2.2.2.1, hc.cell h.2.2.2.2.2.2.2.2.2.2.2.2.2.2 n.2.2.2.2.2.2.2.2.2.2.2.2.2.2⟩
theorem kept_16 {a0 a1 a2 a3 a4 a5 a6 a7 a8 a9 a10 a11 a12 a13 a14 a15 : Addr} {v0 v1 v2 v3 v4 v5 v6 v7 v8 v9 v10 v11 v12 v13 v14 v15 : Value} (hc : Chg S w w') (n : ¬ S a0.block ∧ ¬ S a1.block ∧ ¬ S a2.block ∧ ¬ S a3.block ∧ ¬ S a4.block ∧ ¬ S a5.block ∧ ¬ S a6.block ∧ ¬ S a7.block ∧ ¬ S a8.block ∧ ¬ S a9.block ∧ ¬ S a10.block ∧ ¬ S a11.block ∧ ¬ S a12.block ∧ ¬ S a13.block ∧ ¬ S a14.block ∧ ¬ S a15.block) (h : w.cell? a0 = some v0 ∧ w.cell? a1 = some v1 ∧ w.cell? a2 = some v2 ∧ w.cell? a3 = some v3 ∧ w.cell? a4 = some v4 ∧ w.cell? a5 = some v5 ∧ w.cell? a6 = some v6 ∧ w.cell? a7 = some v7 ∧ w.cell? a8 = some v8 ∧ w.cell? a9 = some v9 ∧ w.cell? a10 = some v10 ∧ w.cell? a11 = some v11 ∧ w.cell? a12 = some v12 ∧ w.cell? a13 = some v13 ∧ w.cell? a14 = some v14 ∧ w.cell? a15 = some v15) : w'.cell? a0 = some v0 ∧ w'.cell? a1 = some v1 ∧ w'.cell? a2 = some v2 ∧ w'.cell? a3 = some v3 ∧ w'.cell? a4 = some v4 ∧ w'.cell? a5 = some v5 ∧ w'.cell? a6 = some v6 ∧ w'.cell? a7 = some v7 ∧ w'.cell? a8 = some v8 ∧ w'.cell? a9 = some v9 ∧ w'.cell? a10 = some v10 ∧ w'.cell? a11 = some v11 ∧ w'.cell? a12 = some v12 ∧ w'.cell? a13 = some v13 ∧ w'.cell? a14 = some v14 ∧ w'.cell? a15 = some v15 := ⟨hc.cell h.1 n.1, hc.cell h.2.1 n.2.1, hc.cell h.2.2.1 n.2.2.1, hc.cell h.2.2.2.1 n.2.2.2.1, hc.cell h.2.2.2.2.1 n.2.2.2.2.1, hc.cell h.2.2.2.2.2.1 n.2.2.2.2.2.1, hc.cell h.2.2.2.2.2.2.1 n.2.2.2.2.2.2.1, hc.cell h.2.2.2.2.2.2.2.1 n.2.2.2.2.2.2.2.1, hc.cell h.2.2.2.2.2.2.2.2.1 n.2.2.2.2.2.2.2.2.1, hc.cell h.2.2.2.2.2.2.2.2.2.1 n.2.2.2.2.2.2.2.2.2.1, hc.cell h.2.2.2.2.2.2.2.2.2.2.1 n.2.2.2.2.2.2.2.2.2.2.1, hc.cell h.2.2.2.2.2.2.2.2.2.2.2.1 n.2.2.2.2.2.2.2.2.2.2.2.1, hc.cell h.2.2.2.2.2.2.2.2.2.2.2.2.1 n.2.2.2.2.2.2.2.2.2.2.2.2.1, hc.cell h.2.2.2.2.2.2.2.2.2.2.2.2.2.1 n.2.2.2.2.2.2.2.2.2.2.2.2.2.1, hc.cell h.2.2.2.2.2.2.2.2.2.2.2.2.2.2.1 n.2.2.2.2.2.2.2.2.2.2.2.2.2.2.1, hc.cell h.2.2.2.2.2.2.2.2.2.2.2.2.2.2.2 n.2.2.2.2.2.2.2.2.2.2.2.2.2.2.2⟩
theorem kept_17 {a0 a1 a2 a3 a4 a5 a6 a7 a8 a9 a10 a11 a12 a13 a14 a15 a16 : Addr} {v0 v1 v2 v3 v4 v5 v6 v7 v8 v9 v10 v11 v12 v13 v14 v15 v16 : Value} (hc : Chg S w w') (n : ¬ S a0.block ∧ ¬ S a1.block ∧ ¬ S a2.block ∧ ¬ S a3.block ∧ ¬ S a4.block ∧ ¬ S a5.block ∧ ¬ S a6.block ∧ ¬ S a7.block ∧ ¬ S a8.block ∧ ¬ S a9.block ∧ ¬ S a10.block ∧ ¬ S a11.block ∧ ¬ S a12.block ∧ ¬ S a13.block ∧ ¬ S a14.block ∧ ¬ S a15.block ∧ ¬ S a16.block) (h : w.cell? a0 = some v0 ∧ w.cell? a1 = some v1 ∧ w.cell? a2 = some v2 ∧ w.cell? a3 = some v3 ∧ w.cell? a4 = some v4 ∧ w.cell? a5 = some v5 ∧ w.cell? a6 = some v6 ∧ w.cell? a7 = some v7 ∧ w.cell? a8 = some v8 ∧ w.cell? a9 = some v9 ∧ w.cell? a10 = some v10 ∧ w.cell? a11 = some v11 ∧ w.cell? a12 = some v12 ∧ w.cell? a13 = some v13 ∧ w.cell? a14 = some v14 ∧ w.cell? a15 = some v15 ∧ w.cell? a16 = some v16) : w'.cell? a0 = some v0 ∧ w'.cell? a1 = some v1 ∧ w'.cell? a2 = some v2 ∧ w'.cell? a3 = some v3 ∧ w'.cell? a4 = some v4 ∧ w'.cell? a5 = some v5 ∧ w'.cell? a6 = some v6 ∧ w'.cell? a7 = some v7 ∧ w'.cell? a8 = some v8 ∧ w'.cell? a9 = some v9 ∧ w'.cell? a10 = some v10 ∧ w'.cell? a11 = some v11 ∧ w'.cell? a12 = some v12 ∧ w'.cell? a13 = some v13 ∧ w'.cell? a14 = some v14 ∧ w'.cell? a15 = some v15 ∧ w'.cell? a16 = some v16 := ⟨hc.cell h.1 n.1, hc.cell h.2.1 n.2.1, hc.cell h.2.2.1 n.2.2.1, hc.cell h.2.2.2.1 n.2.2.2.1, hc.cell h.2.2.2.2.1 n.2.2.2.2.1, hc.cell h.2.2.2.2.2.1 n.2.2.2.2.2.1, hc.cell h.2.2.2.2.2.2.1 n.2.2.2.2.2.2.1, hc.cell h.2.2.2.2.2.2.2.1 n.2.2.2.2.2.2.2.1, hc.cell h.2.2.2.2.2.2.2.2.1 n.2.2.2.2.2.2.2.2.1, hc.cell h.2.2.2.2.2.2.2.2.2.1 n.2.2.2.2.2.2.2.2.2.1, hc.cell h.2.2.2.2.2.2.2.2.2.2.1 n.2.2.2.2.2.2.2.2.2.2.1, hc.cell h.2.2.2.2.2.2.2.2.2.2.2.1 n.2.2.2.2.2.2.2.2.2.2.2.1, hc.cell h.2.2.2.2.2.2.2.2.2.2.2.2.1 n.2.2.2.2.2.2.2.2.2.2.2.2.1, hc.cell h.2.2.2.2.2.2.2.2.2.2.2.2.2.1 n.2.2.2.2.2.2.2.2.2.2.2.2.2.1, hc.cell h.2.2.2.2.2.2.2.2.2.2.2.2.2.2.1 n.2.2.2.2.2.2.2.2.2.2.2.2.2.2.1, hc.cell h.2.2.2.2.2.2.2.2.2.2.2.2.2.2.2.1 n.2.2.2.2.2.2.2.2.2.2.2.2.2.2.2.1, hc.cell h.2.2.2.2.2.2.2.2.2.2.2.2.2.2.2.2 n.2.2.2.2.2.2.2.2.2.2.2.2.2.2.2.2⟩
theorem kept_18 {a0 a1 a2 a3 a4 a5 a6 a7 a8 a9 a10 a11 a12 a13 a14 a15 a16 a17 : Addr} {v0 v1 v2 v3 v4 v5 v6 v7 v8 v9 v10 v11 v12 v13 v14 v15 v16 v17 : Value} (hc : Chg S w w') (n : ¬ S a0.block ∧ ¬ S a1.block ∧ ¬ S a2.block ∧ ¬ S a3.block ∧ ¬ S a4.block ∧ ¬ S a5.block ∧ ¬ S a6.block ∧ ¬ S a7.block ∧ ¬ S a8.block ∧ ¬ S a9.block ∧ ¬ S a10.block ∧ ¬ S a11.block ∧ ¬ S a12.block ∧ ¬ S a13.block ∧ ¬ S a14.block ∧ ¬ S a15.block ∧ ¬ S a16.block ∧ ¬ S a17.block) (h : w.cell? a0 = some v0 ∧ w.cell? a1 = some v1 ∧ w.cell? a2 = some v2 ∧ w.cell? a3 = some v3 ∧ w.cell? a4 = some v4 ∧ w.cell? a5 = some v5 ∧ w.cell? a6 = some v6 ∧ w.cell? a7 = some v7 ∧ w.cell? a8 = some v8 ∧ w.cell? a9 = some v9 ∧ w.cell? a10 = some v10 ∧ w.cell? a11 = some v11 ∧ w.cell? a12 = some v12 ∧ w.cell? a13 = some v13 ∧ w.cell? a14 = some v14 ∧ w.cell? a15 = some v15 ∧ w.cell? a16 = some v16 ∧ w.cell? a17 = some v17) : w'.cell? a0 = some v0 ∧ w'.cell? a1 = some v1 ∧ w'.cell? a2 = some v2 ∧ w'.cell? a3 = some v3 ∧ w'.cell? a4 = some v4 ∧ w'.cell? a5 = some v5 ∧ w'.cell? a6 = some v6 ∧ w'.cell? a7 = some v7 ∧ w'.cell? a8 = some v8 ∧ w'.cell? a9 = some v9 ∧ w'.cell? a10 = some v10 ∧ w'.cell? a11 = some v11 ∧ w'.cell? a12 = some v12 ∧ w'.cell? a13 = some v13 ∧ w'.cell? a14 = some v14 ∧ w'.cell? a15 = some v15 ∧ w'.cell? a16 = some v16 ∧ w'.cell? a17 = some v17 := ⟨hc.cell h.1 n.1, hc.cell h.2.1 n.2.1, hc.cell h.2.2.1 n.2.2.1, hc.cell h.2.2.2.1 n.2.2.2.1, hc.cell h.2.2.2.2.1 n.2.2.2.2.1, hc.cell h.2.2.2.2.2.1 n.2.2.2.2.2.1, hc.cell h.2.2.2.2.2.2.1 n.2.2.2.2.2.2.1, hc.cell h.2.2.2.2.2.2.2.1 n.2.2.2.2.2.2.2.1, hc.cell h.2.2.2.2.2.2.2.2.1 n.2.2.2.2.2.2.2.2.1, hc.cell h.2.2.2.2.2.2.2.2.2.1 n.2.2.2.2.2.2.2.2.2.1, hc.cell h.2.2.2.2.2.2.2.2.2.2.1 n.2.2.2.2.2.2.2.2.2.2.1, hc.cell h.2.2.2.2.2.2.2.2.2.2.2.1 n.2.2.2.2.2.2.2.2.2.2.2.1, hc.cell h.2.2.2.2.2.2.2.2.2.2.2.2.1 n.2.2.2.2.2.2.2.2.2.2.2.2.1, hc.cell h.2.2.2.2.2.2.2.2.2.2.2.2.2.1 n.2.2.2.2.2.2.2.2.2.2.2.2.2.1, hc.cell h.2.2.2.2.2.2.2.2.2.2.2.2.2.2.1 n.2.2.2.2.2.2.2.2.2.2.2.2.2.2.1, hc.cell h.2.2.2.2.2.2.2.2.2.2.2.2.2.2.2.1 n.2.2.2.2.2.2.2.2.2.2.2.2.2.2.2.1, hc.cell h.2.2.2.2.2.2.2.2.2.2.2.2.2.2.2.2.1 n.2.2.2.2.2.2.2.2.2.2.2.2.2.2.2.2.1, hc.cell h.2.2.2.2.2.2.2.2.2.2.2.2.2.2.2.2.2 n.2.2.2.2.2.2.2.2.2.2.2.2.2.2.2.2.2⟩
theorem kept_19 {a0 a1 a2 a3 a4 a5 a6 a7 a8 a9 a10 a11 a12 a13 a14 a15 a16 a17 a18 : Addr} {v0 v1 v2 v3 v4 v5 v6 v7 v8 v9 v10 v11 v12 v13 v14 v15 v16 v17 v18 : Value} (hc : Chg S w w') (n : ¬ S a0.block ∧ ¬ S a1.block ∧ ¬ S a2.block ∧ ¬ S a3.block ∧ ¬ S a4.block ∧ ¬ S a5.block ∧ ¬ S a6.block ∧ ¬ S a7.block ∧ ¬ S a8.block ∧ ¬ S a9.block ∧ ¬ S a10.block ∧ ¬ S a11.block ∧ ¬ S a12.block ∧ ¬ S a13.block ∧ ¬ S a14.block ∧ ¬ S a15.block ∧ ¬ S a16.block ∧ ¬ S a17.block ∧ ¬ S a18.block) (h : w.cell? a0 = some v0 ∧ w.cell? a1 = some v1 ∧ w.cell? a2 = some v2 ∧ w.cell? a3 = some v3 ∧ w.cell? a4 = some v4 ∧ w.cell? a5 = some v5 ∧ w.cell? a6 = some v6 ∧ w.cell? a7 = some v7 ∧ w.cell? a8 = some v8 ∧ w.cell? a9 = some v9 ∧ w.cell? a10 = some v10 ∧ w.cell? a11 = some v11 ∧ w.cell? a12 = some v12 ∧ w.cell? a13 = some v13 ∧ w.cell? a14 = some v14 ∧ w.cell? a15 = some v15 ∧ w.cell? a16 = some v16 ∧ w.cell? a17 = some v17 ∧ w.cell? a18 = some v18) : w'.cell? a0 = some v0 ∧ w'.cell? a1 = some v1 ∧ w'.cell? a2 = some v2 ∧ w'.cell? a3 = some v3 ∧ w'.cell? a4 = some v4 ∧ w'.cell? a5 = some v5 ∧ w'.cell? a6 = some v6 ∧ w'.cell? a7 = some v7 ∧ w'.cell? a8 = some v8 ∧ w'.cell? a9 = some v9 ∧ w'.cell? a10 = some v10 ∧ w'.cell? a11 = some v11 ∧ w'.cell? a12 = some v12 ∧ w'.cell? a13 = some v13 ∧ w'.cell? a14 = some v14 ∧ w'.cell? a15 = some v15 ∧ w'.cell? a16 = some v16 ∧ w'.cell? a17 = some v17 ∧ w'.cell? a18 = some v18 := ⟨hc.cell h.1 n.1, hc.cell h.2.1 n.2.1, hc.cell h.2.2.1 n.2.2.1, hc.cell h.2.2.2.1 n.2.2.2.1, hc.cell h.2.2.2.2.1 n.2.2.2.2.1, hc.cell h.2.2.2.2.2.1 n.2.2.2.2.2.1, hc.cell h.2.2.2.2.2.2.1 n.2.2.2.2.2.2.1, hc.cell h.2.2.2.2.2.2.2.1 n.2.2.2.2.2.2.2.1, hc.cell h.2.2.2.2.2.2.2.2.1 n.2.2.2.2.2.2.2.2.1, hc.cell h.2.2.2.2.2.2.2.2.2.1 n.2.2.2.2.2.2.2.2.2.1, hc.cell h.2.2.2.2.2.2.2.2.2.2.1 n.2.2.2.2.2.2.2.2.2.2.1, hc.cell h.2.2.2.2.2.2.2.2.2.2.2.1 n.2.2.2.2.2.2.2.2.2.2.2.1, hc.cell h.2.2.2.2.2.2.2.2.2.2.2.2.1 n.2.2.2.2.2.2.2.2.2.2.2.2.1, hc.cell h.2.2.2.2.2.2.2.2.2.2.2.2.2.1 n.2.2.2.2.2.2.2.2.2.2.2.2.2.1, hc.cell h.2.2.2.2.2.2.2.2.2.2.2.2.2.2.1 n.2.2.2.2.2.2.2.2.2.2.2.2.2.2.1, hc.cell h.2.2.2.2.2.2.2.2.2.2.2.2.2.2.2.1 n.2.2.2.2.2.2.2.2.2.2.2.2.2.2.2.1, hc.cell h.2.2.2.2.2.2.2.2.2.2.2.2.2.2.2.2.1 n.2.2.2.2.2.2.2.2.2.2.2.2.2.2.2.2.1, hc.cell h.2.2.2.2.2.2.2.2.2.2.2.2.2.2.2.2.2.1 n.2.2.2.2.2.2.2.2.2.2.2.2.2.2.2.2.2.1, hc.cell h.2.2.2.2.2.2.2.2.2.2.2.2.2.2.2.2.2.2 n.2.2.2.2.2.2.2.2.2.2.2.2.2.2.2.2.2.2⟩
theorem kept_20 {a0 a1 a2 a3 a4 a5 a6 a7 a8 a9 a10 a11 a12 a13 a14 a15 a16 a17 a18 a19 : Addr} {v0 v1 v2 v3 v4 v5 v6 v7 v8 v9 v10 v11 v12 v13 v14 v15 v16 v17 v18 v19 : Value} (hc : Chg S w w') (n : ¬ S a0.block ∧ ¬ S a1.block ∧ ¬ S a2.block ∧ ¬ S a3.block ∧ ¬ S a4.block ∧ ¬ S a5.block ∧ ¬ S a6.block ∧ ¬ S a7.block ∧ ¬ S a8.block ∧ ¬ S a9.block ∧ ¬ S a10.block ∧ ¬ S a11.block ∧ ¬ S a12.block ∧ ¬ S a13.block ∧ ¬ S a14.block ∧ ¬ S a15.block ∧ ¬ S a16.block ∧ ¬ S a17.block ∧ ¬ S a18.block ∧ ¬ S a19.block) (h : w.cell? a0 = some v0 ∧ w.cell? a1 = some v1 ∧ w.cell? a2 = some v2 ∧ w.cell? a3 = some v3 ∧ w.cell? a4 = some v4 ∧ w.cell? a5 = some v5 ∧ w.cell? a6 = some v6 ∧ w.cell? a7 = some v7 ∧ w.cell? a8 = some v8 ∧ w.cell? a9 = some v9 ∧ w.cell? a10 = some v10 ∧ w.cell? a11 = some v11 ∧ w.cell? a12 = some v12 ∧ w.cell? a13 = some v13 ∧ w.cell? a14 = some v14 ∧ w.cell? a15 = some v15 ∧ w.cell? a16 = some v16 ∧ w.cell? a17 = some v17 ∧ w.cell? a18 = some v18 ∧ w.cell? a19 = some v19) : w'.cell? a0 = some v0 ∧ w'.cell? a1 = some v1 ∧ w'.cell? a2 = some v2 ∧ w'.cell? a3 = some v3 ∧ w'.cell? a4 = some v4 ∧ w'.cell? a5 = some v5 ∧ w'.cell? a6 = some v6 ∧ w'.cell? a7 = some v7 ∧ w'.cell? a8 = some v8 ∧ w'.cell? a9 = some v9 ∧ w'.cell? a10 = some v10 ∧ w'.cell? a11 = some v11 ∧ w'.cell? a12 = some v12 ∧ w'.cell? a13 = some v13 ∧ w'.cell? a14 = some v14 ∧ w'.cell? a15 = some v15 ∧ w'.cell? a16 = some v16 ∧ w'.cell? a17 = some v17 ∧ w'.cell? a18 = some v18 ∧ w'.cell? a19 = some v19 := ⟨hc.cell h.1 n.1, hc.cell h.2.1 n.2.1, hc.cell h.2.2.1 n.2.2.1, hc.cell h.2.2.2.1 n.2.2.2.1, hc.cell h.2.2.2.2.1 n.2.2.2.2.1, hc.cell h.2.2.2.2.2.1 n.2.2.2.2.2.1, hc.cell h.2.2.2.2.2.2.1 n.2.2.2.2.2.2.1, hc.cell h.2.2.2.2.2.2.2.1 n.2.2.2.2.2.2.2.1, hc.cell h.2.2.2.2.2.2.2.2.1 n.2.2.2.2.2.2.2.2.1, hc.cell h.2.2.2.2.2.2.2.2.2.1 n.2.2.2.2.2.2.2.2.2.1, hc.cell h.2.2.2.2.2.2.2.2.2.2.1 n.2.2.2.2.2.2.2.2.2.2.1, hc.cell h.2.2.2.2.2.2.2.2.2.2.2.1 n.2.2.2.2.2.2.2.2.2.2.2.1, hc.cell h.2.2.2.2.2.2.2.2.2.2.2.2.1 n.2.2.2.2.2.2.2.2.2.2.2.2.1, hc.cell h.2.2.2.2.2.2.2.2.2.2.2.2.2.1 n.2.2.2.2.2.2.2.2.2.2.2.2.2.1, hc.cell h.2.2.2.2.2.2.2.2.2.2.2.2.2.2.1 n.2.2.2.2.2.2.2.2.2.2.2.2.2.2.1, hc.cell h.2.2.2.2.2.2.2.2.2.2.2.2.2.2.2.1 n.2.2.2.2.2.2.2.2.2.2.2.2.2.2.2.1, hc.cell h.2.2.2.2.2.2.2.2.2.2.2.2.2.2.2.2.1 n.2.2.2.2.2.2.2.2.2.2.2.2.2.2.2.2.1, hc.cell h.2.2.2.2.2.2.2.2.2.2.2.2.2.2.2.2.2.1 n.2.2.2.2.2.2.2.2.2.2.2.2.2.2.2.2.2.1, hc.cell h.2.2.2.2.2.2.2.2.2.2.2.2.2.2.2.2.2.2.1 n.2.2.2.2.2.2.2.2.2.2.2.2.2.2.2.2.2.2.1, hc.cell h.2.2.2.2.2.2.2.2.2.2.2.2.2.2.2.2.2.2.2 n.2.2.2.2.2.2.2.2.2.2.2.2.2.2.2.2.2.2.2⟩
theorem kept_21 {a0 a1 a2 a3 a4 a5 a6 a7 a8 a9 a10 a11 a12 a13 a14 a15 a16 a17 a18 a19 a20 : Addr} {v0 v1 v2 v3 v4 v5 v6 v7 v8 v9 v10 v11 v12 v13 v14 v15 v16 v17 v18 v19 v20 : Value} (hc : Chg S w w') (n : ¬ S a0.block ∧ ¬ S a1.block ∧ ¬ S a2.block ∧ ¬ S a3.block ∧ ¬ S a4.block ∧ ¬ S a5.block ∧ ¬ S a6.block ∧ ¬ S a7.block ∧ ¬ S a8.block ∧ ¬ S a9.block ∧ ¬ S a10.block ∧ ¬ S a11.block ∧ ¬ S a12.block ∧ ¬ S a13.block ∧ ¬ S a14.block ∧ ¬ S a15.block ∧ ¬ S a16.block ∧ ¬ S a17.block ∧ ¬ S a18.block ∧ ¬ S a19.block ∧ ¬ S a20.block) (h : w.cell? a0 = some v0 ∧ w.cell? a1 = some v1 ∧ w.cell? a2 = some v2 ∧ w.cell? a3 = some v3 ∧ w.cell? a4 = some v4 ∧ w.cell? a5 = some v5 ∧ w.cell? a6 = some v6 ∧ w.cell? a7 = some v7 ∧ w.cell? a8 = some v8 ∧ w.cell? a9 = some v9 ∧ w.cell? a10 = some v10 ∧ w.cell? a11 = some v11 ∧ w.cell? a12 = some v12 ∧ w.cell? a13 = some v13 ∧ w.cell? a14 = some v14 ∧ w.cell? a15 = some v15 ∧ w.cell? a16 = some v16 ∧ w.cell? a17 = some v17 ∧ w.cell? a18 = some v18 ∧ w.cell? a19 = some v19 ∧ w.cell? a20 = some v20) : w'.cell? a0 = some v0 ∧ w'.cell? a1 = some v1 ∧ w'.cell? a2 = some v2 ∧ w'.cell? a3 = some v3 ∧ w'.cell? a4 = some v4 ∧ w'.cell? a5 = some v5 ∧ w'.cell? a6 = some v6 ∧ w'.cell? a7 = some v7 ∧ w'.cell? a8 = some v8 ∧ w'.cell? a9 = some v9 ∧ w'.cell? a10 = some v10 ∧ w'.cell? a11 = some v11 ∧ w'.cell? a12 = some v12 ∧ w'.cell? a13 = some v13 ∧ w'.cell? a14 = some v14 ∧ w'.cell? a15 = some v15 ∧ w'.cell? a16 = some v16 ∧ w'.cell? a17 = some v17 ∧ w'.cell? a18 = some v18 ∧ w'.cell? a19 = some v19 ∧ w'.cell? a20 = some v20 := ⟨hc.cell h.1 n.1, hc.cell h.2.1 n.2.1, hc.cell h.2.2.1 n.2.2.1, hc.cell h.2.2.2.1 n.2.2.2.1, hc.cell h.2.2.2.2.1 n.2.2.2.2.1, hc.cell h.2.2.2.2.2.1 n.2.2.2.2.2.1, hc.cell h.2.2.2.2.2.2.1 n.2.2.2.2.2.2.1, hc.cell h.2.2.2.2.2.2.2.1 n.2.2.2.2.2.2.2.1, hc.cell h.2.2.2.2.2.2.2.2.1 n.2.2.2.2.2.2.2.2.1, hc.cell h.2.2.2.2.2.2.2.2.2.1 n.2.2.2.2.2.2.2.2.2.1, hc.cell h.2.2.2.2.2.2.2.2.2.2.1 n.2.2.2.2.2.2.2.2.2.2.1, hc.cell h.2.2.2.2.2.2.2.2.2.2.2.1 n.2.2.2.2.2.2.2.2.2.2.2.1, hc.cell h.2.2.2.2.2.2.2.2.2.2.2.2.1 n.2.2.2.2.2.2.2.2.2.2.2.2.1, hc.cell h.2.2.2.2.2.2.2.2.2.2.2.2.2.1 n.2.2.2.2.2.2.2.2.2.2.2.2.2.1, hc.cell h.2.2.2.2.2.2.2.2.2.2.2.2.2.2.1 n.2.2.2.2.2.2.2.2.2.2.2.2.2.2.1, hc.cell h.2.2.2.2.2.2.2.2.2.2.2.2.2.2.2.1 n.2.2.2.2.2.2.2.2.2.2.2.2.2.2.2.1, hc.cell h.2.2.2.2.2.2.2.2.2.2.2.2.2.2.2.2.1 n.2.2.2.2.2.2.2.2.2.2.2.2.2.2.2.2.1, hc.cell h.2.2.2.2.2.2.2.2.2.2.2.2.2.2.2.2.2.1 n.2.2.2.2.2.2.2.2.2.2.2.2.2.2.2.2.2.1, hc.cell h.2.2.2.2.2.2.2.2.2.2.2.2.2.2.2.2.2.2.1 n.2.2.2.2.2.2.2.2.2.2.2.2.2.2.2.2.2.2.1, hc.cell h.2.2.2.2.2.2.2.2.2.2.2.2.2.2.2.2.2.2.2.1 n.2.2.2.2.2.2.2.2.2.2.2.2.2.2.2.2.2.2.2.1, hc.cell h.2.2.2.2.2.2.2.2.2.2.2.2.2.2.2.2.2.2.2.2 n.2.2.2.2.2.2.2.2.2.2.2.2.2.2.2.2.2.2.2.2⟩
theorem keptAt_1 (k : Nat) {a0 : Addr} {v0 : Value} (hc : Chg (fun j => j = k) w w') (n : a0.block ≠ k) (h : w.cell? a0 = some v0) : w'.cell? a0 = some v0 := hc.cell h n
theorem keptAt_2 (k : Nat) {a0 a1 : Addr} {v0 v1 : Value} (hc : Chg (fun j => j = k) w w') (n : a0.block ≠ k ∧ a1.block ≠ k) (h : w.cell? a0 = some v0 ∧ w.cell? a1 = some v1) : w'.cell? a0 = some v0 ∧ w'.cell? a1 = some v1 := ⟨hc.cell h.1 n.1, hc.cell h.2 n.2⟩
theorem keptAt_3 (k : Nat) {a0 a1 a2 : Addr} {v0 v1 v2 : Value} (hc : Chg (fun j => j = k) w w') (n : a0.block ≠ k ∧ a1.block ≠ k ∧ a2.block ≠ k) (h : w.cell? a0 = some v0 ∧ w.cell? a1 = some v1 ∧ w.cell? a2 = some v2) : w'.cell? a0 = some v0 ∧ w'.cell? a1 = some v1 ∧ w'.cell? a2 = some v2 := ⟨hc.cell h.1 n.1, hc.cell h.2.1 n.2.1, hc.cell h.2.2 n.2.2⟩
theorem keptAt_4 (k : Nat) {a0 a1 a2 a3 : Addr} {v0 v1 v2 v3 : Value} (hc : Chg (fun j => j = k) w w') (n : a0.block ≠ k ∧ a1.block ≠ k ∧ a2.block ≠ k ∧ a3.block ≠ k) (h : w.cell? a0 = some v0 ∧ w.cell? a1 = some v1 ∧ w.cell? a2 = some v2 ∧ w.cell? a3 = some v3) : w'.cell? a0 = some v0 ∧ w'.cell? a1 = some v1 ∧ w'.cell? a2 = some v2 ∧ w'.cell? a3 = some v3 := ⟨hc.cell h.1 n.1, hc.cell h.2.1 n.2.1, hc.cell h.2.2.1 n.2.2.1, hc.cell h.2.2.2 n.2.2.2⟩
theorem keptAt_5 (k : Nat) {a0 a1 a2 a3 a4 : Addr} {v0 v1 v2 v3 v4 : Value} (hc : Chg (fun j => j = k) w w') (n : a0.block ≠ k ∧ a1.block ≠ k ∧ a2.block ≠ k ∧ a3.block ≠ k ∧ a4.block ≠ k) (h : w.cell? a0 = some v0 ∧ w.cell? a1 = some v1 ∧ w.cell? a2 = some v2 ∧ w.cell? a3 = some v3 ∧ w.cell? a4 = some v4) : w'.cell? a0 = some v0 ∧ w'.cell? a1 = some v1 ∧ w'.cell? a2 = some v2 ∧ w'.cell? a3 = some v3 ∧ w'.cell? a4 = some v4 := ⟨hc.cell h.1 n.1, hc.cell h.2.1 n.2.1, hc.cell h.2.2.1 n.2.2.1, hc.cell h.2.2.2.1 n.2.2.2.1, hc.cell h.2.2.2.2 n.2.2.2.2⟩
theorem keptAt_6 (k : Nat) {a0 a1 a2 a3 a4 a5 : Addr} {v0 v1 v2 v3 v4 v5 : Value} (hc : Chg (fun j => j = k) w w') (n : a0.block ≠ k ∧ a1.block ≠ k ∧ a2.block ≠ k ∧ a3.block ≠ k ∧ a4.block ≠ k ∧ a5.block ≠ k) (h : w.cell? a0 = some v0 ∧ w.cell? a1 = some v1 ∧ w.cell? a2 = some v2 ∧ w.cell? a3 = some v3 ∧ w.cell? a4 = some v4 ∧ w.cell? a5 = some v5) : w'.cell? a0 = some v0 ∧ w'.cell? a1 = some v1 ∧ w'.cell? a2 = some v2 ∧ w'.cell? a3 = some v3 ∧ w'.cell? a4 = some v4 ∧ w'.cell? a5 = some v5 := ⟨hc.cell h.1 n.1, hc.cell h.2.1 n.2.1, hc.cell h.2.2.1 n.2.2.1, hc.cell h.2.2.2.1 n.2.2.2.1, hc.cell h.2.2.2.2.1 n.2.2.2.2.1, hc.cell h.2.2.2.2.2 n.2.2.2.2.2⟩
theorem keptAt_7 (k : Nat) {a0 a1 a2 a3 a4 a5 a6 : Addr} {v0 v1 v2 v3 v4 v5 v6 : Value} (hc : Chg (fun j => j = k) w w') (n : a0.block ≠ k ∧ a1.block ≠ k ∧ a2.block ≠ k ∧ a3.block ≠ k ∧ a4.block ≠ k ∧ a5.block ≠ k ∧ a6.block ≠ k) (h : w.cell? a0 = some v0 ∧ w.cell? a1 = some v1 ∧ w.cell? a2 = some v2 ∧ w.cell? a3 = some v3 ∧ w.cell? a4 = some v4 ∧ w.cell? a5 = some v5 ∧ w.cell? a6 = some v6) : w'.cell? a0 = some v0 ∧ w'.cell? a1 = some v1 ∧ w'.cell? a2 = some v2 ∧ w'.cell? a3 = some v3 ∧ w'.cell? a4 = some v4 ∧ w'.cell? a5 = some v5 ∧ w'.cell? a6 = some v6 := ⟨hc.cell h.1 n.1, hc.cell h.2.1 n.2.1, hc.cell h.2.2.1 n.2.2.1, hc.cell h.2.2.2.1 n.2.2.2.1, hc.cell h.2.2.2.2.1 n.2.2.2.2.1, hc.cell h.2.2.2.2.2.1 n.2.2.2.2.2.1, hc.cell h.2.2.2.2.2.2 n.2.2.2.2.2.2⟩
theorem keptAt_8 (k : Nat) {a0 a1 a2 a3 a4 a5 a6 a7 : Addr} {v0 v1 v2 v3 v4 v5 v6 v7 : Value} (hc : Chg (fun j => j = k) w w') (n : a0.block ≠ k ∧ a1.block ≠ k ∧ a2.block ≠ k ∧ a3.block ≠ k ∧ a4.block ≠ k ∧ a5.block ≠ k ∧ a6.block ≠ k ∧ a7.block ≠ k) (h : w.cell? a0 = some v0 ∧ w.cell? a1 = some v1 ∧ w.cell? a2 = some v2 ∧ w.cell? a3 = some v3 ∧ w.cell? a4 = some v4 ∧ w.cell? a5 = some v5 ∧ w.cell? a6 = some v6 ∧ w.cell? a7 = some v7) : w'.cell? a0 = some v0 ∧ w'.cell? a1 = some v1 ∧ w'.cell? a2 = some v2 ∧ w'.cell? a3 = some v3 ∧ w'.cell? a4 = some v4 ∧ w'.cell? a5 = some v5 ∧ w'.cell? a6 = some v6 ∧ w'.cell? a7 = some v7 := ⟨hc.cell h.1 n.1, hc.cell h.2.1 n.2.1, hc.cell h.2.2.1 n.2.2.1, hc.cell h.2.2.2.1 n.2.2.2.1, hc.cell h.2.2.2.2.1 n.2.2.2.2.1, hc.cell h.2.2.2.2.2.1 n.2.2.2.2.2.1, hc.cell h.2.2.2.2.2.2.1 n.2.2.2.2.2.2.1, hc.cell h.2.2.2.2.2.2.2 n.2.2.2.2.2.2.2⟩
theorem keptAt_9 (k : Nat) {a0 a1 a2 a3 a4 a5 a6 a7 a8 : Addr} {v0 v1 v2 v3 v4 v5 v6 v7 v8 : Value} (hc : Chg (fun j => j = k) w w') (n : a0.block ≠ k ∧ a1.block ≠ k ∧ a2.block ≠ k ∧ a3.block ≠ k ∧ a4.block ≠ k ∧ a5.block ≠ k ∧ a6.block ≠ k ∧ a7.block ≠ k ∧ a8.block ≠ k) (h : w.cell? a0 = some v0 ∧ w.cell? a1 = some v1 ∧ w.cell? a2 = some v2 ∧ w.cell? a3 = some v3 ∧ w.cell? a4 = some v4 ∧ w.cell? a5 = some v5 ∧ w.cell? a6 = some v6 ∧ w.cell? a7 = some v7 ∧ w.cell? a8 = some v8) : w'.cell? a0 = some v0 ∧ w'.cell? a1 = some v1 ∧ w'.cell? a2 = some v2 ∧ w'.cell? a3 = some v3 ∧ w'.cell? a4 = some v4 ∧ w'.cell? a5 = some v5 ∧ w'.cell? a6 = some v6 ∧ w'.cell? a7 = some v7 ∧ w'.cell? a8 = some v8 := ⟨hc.cell h.1 n.1, hc.cell h.2.1 n.2.1, hc.cell h.2.2.1 n.2.2.1, hc.cell h.2.2.2.1 n.2.2.2.1, hc.cell h.2.2.2.2.1 n.2.2.2.2.1, hc.cell h.2.2.2.2.2.1 n.2.2.2.2.2.1, hc.cell h.2.2.2.2.2.2.1 n.2.2.2.2.2.2.1, hc.cell h.2.2.2.2.2.2.2.1 n.2.2.2.2.2.2.2.1, hc.cell h.2.2.2.2.2.2.2.2 n.2.2.2.2.2.2.2.2⟩
theorem keptAt_10 (k : Nat) {a0 a1 a2 a3 a4 a5 a6 a7 a8 a9 : Addr} {v0 v1 v2 v3 v4 v5 v6 v7 v8 v9 : Value} (hc : Chg (fun j => j = k) w w') (n : a0.block ≠ k ∧ a1.block ≠ k ∧ a2.block ≠ k ∧ a3.block ≠ k ∧ a4.block ≠ k ∧ a5.block ≠ k ∧ a6.block ≠ k ∧ a7.block ≠ k ∧ a8.block ≠ k ∧ a9.block ≠ k) (h : w.cell? a0 = some v0 ∧ w.cell? a1 = some v1 ∧ w.cell? a2 = some v2 ∧ w.cell? a3 = some v3 ∧ w.cell? a4 = some v4 ∧ w.cell? a5 = some v5 ∧ w.cell? a6 = some v6 ∧ w.cell? a7 = some v7 ∧ w.cell? a8 = some v8 ∧ w.cell? a9 = some v9) : w'.cell? a0 = some v0 ∧ w'.cell? a1 = some v1 ∧ w'.cell? a2 = some v2 ∧ w'.cell? a3 = some v3 ∧ w'.cell? a4 = some v4 ∧ w'.cell? a5 = some v5 ∧ w'.cell? a6 = some v6 ∧ w'.cell? a7 = some v7 ∧ w'.cell? a8 = some v8 ∧ w'.cell? a9 = some v9 := ⟨hc.cell h.1 n.1, hc.cell h.2.1 n.2.1, hc.cell h.2.2.1 n.2.2.1, hc.cell h.2.2.2.1 n.2.2.2.1, hc.cell h.2.2.2.2.1 n.2.2.2.2.1, hc.cell h.2.2.2.2.2.1 n.2.2.2.2.2.1, hc.cell h.2.2.2.2.2.2.1 n.2.2.2.2.2.2.1, hc.cell h.2.2.2.2.2.2.2.1 n.2.2.2.2.2.2.2.1, hc.cell h.2.2.2.2.2.2.2.2.1 n.2.2.2.2.2.2.2.2.1, hc.cell h.2.2.2.2.2.2.2.2.2 n.2.2.2.2.2.2.2.2.2⟩
theorem keptAt_11 (k : Nat) {a0 a1 a2 a3 a4 a5 a6 a7 a8 a9 a10 : Addr} {v0 v1 v2 v3 v4 v5 v6 v7 v8 v9 v10 : Value} (hc : Chg (fun j => j = k) w w') (n : a0.block ≠ k ∧ a1.block ≠ k ∧ a2.block ≠ k ∧ a3.block ≠ k ∧ a4.block ≠ k ∧ a5.block ≠ k ∧ a6.block ≠ k ∧ a7.block ≠ k ∧ a8.block ≠ k ∧ a9.block ≠ k ∧ a10.block ≠ k) (h : w.cell? a0 = some v0 ∧ w.cell? a1 = some v1 ∧ w.cell? a2 = some v2 ∧ w.cell? a3 = some v3 ∧ w.cell? a4 = some v4 ∧ w.cell? a5 = some v5 ∧ w.cell? a6 = some v6 ∧ w.cell? a7 = some v7 ∧ w.cell? a8 = some v8 ∧ w.cell? a9 = some v9 ∧ w.cell? a10 = some v10) : w'.cell? a0 = some v0 ∧ w'.cell? a1 = some v1 ∧ w'.cell? a2 = some v2 ∧ w'.cell? a3 = some v3 ∧ w'.cell? a4 = some v4 ∧ w'.cell? a5 = some v5 ∧ w'.cell? a6 = some v6 ∧ w'.cell? a7 = some v7 ∧ w'.cell? a8 = some v8 ∧ w'.cell? a9 = some v9 ∧ w'.cell? a10 = some v10 := ⟨hc.cell h.1 n.1, hc.cell h.2.1 n.2.1, hc.cell h.2.2.1 n.2.2.1, hc.cell h.2.2.2.1 n.2.2.2.1, hc.cell h.2.2.2.2.1 n.2.2.2.2.1, hc.cell h.2.2.2.2.2.1 n.2.2.2.2.2.1, hc.cell h.2.2.2.2.2.2.1 n.2.2.2.2.2.2.1, hc.cell h.2.2.2.2.2.2.2.1 n.2.2.2.2.2.2.2.1, hc.cell h.2.2.2.2.2.2.2.2.1 n.2.2.2.2.2.2.2.2.1, hc.cell h.2.2.2.2.2.2.2.2.2.1 n.2.2.2.2.2.2.2.2.2.1, hc.cell h.2.2.2.2.2.2.2.2.2.2 n.2.2.2.2.2.2.2.2.2.2⟩
theorem keptAt_12 (k : Nat) {a0 a1 a2 a3 a4 a5 a6 a7 a8 a9 a10 a11 : Addr} {v0 v1 v2 v3 v4 v5 v6 v7 v8 v9 v10 v11 : Value} (hc : Chg (fun j => j = k) w w') (n : a0.block ≠ k ∧ a1.block ≠ k ∧ a2.block ≠ k ∧ a3.block ≠ k ∧ a4.block ≠ k ∧ a5.block ≠ k ∧ a6.block ≠ k ∧ a7.block ≠ k ∧ a8.block ≠ k ∧ a9.block ≠ k ∧ a10.block ≠ k ∧ a11.block ≠ k) (h : w.cell? a0 = some v0 ∧ w.cell? a1 = some v1 ∧ w.cell? a2 = some v2 ∧ w.cell? a3 = some v3 ∧ w.cell? a4 = some v4 ∧ w.cell? a5 = some v5 ∧ w.cell? a6 = some v6 ∧ w.cell? a7 = some v7 ∧ w.cell? a8 = some v8 ∧ w.cell? a9 = some v9 ∧ w.cell? a10 = some v10 ∧ w.cell? a11 = some v11) : w'.cell? a0 = some v0 ∧ w'.cell? a1 = some v1 ∧ w'.cell? a2 = some v2 ∧ w'.cell? a3 = some v3 ∧ w'.cell? a4 = some v4 ∧ w'.cell? a5 = some v5 ∧ w'.cell? a6 = some v6 ∧ w'.cell? a7 = some v7 ∧ w'.cell? a8 = some v8 ∧ w'.cell? a9 = some v9 ∧ w'.cell? a10 = some v10 ∧ w'.cell? a11 = some v11 := ⟨hc.cell h.1 n.1, hc.cell h.2.1 n.2.1, hc.cell h.2.2.1 n.2.2.1, hc.cell h.2.2.2.1 n.2.2.2.1, hc.cell h.2.2.2.2.1 n.2.2.2.2.1, hc.cell h.2.2.2.2.2.1 n.2.2.2.2.2.1, hc.cell h.2.2.2.2.2.2.1 n.2.2.2.2.2.2.1, hc.cell h.2.2.2.2.2.2.2.1 n.2.2.2.2.2.2.2.1, hc.cell h.2.2.2.2.2.2.2.2.1 n.2.2.2.2.2.2.2.2.1, hc.cell h.2.2.2.2.2.2.2.2.2.1 n.2.2.2.2.2.2.2.2.2.1, hc.cell h.2.2.2.2.2.2.2.2.2.2.1 n.2.2.2.2.2.2.2.2.2.2.1, hc.cell h.2.2.2.2.2.2.2.2.2.2.2 n.2.2.2.2.2.2.2.2.2.2.2⟩
theorem keptAt_13 (k : Nat) {a0 a1 a2 a3 a4 a5 a6 a7 a8 a9 a10 a11 a12 : Addr} {v0 v1 v2 v3 v4 v5 v6 v7 v8 v9 v10 v11 v12 : Value} (hc : Chg (fun j => j = k) w w') (n : a0.block ≠ k ∧ a1.block ≠ k ∧ a2.block ≠ k ∧ a3.block ≠ k ∧ a4.block ≠ k ∧ a5.block ≠ k ∧ a6.block ≠ k ∧ a7.block ≠ k ∧ a8.block ≠ k ∧ a9.block ≠ k ∧ a10.block ≠ k ∧ a11.block ≠ k ∧ a12.block ≠ k) (h : w.cell? a0 = some v0 ∧ w.cell? a1 = some v1 ∧ w.cell? a2 = some v2 ∧ w.cell? a3 = some v3 ∧ w.cell? a4 = some v4 ∧ w.cell? a5 = some v5 ∧ w.cell? a6 = some v6 ∧ w.cell? a7 = some v7 ∧ w.cell? a8 = some v8 ∧ w.cell? a9 = some v9 ∧ w.cell? a10 = some v10 ∧ w.cell? a11 = some v11 ∧ w.cell? a12 = some v12) : w'.cell? a0 = some v0 ∧ w'.cell? a1 = some v1 ∧ w'.cell? a2 = some v2 ∧ w'.cell? a3 = some v3 ∧ w'.cell? a4 = some v4 ∧ w'.cell? a5 = some v5 ∧ w'.cell? a6 = some v6 ∧ w'.cell? a7 = some v7 ∧ w'.cell? a8 = some v8 ∧ w'.cell? a9 = some v9 ∧ w'.cell? a10 = some v10 ∧ w'.cell? a11 = some v11 ∧ w'.cell? a12 = some v12 := ⟨hc.cell h.1 n.1, hc.cell h.2.1 n.2.1, hc.cell h.2.2.1 n.2.2.1, hc.cell h.2.2.2.1 n.2.2.2.1, hc.cell h.2.2.2.2.1 n.2.2.2.2.1, hc.cell h.2.2.2.2.2.1 n.2.2.2.2.2.1, hc.cell h.2.2.2.2.2.2.1 n.2.2.2.2.2.2.1, hc.cell h.2.2.2.2.2.2.2.1 n.2.2.2.2.2.2.2.1, hc.cell h.2.2.2.2.2.2.2.2.1 n.2.2.2.2.2.2.2.2.1, hc.cell h.2.2.2.2.2.2.2.2.2.1 n.2.2.2.2.2.2.2.2.2.1, hc.cell h.2.2.2.2.2.2.2.2.2.2.1 n.2.2.2.2.2.2.2.2.2.2.1, hc.cell h.2.2.2.2.2.2.2.2.2.2.2.1 n.2.2.2.2.2.2.2.2.2.2.2.1, hc.cell h.2.2.2.2.2.2.2.2.2.2.2.2 n.2.2.2.2.2.2.2.2.2.2.2.2⟩
theorem keptAt_14 (k : Nat) {a0 a1 a2 a3 a4 a5 a6 a7 a8 a9 a10 a11 a12 a13 : Addr} {v0 v1 v2 v3 v4 v5 v6 v7 v8 v9 v10 v11 v12 v13 : Value} (hc : Chg (fun j => j = k) w w') (n : a0.block ≠ k ∧ a1.block ≠ k ∧ a2.block ≠ k ∧ a3.block ≠ k ∧ a4.block ≠ k ∧ a5.block ≠ k ∧ a6.block ≠ k ∧ a7.block ≠ k ∧ a8.block ≠ k ∧ a9.block ≠ k ∧ a10.block ≠ k ∧ a11.block ≠ k ∧ a12.block ≠ k ∧ a13.block ≠ k) (h : w.cell? a0 = some v0 ∧ w.cell? a1 = some v1 ∧ w.cell? a2 = some v2 ∧ w.cell? a3 = some v3 ∧ w.cell? a4 = some v4 ∧ w.cell? a5 = some v5 ∧ w.cell? a6 = some v6 ∧ w.cell? a7 = some v7 ∧ w.cell? a8 = some v8 ∧ w.cell? a9 = some v9 ∧ w.cell? a10 = some v10 ∧ w.cell? a11 = some v11 ∧ w.cell? a12 = some v12 ∧ w.cell? a13 = some v13) : w'.cell? a0 = some v0 ∧ w'.cell? a1 = some v1 ∧ w'.cell? a2 = some v2 ∧ w'.cell? a3 = some v3 ∧ w'.cell? a4 = some v4 ∧ w'.cell? a5 = some v5 ∧ w'.cell? a6 = some v6 ∧ w'.cell? a7 = some v7 ∧ w'.cell? a8 = some v8 ∧ w'.cell? a9 = some v9 ∧ w'.cell? a10 = some v10 ∧ w'.cell? a11 = some v11 ∧ w'.cell? a12 = some v12 ∧ w'.cell? a13 = some v13 := ⟨hc.cell h.1 n.1, hc.cell h.2.1 n.2.1, hc.cell h.2.2.1 n.2.2.1, hc.cell h.2.2.2.1 n.2.2.2.1, hc.cell h.2.2.2.2.1 n.2.2.2.2.1, hc.cell h.2.2.2.2.2.1 n.2.2.2.2.2.1, hc.cell h.2.2.2.2.2.2.1 n.2.2.2.2.2.2.1, hc.cell h.2.2.2.2.2.2.2.1 n.2.2.2.2.2.2.2.1, hc.cell h.2.2.2.2.2.2.2.2.1 n.2.2.2.2.2.2.2.2.1, hc.cell h.2.2.2.2.2.2.2.2.2.1 n.2.2.2.2.2.2.2.2.2.1, hc.cell h.2.2.2.2.2.2.2.2.2.2.1 n.2.2.2.2.2.2.2.2.2.2.1, hc.cell h.2.2.2.2.2.2.2.2.2.2.2.1 n.2.2.2.2.2.2.2.2.2.2.2.1, hc.cell h.2.2.2.2.2.2.2.2.2.2.2.2.1 n.2.2.2.2.2.2.2.2.2.2.2.2.1, hc.cell h.2.2.2.2.2.2.2.2.2.2.2.2.2 n.2.2.2.2.2.2.2.2.2.2.2.2.2⟩
theorem keptAt_15 (k : Nat) {a0 a1 a2 a3 a4 a5 a6 a7 a8 a9 a10 a11 a12 a13 a14 : Addr} {v0 v1 v2 v3 v4 v5 v6 v7 v8 v9 v10 v11 v12 v13 v14 : Value} (hc : Chg (fun j => j = k) w w') (n : a0.block ≠ k ∧ a1.block ≠ k ∧ a2.block ≠ k ∧ a3.block ≠ k ∧ a4.block ≠ k ∧ a5.block ≠ k ∧ a6.block ≠ k ∧ a7.block ≠ k ∧ a8.block ≠ k ∧ a9.block ≠ k ∧ a10.block ≠ k ∧ a11.block ≠ k ∧ a12.block ≠ k ∧ a13.block ≠ k ∧ a14.block ≠ k) (h : w.cell? a0 = some v0 ∧ w.cell? a1 = some v1 ∧ w.cell? a2 = some v2 ∧ w.cell? a3 = some v3 ∧ w.cell? a4 = some v4 ∧ w.cell? a5 = some v5 ∧ w.cell? a6 = some v6 ∧ w.cell? a7 = some v7 ∧ w.cell? a8 = some v8 ∧ w.cell? a9 = some v9 ∧ w.cell? a10 = some v10 ∧ w.cell? a11 = some v11 ∧ w.cell? a12 = some v12 ∧ w.cell? a13 = some v13 ∧ w.cell? a14 = some v14) : w'.cell? a0 = some v0 ∧ w'.cell? a1 = some v1 ∧ w'.cell? a2 = some v2 ∧ w'.cell? a3 = some v3 ∧ w'.cell? a4 = some v4 ∧ w'.cell? a5 = some v5 ∧ w'.cell? a6 = some v6 ∧ w'.cell? a7 = some v7 ∧ w'.cell? a8 = some v8 ∧ w'.cell? a9 = some v9 ∧ w'.cell? a10 = some v10 ∧ w'.cell? a11 = some v11 ∧ w'.cell? a12 = some v12 ∧ w'.cell? a13 = some v13 ∧ w'.cell? a14 = some v14 := ⟨hc.cell h.1 n.1, hc.cell h.2.1 n.2.1, hc.cell h.2.2.1 n.2.2.1, hc.cell h.2.2.2.1 n.2.2.2.1, hc.cell h.2.2.2.2.1 n.2.2.2.2.1, hc.cell h.2.2.2.2.2.1 n.2.2.2.2.2.1, hc.cell h.2.2.2.2.2.2.1 n.2.2.2.2.2.2.1, hc.cell h.2.2.2.2.2.2.2.1 n.2.2.2.2.2.2.2.1, hc.cell h.2.2.2.2.2.2.2.2.1 n.2.2.2.2.2.2.2.2.1, hc.cell h.2.2.2.2.2.2.2.2.2.1 n.2.2.2.2.2.2.2.2.2.1, hc.cell h.2.2.2.2.2.2.2.2.2.2.1 n.2.2.2.2.2.2.2.2.2.2.1, hc.cell h.2.2.2.2.2.2.2.2.2.2.2.1 n.2.2.2.2.2.2.2.2.2.2.2.1, hc.cell h.2.2.2.2.2.2.2.2.2.2.2.2.1 n.2.2.2.2.2.2.2.2.2.2.2.2.1, hc.cell h.2.2.2.2.2.2.2.2.2.2.2.2.2.1 n.2.2.2.2.2.2.2.2.2.2.2.2.2.1, hc.cell h.2.2.2.2.2.2.2.2.2.2.2.2.2.2 n.2.2.2.2.2.2.2.2.2.2.2.2.2.2⟩
theorem keptAt_16 (k : Nat) {a0 a1 a2 a3 a4 a5 a6 a7 a8 a9 a10 a11 a12 a13 a14 a15 : Addr} {v0 v1 v2 v3 v4 v5 v6 v7 v8 v9 v10 v11 v12 v13 v14 v15 : Value} (hc : Chg (fun j => j = k) w w') (n : a0.block ≠ k ∧ a1.block ≠ k ∧ a2.block ≠ k ∧ a3.block ≠ k ∧ a4.block ≠ k ∧ a5.block ≠ k ∧ a6.block ≠ k ∧ a7.block ≠ k ∧ a8.block ≠ k ∧ a9.block ≠ k ∧ a10.block ≠ k ∧ a11.block ≠ k ∧ a12.block ≠ k ∧ a13.block ≠ k ∧ a14.block ≠ k ∧ a15.block ≠ k) (h : w.cell? a0 = some v0 ∧ w.cell? a1 = some v1 ∧ w.cell? a2 = some v2 ∧ w.cell? a3 = some v3 ∧ w.cell? a4 = some v4 ∧ w.cell? a5 = some v5 ∧ w.cell? a6 = some v6 ∧ w.cell? a7 = some v7 ∧ w.cell? a8 = some v8 ∧ w.cell? a9 = some v9 ∧ w.cell? a10 = some v10 ∧ w.cell? a11 = some v11 ∧ w.cell? a12 = some v12 ∧ w.cell? a13 = some v13 ∧ w.cell? a14 = some v14 ∧ w.cell? a15 = some v15) : w'.cell? a0 = some v0 ∧ w'.cell? a1 = some v1 ∧ w'.cell? a2 = some v2 ∧ w'.cell? a3 = some v3 ∧ w'.cell? a4 = some v4 ∧ w'.cell? a5 = some v5 ∧ w'.cell? a6 = some v6 ∧ w'.cell? a7 = some v7 ∧ w'.cell? a8 = some v8 ∧ w'.cell? a9 = some v9 ∧ w'.cell? a10 = some v10 ∧ w'.cell? a11 = some v11 ∧ w'.cell? a12 = some v12 ∧ w'.cell? a13 = some v13 ∧ w'.cell? a14 = some v14 ∧ w'.cell? a15 = some v15 := ⟨hc.cell h.1 n.1, hc.cell h.2.1 n.2.1, hc.cell h.2.2.1 n.2.2.1, hc.cell h.2.2.2.1 n.2.2.2.1, hc.cell h.2.2.2.2.1 n.2.2.2.2.1, hc.cell h.2.2.2.2.2.1 n.2.2.2.2.2.1, hc.cell h.2.2.2.2.2.2.1 n.2.2.2.2.2.2.1, hc.cell h.2.2.2.2.2.2.2.1 n.2.2.2.2.2.2.2.1, hc.cell h.2.2.2.2.2.2.2.2.1 n.2.2.2.2.2.2.2.2.1, hc.cell h.2.2.2.2.2.2.2.2.2.1 n.2.2.2.2.2.2.2.2.2.1, hc.cell h.2.2.2.2.2.2.2.2.2.2.1 n.2.2.2.2.2.2.2.2.2.2.1, hc.cell h.2.2.2.2.2.2.2.2.2.2.2.1 n.2.2.2.2.2.2.2.2.2.2.2.1, hc.cell h.2.2.2.2.2.2.2.2.2.2.2.2.1 n.2.2.2.2.2.2.2.2.2.2.2.2.1, hc.cell h.2.2.2.2.2.2.2.2.2.2.2.2.2.1 n.2.2.2.2.2.2.2.2.2.2.2.2.2.1, hc.cell h.2.2.2.2.2.2.2.2.2.2.2.2.2.2.1 n.2.2.2.2.2.2.2.2.2.2.2.2.2.2.1, hc.cell h.2.2.2.2.2.2.2.2.2.2.2.2.2.2.2 n.2.2.2.2.2.2.2.2.2.2.2.2.2.2.2⟩
theorem keptAt_17 (k : Nat) {a0 a1 a2 a3 a4 a5 a6 a7 a8 a9 a10 a11 a12 a13 a14 a15 a16 : Addr} {v0 v1 v2 v3 v4 v5 v6 v7 v8 v9 v10 v11 v12 v13 v14 v15 v16 : Value} (hc : Chg (fun j => j = k) w w') (n : a0.block ≠ k ∧ a1.block ≠ k ∧ a2.block ≠ k ∧ a3.block ≠ k ∧ a4.block ≠ k ∧ a5.block ≠ k ∧ a6.block ≠ k ∧ a7.block ≠ k ∧ a8.block ≠ k ∧ a9.block ≠ k ∧ a10.block ≠ k ∧ a11.block ≠ k ∧ a12.block ≠ k ∧ a13.block ≠ k ∧ a14.block ≠ k ∧ a15.block ≠ k ∧ a16.block ≠ k) (h : w.cell? a0 = some v0 ∧ w.cell? a1 = some v1 ∧ w.cell? a2 = some v2 ∧ w.cell? a3 = some v3 ∧ w.cell? a4 = some v4 ∧ w.cell? a5 = some v5 ∧ w.cell? a6 = some v6 ∧ w.cell? a7 = some v7 ∧ w.cell? a8 = some v8 ∧ w.cell? a9 = some v9 ∧ w.cell? a10 = some v10 ∧ w.cell? a11 = some v11 ∧ w.cell? a12 = some v12 ∧ w.cell? a13 = some v13 ∧ w.cell? a14 = some v14 ∧ w.cell? a15 = some v15 ∧ w.cell? a16 = some v16) : w'.cell? a0 = some v0 ∧ w'.cell? a1 = some v1 ∧ w'.cell? a2 = some v2 ∧ w'.cell? a3 = some v3 ∧ w'.cell? a4 = some v4 ∧ w'.cell? a5 = some v5 ∧ w'.cell? a6 = some v6 ∧ w'.cell? a7 = some v7 ∧ w'.cell? a8 = some v8 ∧ w'.cell? a9 = some v9 ∧ w'.cell? a10 = some v10 ∧ w'.cell? a11 = some v11 ∧ w'.cell? a12 = some v12 ∧ w'.cell? a13 = some v13 ∧ w'.cell? a14 = some v14 ∧ w'.cell? a15 = some v15 ∧ w'.cell? a16 = some v16 := ⟨hc.cell h.1 n.1, hc.cell h.2.1 n.2.1, hc.cell h.2.2.1 n.2.2.1, hc.cell h.2.2.2.1 n.2.2.2.1, hc.cell h.2.2.2.2.1 n.2.2.2.2.1, hc.cell h.2.2.2.2.2.1 n.2.2.2.2.2.1, hc.cell h.2.2.2.2.2.2.1 n.2.2.2.2.2.2.1, hc.cell h.2.2.2.2.2.2.2.1 n.2.2.2.2.2.2.2.1, hc.cell h.2.2.2.2.2.2.2.2.1 n.2.2.2.2.2.2.2.2.1, hc.cell h.2.2.2.2.2.2.2.2.2.1 n.2.2.2.2.2.2.2.2.2.1, hc.cell h.2.2.2.2.2.2.2.2.2.2.1 n.2.2.2.2.2.2.2.2.2.2.1, hc.cell h.2.2.2.2.2.2.2.2.2.2.2.1 n.2.2.2.2.2.2.2.2.2.2.2.1, hc.cell h.2.2.2.2.2.2.2.2.2.2.2.2.1 n.2.2.2.2.2.2.2.2.2.2.2.2.1, hc.cell h.2.2.2.2.2.2.2.2.2.2.2.2.2.1 n.2.2.2.2.2.2.2.2.2.2.2.2.2.1, hc.cell h.2.2.2.2.2.2.2.2.2.2.2.2.2.2.1 n.2.2.2.2.2.2.2.2.2.2.2.2.2.2.1, hc.cell h.2.2.2.2.2.2.2.2.2.2.2.2.2.2.2.1 n.2.2.2.2.2.2.2.2.2.2.2.2.2.2.2.1, hc.cell h.2.2.2.2.2.2.2.2.2.2.2.2.2.2.2.2 n.2.2.2.2.2.2.2.2.2.2.2.2.2.2.2.2⟩
theorem keptAt_18 (k : Nat) {a0 a1 a2 a3 a4 a5 a6 a7 a8 a9 a10 a11 a12 a13 a14 a15 a16 a17 : Addr} {v0 v1 v2 v3 v4 v5 v6 v7 v8 v9 v10 v11 v12 v13 v14 v15 v16 v17 : Value} (hc : Chg (fun j => j = k) w w') (n : a0.block ≠ k ∧ a1.block ≠ k ∧ a2.block ≠ k ∧ a3.block ≠ k ∧ a4.block ≠ k ∧ a5.block ≠ k ∧ a6.block ≠ k ∧ a7.block ≠ k ∧ a8.block ≠ k ∧ a9.block ≠ k ∧ a10.block ≠ k ∧ a11.block ≠ k ∧ a12.block ≠ k ∧ a13.block ≠ k ∧ a14.block ≠ k ∧ a15.block ≠ k ∧ a16.block ≠ k ∧ a17.block ≠ k) (h : w.cell? a0 = some v0 ∧ w.cell? a1 = some v1 ∧ w.cell? a2 = some v2 ∧ w.cell? a3 = some v3 ∧ w.cell? a4 = some v4 ∧ w.cell? a5 = some v5 ∧ w.cell? a6 = some v6 ∧ w.cell? a7 = some v7 ∧ w.cell? a8 = some v8 ∧ w.cell? a9 = some v9 ∧ w.cell? a10 = some v10 ∧ w.cell? a11 = some v11 ∧ w.cell? a12 = some v12 ∧ w.cell? a13 = some v13 ∧ w.cell? a14 = some v14 ∧ w.cell? a15 = some v15 ∧ w.cell? a16 = some v16 ∧ w.cell? a17 = some v17) : w'.cell? a0 = some v0 ∧ w'.cell? a1 = some v1 ∧ w'.cell? a2 = some v2 ∧ w'.cell? a3 = some v3 ∧ w'.cell? a4 = some v4 ∧ w'.cell? a5 = some v5 ∧ w'.cell? a6 = some v6 ∧ w'.cell? a7 = some v7 ∧ w'.cell? a8 = some v8 ∧ w'.cell? a9 = some v9 ∧ w'.cell? a10 = some v10 ∧ w'.cell? a11 = some v11 ∧ w'.cell? a12 = some v12 ∧ w'.cell? a13 = some v13 ∧ w'.cell? a14 = some v14 ∧ w'.cell? a15 = some v15 ∧ w'.cell? a16 = some v16 ∧ w'.cell? a17 = some v17 := ⟨hc.cell h.1 n.1, hc.cell h.2.1 n.2.1, hc.cell h.2.2.1 n.2.2.1, hc.cell h.2.2.2.1 n.2.2.2.1, hc.cell h.2.2.2.2.1 n.2.2.2.2.1, hc.cell h.2.2.2.2.2.1 n.2.2.2.2.2.1, hc.cell h.2.2.2.2.2.2.1 n.2.2.2.2.2.2.1, hc.cell h.2.2.2.2.2.2.2.1 n.2.2.2.2.2.2.2.1, hc.cell h.2.2.2.2.2.2.2.2.1 n.2.2.2.2.2.2.2.2.1, hc.cell h.2.2.2.2.2.2.2.2.2.1 n.2.2.2.2.2.2.2.2.2.1, hc.cell h.2.2.2.2.2.2.2.2.2.2.1 n.2.2.2.2.2.2.2.2.2.2.1, hc.cell h.2.2.2.2.2.2.2.2.2.2.2.1 n.2.2.2.2.2.2.2.2.2.2.2.1, hc.cell h.2.2.2.2.2.2.2.2.2.2.2.2.1 n.2.2.2.2.2.2.2.2.2.2.2.2.1, hc.cell h.2.2.2.2.2.2.2.2.2.2.2.2.2.1 n.2.2.2.2.2.2.2.2.2.2.2.2.2.1, hc.cell h.2.2.2.2.2.2.2.2.2.2.2.2.2.2.1 n.2.2.2.2.2.2.2.2.2.2.2.2.2.2.1, hc.cell h.2.2.2.2.2.2.2.2.2.2.2.2.2.2.2.1 n.2.2.2.2.2.2.2.2.2.2.2.2.2.2.2.1, hc.cell h.2.2.2.2.2.2.2.2.2.2.2.2.2.2.2.2.1 n.2.2.2.2.2.2.2.2.2.2.2.2.2.2.2.2.1, hc.cell h.2.2.2.2.2.2.2.2.2.2.2.2.2.2.2.2.2 n.2.2.2.2.2.2.2.2.2.2.2.2.2.2.2.2.2⟩
theorem keptAt_19 (k : Nat) {a0 a1 a2 a3 a4 a5 a6 a7 a8 a9 a10 a11 a12 a13 a14 a15 a16 a17 a18 : Addr} {v0 v1 v2 v3 v4 v5 v6 v7 v8 v9 v10 v11 v12 v13 v14 v15 v16 v17 v18 : Value} (hc : Chg (fun j => j = k) w w') (n : a0.block ≠ k ∧ a1.block ≠ k ∧ a2.block ≠ k ∧ a3.block ≠ k ∧ a4.block ≠ k ∧ a5.block ≠ k ∧ a6.block ≠ k ∧ a7.block ≠ k ∧ a8.block ≠ k ∧ a9.block ≠ k ∧ a10.block ≠ k ∧ a11.block ≠ k ∧ a12.block ≠ k ∧ a13.block ≠ k ∧ a14.block ≠ k ∧ a15.block ≠ k ∧ a16.block ≠ k ∧ a17.block ≠ k ∧ a18.block ≠ k) (h : w.cell? a0 = some v0 ∧ w.cell? a1 = some v1 ∧ w.cell? a2 = some v2 ∧ w.cell? a3 = some v3 ∧ w.cell? a4 = some v4 ∧ w.cell? a5 = some v5 ∧ w.cell? a6 = some v6 ∧ w.cell? a7 = some v7 ∧ w.cell? a8 = some v8 ∧ w.cell? a9 = some v9 ∧ w.cell? a10 = some v10 ∧ w.cell? a11 = some v11 ∧ w.cell? a12 = some v12 ∧ w.cell? a13 = some v13 ∧ w.cell? a14 = some v14 ∧ w.cell? a15 = some v15 ∧ w.cell? a16 = some v16 ∧ w.cell? a17 = some v17 ∧ w.cell? a18 = some v18) : w'.cell? a0 = some v0 ∧ w'.cell? a1 = some v1 ∧ w'.cell? a2 = some v2 ∧ w'.cell? a3 = some v3 ∧ w'.cell? a4 = some v4 ∧ w'.cell? a5 = some v5 ∧ w'.cell? a6 = some v6 ∧ w'.cell? a7 = some v7 ∧ w'.cell? a8 = some v8 ∧ w'.cell? a9 = some v9 ∧ w'.cell? a10 = some v10 ∧ w'.cell? a11 = some v11 ∧ w'.cell? a12 = some v12 ∧ w'.cell? a13 = some v13 ∧ w'.cell? a14 = some v14 ∧ w'.cell? a15 = some v15 ∧ w'.cell? a16 = some v16 ∧ w'.cell? a17 = some v17 ∧ w'.cell? a18 = some v18 := ⟨hc.cell h.1 n.1, hc.cell h.2.1 n.2.1, hc.cell h.2.2.1 n.2.2.1, hc.cell h.2.2.2.1 n.2.2.2.1, hc.cell h.2.2.2.2.1 n.2.2.2.2.1, hc.cell h.2.2.2.2.2.1 n.2.2.2.2.2.1, hc.cell h.2.2.2.2.2.2.1 n.2.2.2.2.2.2.1, hc.cell h.2.2.2.2.2.2.2.1 n.2.2.2.2.2.2.2.1, hc.cell h.2.2.2.2.2.2.2.2.1 n.2.2.2.2.2.2.2.2.1, hc.cell h.2.2.2.2.2.2.2.2.2.1 n.2.2.2.2.2.2.2.2.2.1, hc.cell h.2.2.2.2.2.2.2.2.2.2.1 n.2.2.2.2.2.2.2.2.2.2.1, hc.cell h.2.2.2.2.2.2.2.2.2.2.2.1 n.2.2.2.2.2.2.2.2.2.2.2.1, hc.cell h.2.2.2.2.2.2.2.2.2.2.2.2.1 n.2.2.2.2.2.2.2.2.2.2.2.2.1, hc.cell h.2.2.2.2.2.2.2.2.2.2.2.2.2.1 n.2.2.2.2.2.2.2.2.2.2.2.2.2.1, hc.cell h.2.2.2.2.2.2.2.2.2.2.2.2.2.2.1 n.2.2.2.2.2.2.2.2.2.2.2.2.2.2.1, hc.cell h.2.2.2.2.2.2.2.2.2.2.2.2.2.2.2.1 n.2.2.2.2.2.2.2.2.2.2.2.2.2.2.2.1, hc.cell h.2.2.2.2.2.2.2.2.2.2.2.2.2.2.2.2.1 n.2.2.2.2.2.2.2.2.2.2.2.2.2.2.2.2.1, hc.cell h.2.2.2.2.2.2.2.2.2.2.2.2.2.2.2.2.2.1 n.2.2.2.2.2.2.2.2.2.2.2.2.2.2.2.2.2.1, hc.cell h.2.2.2.2.2.2.2.2.2.2.2.2.2.2.2.2.2.2 n.2.2.2.2.2.2.2.2.2.2.2.2.2.2.2.2.2.2⟩
theorem keptAt_20 (k : Nat) {a0 a1 a2 a3 a4 a5 a6 a7 a8 a9 a10 a11 a12 a13 a14 a15 a16 a17 a18 a19 : Addr} {v0 v1 v2 v3 v4 v5 v6 v7 v8 v9 v10 v11 v12 v13 v14 v15 v16 v17 v18 v19 : Value} (hc : Chg (fun j => j = k) w w') (n : a0.block ≠ k ∧ a1.block ≠ k ∧ a2.block ≠ k ∧ a3.block ≠ k ∧ a4.block ≠ k ∧ a5.block ≠ k ∧ a6.block ≠ k ∧ a7.block ≠ k ∧ a8.block ≠ k ∧ a9.block ≠ k ∧ a10.block ≠ k ∧ a11.block ≠ k ∧ a12.block ≠ k ∧ a13.block ≠ k ∧ a14.block ≠ k ∧ a15.block ≠ k ∧ a16.block ≠ k ∧ a17.block ≠ k ∧ a18.block ≠ k ∧ a19.block ≠ k) (h : w.cell? a0 = some v0 ∧ w.cell? a1 = some v1 ∧ w.cell? a2 = some v2 ∧ w.cell? a3 = some v3 ∧ w.cell? a4 = some v4 ∧ w.cell? a5 = some v5 ∧ w.cell? a6 = some v6 ∧ w.cell? a7 = some v7 ∧ w.cell? a8 = some v8 ∧ w.cell? a9 = some v9 ∧ w.cell? a10 = some v10 ∧ w.cell? a11 = some v11 ∧ w.cell? a12 = some v12 ∧ w.cell? a13 = some v13 ∧ w.cell? a14 = some v14 ∧ w.cell? a15 = some v15 ∧ w.cell? a16 = some v16 ∧ w.cell? a17 = some v17 ∧ w.cell? a18 = some v18 ∧ w.cell? a19 = some v19) : w'.cell? a0 = some v0 ∧ w'.cell? a1 = some v1 ∧ w'.cell? a2 = some v2 ∧ w'.cell? a3 = some v3 ∧ w'.cell? a4 = some v4 ∧ w'.cell? a5 = some v5 ∧ w'.cell? a6 = some v6 ∧ w'.cell? a7 = some v7 ∧ w'.cell? a8 = some v8 ∧ w'.cell? a9 = some v9 ∧ w'.cell? a10 = some v10 ∧ w'.cell? a11 = some v11 ∧ w'.cell? a12 = some v12 ∧ w'.cell? a13 = some v13 ∧ w'.cell? a14 = some v14 ∧ w'.cell? a15 = some v15 ∧ w'.cell? a16 = some v16 ∧ w'.cell? a17 = some v17 ∧ w'.cell? a18 = some v18 ∧ w'.cell? a19 = some v19 := ⟨hc.cell h.1 n.1, hc.cell h.2.1 n.2.1, hc.cell h.2.2.1 n.2.2.1, hc.cell h.2.2.2.1 n.2.2.2.1, hc.cell h.2.2.2.2.1 n.2.2.2.2.1, hc.cell h.2.2.2.2.2.1 n.2.2.2.2.2.1, hc.cell h.2.2.2.2.2.2.1 n.2.2.2.2.2.2.1, hc.cell h.2.2.2.2.2.2.2.1 n.2.2.2.2.2.2.2.1, hc.cell h.2.2.2.2.2.2.2.2.1 n.2.2.2.2.2.2.2.2.1, hc.cell h.2.2.2.2.2.2.2.2.2.1 n.2.2.2.2.2.2.2.2.2.1, hc.cell h.2.2.2.2.2.2.2.2.2.2.1 n.2.2.2.2.2.2.2.2.2.2.1, hc.cell h.2.2.2.2.2.2.2.2.2.2.2.1 n.2.2.2.2.2.2.2.2.2.2.2.1, hc.cell h.2.2.2.2.2.2.2.2.2.2.2.2.1 n.2.2.2.2.2.2.2.2.2.2.2.2.1, hc.cell h.2.2.2.2.2.2.2.2.2.2.2.2.2.1 n.2.2.2.2.2.2.2.2.2.2.2.2.2.1, hc.cell h.2.2.2.2.2.2.2.2.2.2.2.2.2.2.1 n.2.2.2.2.2.2.2.2.2.2.2.2.2.2.1, hc.cell h.2.2.2.2.2.2.2.2.2.2.2.2.2.2.2.1 n.2.2.2.2.2.2.2.2.2.2.2.2.2.2.2.1, hc.cell h.2.2.2.2.2.2.2.2.2.2.2.2.2.2.2.2.1 n.2.2.2.2.2.2.2.2.2.2.2.2.2.2.2.2.1, hc.cell h.2.2.2.2.2.2.2.2.2.2.2.2.2.2.2.2.2.1 n.2.2.2.2.2.2.2.2.2.2.2.2.2.2.2.2.2.1, hc.cell h.2.2.2.2.2.2.2.2.2.2.2.2.2.2.2.2.2.2.1 n.2.2.2.2.2.2.2.2.2.2.2.2.2.2.2.2.2.2.1, hc.cell h.2.2.2.2.2.2.2.2.2.2.2.2.2.2.2.2.2.2.2 n.2.2.2.2.2.2.2.2.2.2.2.2.2.2.2.2.2.2.2⟩
theorem keptAt_21 (k : Nat) {a0 a1 a2 a3 a4 a5 a6 a7 a8 a9 a10 a11 a12 a13 a14 a15 a16 a17 a18 a19 a20 : Addr} {v0 v1 v2 v3 v4 v5 v6 v7 v8 v9 v10 v11 v12 v13 v14 v15 v16 v17 v18 v19 v20 : Value} (hc : Chg (fun j => j = k) w w') (n : a0.block ≠ k ∧ a1.block ≠ k ∧ a2.block ≠ k ∧ a3.block ≠ k ∧ a4.block ≠ k ∧ a5.block ≠ k ∧ a6.block ≠ k ∧ a7.block ≠ k ∧ a8.block ≠ k ∧ a9.block ≠ k ∧ a10.block ≠ k ∧ a11.block ≠ k ∧ a12.block ≠ k ∧ a13.block ≠ k ∧ a14.block ≠ k ∧ a15.block ≠ k ∧ a16.block ≠ k ∧ a17.block ≠ k ∧ a18.block ≠ k ∧ a19.block ≠ k ∧ a20.block ≠ k) (h : w.cell? a0 = some v0 ∧ w.cell? a1 = some v1 ∧ w.cell? a2 = some v2 ∧ w.cell? a3 = some v3 ∧ w.cell? a4 = some v4 ∧ w.cell? a5 = some v5 ∧ w.cell? a6 = some v6 ∧ w.cell? a7 = some v7 ∧ w.cell? a8 = some v8 ∧ w.cell? a9 = some v9 ∧ w.cell? a10 = some v10 ∧ w.cell? a11 = some v11 ∧ w.cell? a12 = some v12 ∧ w.cell? a13 = some v13 ∧ w.cell? a14 = some v14 ∧ w.cell? a15 = some v15 ∧ w.cell? a16 = some v16 ∧ w.cell? a17 = some v17 ∧ w.cell? a18 = some v18 ∧ w.cell? a19 = some v19 ∧ w.cell? a20 = some v20) : w'.cell? a0 = some v0 ∧ w'.cell? a1 = some v1 ∧ w'.cell? a2 = some v2 ∧ w'.cell? a3 = some v3 ∧ w'.cell? a4 = some v4 ∧ w'.cell? a5 = some v5 ∧ w'.cell? a6 = some v6 ∧ w'.cell? a7 = some v7 ∧ w'.cell? a8 = some v8 ∧ w'.cell? a9 = some v9 ∧ w'.cell? a10 = some v10 ∧ w'.cell? a11 = some v11 ∧ w'.cell? a12 = some v12 ∧ w'.cell? a13 = some v13 ∧ w'.cell? a14 = some v14 ∧ w'.cell? a15 = some v15 ∧ w'.cell? a16 = some v16 ∧ w'.cell? a17 = some v17 ∧ w'.cell? a18 = some v18 ∧ w'.cell? a19 = some v19 ∧ w'.cell? a20 = some v20 := ⟨hc.cell h.1 n.1, hc.cell h.2.1 n.2.1, hc.cell h.2.2.1 n.2.2.1, hc.cell h.2.2.2.1 n.2.2.2.1, hc.cell h.2.2.2.2.1 n.2.2.2.2.1, hc.cell h.2.2.2.2.2.1 n.2.2.2.2.2.1, hc.cell h.2.2.2.2.2.2.1 n.2.2.2.2.2.2.1, hc.cell h.2.2.2.2.2.2.2.1 n.2.2.2.2.2.2.2.1, hc.cell h.2.2.2.2.2.2.2.2.1 n.2.2.2.2.2.2.2.2.1, hc.cell h.2.2.2.2.2.2.2.2.2.1 n.2.2.2.2.2.2.2.2.2.1, hc.cell h.2.2.2.2.2.2.2.2.2.2.1 n.2.2.2.2.2.2.2.2.2.2.1, hc.cell h.2.2.2.2.2.2.2.2.2.2.2.1 n.2.2.2.2.2.2.2.2.2.2.2.1, hc.cell h.2.2.2.2.2.2.2.2.2.2.2.2.1 n.2.2.2.2.2.2.2.2.2.2.2.2.1, hc.cell h.2.2.2.2.2.2.2.2.2.2.2.2.2.1 n.2.2.2.2.2.2.2.2.2.2.2.2.2.1, hc.cell h.2.2.2.2.2.2.2.2.2.2.2.2.2.2.1 n.2.2.2.2.2.2.2.2.2.2.2.2.2.2.1, hc.cell h.2.2.2.2.2.2.2.2.2.2.2.2.2.2.2.1 n.2.2.2.2.2.2.2.2.2.2.2.2.2.2.2.1, hc.cell h.2.2.2.2.2.2.2.2.2.2.2.2.2.2.2.2.1 n.2.2.2.2.2.2.2.2.2.2.2.2.2.2.2.2.1, hc.cell h.2.2.2.2.2.2.2.2.2.2.2.2.2.2.2.2.2.1 n.2.2.2.2.2.2.2.2.2.2.2.2.2.2.2.2.2.1, hc.cell h.2.2.2.2.2.2.2.2.2.2.2.2.2.2.2.2.2.2.1 n.2.2.2.2.2.2.2.2.2.2.2.2.2.2.2.2.2.2.1, hc.cell h.2.2.2.2.2.2.2.2.2.2.2.2.2.2.2.2.2.2.2.1 n.2.2.2.2.2.2.2.2.2.2.2.2.2.2.2.2.2.2.2.1, hc.cell h.2.2.2.2.2.2.2.2.2.2.2.2.2.2.2.2.2.2.2.2 n.2.2.2.2.2.2.2.2.2.2.2.2.2.2.2.2.2.2.2.2⟩
end Go.Proofs.YtchlioikkhnidaaGreat

/-
  A region that draws its order, by an invariant: whatever has come up so far, in whatever order.
-/
namespace Go.Proofs.YtchlioikkhnidaaGreat
open Go.RowKit
section
variable {P : Program} {ops : Array Oper} {Q : Exit → Act → World → Prop} {md : Region.Mode} {S : World → Prop}
theorem wpAnyH_inv {J : Nat → Array Bool → Act → World → Prop}
    (h : ∀ f L a w, J f L a w → wpAnyH P md ops Q S f L a w ∨ (∃ f', f = f' + 1 ∧ Region.ready md ops L ≠ [] ∧ ∀ i ∈ Region.ready md ops L, wpOp P ops Q i (fun a' w' => S w' ∧ J f' (L.setIfInBounds i true) a' w') a w)) :
    ∀ f L a w, J f L a w → wpAnyH P md ops Q S f L a w := by
  intro f
  induction f with
  | zero =>
    intro L a w hJ
    rcases h 0 L a w hJ with h1 | ⟨f', hf, _⟩
    · exact h1
    · omega
  | succ f ih =>
    intro L a w hJ
    rcases h (f + 1) L a w hJ with h1 | ⟨f', hf, hne, hall⟩
    · exact h1
    · obtain rfl : f' = f := by omega
      exact ⟨fun h0 => absurd h0 hne, fun i hi => wpOp_mono (fun a' w' h' => ⟨h'.1, ih _ _ _ h'.2⟩) (hall i hi)⟩
/-- The state is named. -/
theorem inv_intro {f : Nat} {L : Array Bool} {a : Act} {w : World} (h : ∀ (T : Array Value) (L0 : Array Bool), T = a.tmps → L0 = L → wpAnyH P md ops Q S f L0 ⟨T, a.defers⟩ w) : wpAnyH P md ops Q S f L a w :=
  h a.tmps L rfl rfl
theorem set_same (T : Array Value) (s : Nat) : T.setIfInBounds s (T.getD s undef) = T := by
  apply Array.ext_getElem?
  intro i
  rw [Array.getElem?_setIfInBounds]
  split
  · rename_i e
    subst e
    split
    · rename_i h; simp [Array.getD, h]
    · rename_i h; exact (Array.getElem?_eq_none (xs := T) (by omega)).symm
  · rfl
theorem setB_same (T : Array Bool) (s : Nat) (h : T.getD s true = false) : T.setIfInBounds s false = T := by
  apply Array.ext_getElem?
  intro i
  rw [Array.getElem?_setIfInBounds]
  split
  · rename_i e
    subst e
    split
    · rename_i h2; simp [Array.getD, h2] at h; simp [h2, h]
    · rename_i h2; exact (Array.getElem?_eq_none (xs := T) (by omega)).symm
  · rfl
theorem ne_nil_of {l : List Nat} (h : l.isEmpty = false) : l ≠ [] := fun e => by rw [e] at h; cases h
theorem mem_all {l : List Nat} {p : Nat → Bool} (h : l.all p = true) {i : Nat} (hi : i ∈ l) : p i = true := List.all_eq_true.1 h i hi
/-- One operation of a region, run where it may come up. -/
theorem run_at {i : Nat} {a : Act} {w : World} {K : Act → World → Prop} (hs : (ops[i]?).isSome = true)
    (h : ∀ o, ops[i]? = some o → ∀ K' : Act → World → Prop, Shut (∀ a w, K a w → K' a w) → if Region.wanted o (yielded ops a.tmps) = true then Oper.wp P o a w K' Q else K' (a.put o.dst undef) w) : wpOp P ops Q i K a w := by
  obtain ⟨o, ho⟩ := Option.isSome_iff_exists.1 hs
  exact wpOp_step ho fun K' hK => h o ho K' fun a w hk => hK a w hk
/-- One that alone may come up. -/
theorem one_at (i : Nat) {f : Nat} {L : Array Bool} {a : Act} {w : World} (hr : Region.ready md ops L = [i]) (hs : (ops[i]?).isSome = true)
    (h : ∀ o, ops[i]? = some o → ∀ K' : Act → World → Prop, Shut (∀ a w, S w → (S w → wpAnyH P md ops Q S f (L.setIfInBounds i true) a w) → K' a w) → if Region.wanted o (yielded ops a.tmps) = true then Oper.wp P o a w K' Q else K' (a.put o.dst undef) w) : wpAnyH P md ops Q S (f + 1) L a w := by
  obtain ⟨o, ho⟩ := Option.isSome_iff_exists.1 hs
  exact wpAnyH_ready hr (by simp) (AllReadyH.cons ho (h o ho) AllReadyH.nil)
/-- One that is taken first. -/
theorem take_at (i : Nat) (d : Option Tmp) {v : Value} {f : Nat} {L : Array Bool} {a : Act} {w : World} (hd : (ops[i]?).map (fun o => o.dst) = some d)
    (hs : Region.noSelect ops = true) (hf : Region.free md ops L i = true) (hr : (Region.ready md ops L).contains i = true)
    (hQ : ∀ c a w v, Q (.panic c) (a.put d v) w → Q (.panic c) a w) (hy : ∀ o, ops[i]? = some o → YieldsIf P ops S o v a) (hS : S w)
    (h : wpAnyH P md ops Q S f (L.setIfInBounds i true) (a.put d v) w) : wpAnyH P md ops Q S (f + 1) L a w := by
  cases ho : ops[i]? with
  | none => rw [ho] at hd; cases hd
  | some o =>
    rw [ho] at hd
    have e : o.dst = d := by simpa using hd
    subst e
    exact wpAnyH_take ho hs hf hr (fun c a w hq => hQ c a w v hq) (hy o ho) hS h
end
end Go.Proofs.YtchlioikkhnidaaGreat

/-
  Lines, plainly: the blocks that have a line, the one that was used longest ago first. No program is named.
-/
namespace Go.Proofs.YtchlioikkhnidaaGreat
open Go.RowKit

structure Lines where
  sets : Int
  ways : Int
  all : List Int

def clampI (n lo hi : Int) : Int := max (min n hi) lo
theorem clampI_in (n lo hi : Int) (h : lo ≤ hi) : lo ≤ clampI n lo hi ∧ clampI n lo hi ≤ hi := by unfold clampI; omega
def Lines.new (s w : Int) : Lines := ⟨clampI s 1 64, clampI w 1 16, []⟩
def Lines.row (l : Lines) (k : Int) : List Int := l.all.filter fun b => decide (b % l.sets = k)
def Lines.mates (l : Lines) (b : Int) : List Int := l.row (b % l.sets)
def Lines.has (l : Lines) (b : Int) : Bool := l.all.contains b
def Lines.can (l : Lines) (b : Int) : Bool := !(decide (b < 0) || l.has b || decide (l.ways ≤ ((l.mates b).length : Int)))
def Lines.add (l : Lines) (b : Int) : Lines := if l.can b then { l with all := l.all ++ [b] } else l
def Lines.rem (l : Lines) (b : Int) : Lines := { l with all := l.all.erase b }
def Lines.use (l : Lines) (b : Int) : Lines := if l.has b then { l with all := l.all.erase b ++ [b] } else l
def firstNot (x : Int) : List Int → Int × Bool
  | [] => (-1, false)
  | v :: l => if v = x then firstNot x l else (v, true)
def Lines.victim (l : Lines) (b pinned : Int) : Int × Bool :=
  if b < 0 then (-1, false) else if l.has b || decide (((l.mates b).length : Int) < l.ways) then (-1, true) else firstNot pinned (l.mates b)
def Lines.list (l : Lines) : List Int := l.all.mergeSort fun x y => decide (x ≤ y)

structure Lines.Ok (l : Lines) : Prop where
  s1 : 1 ≤ l.sets
  s2 : l.sets ≤ 64
  w1 : 1 ≤ l.ways
  w2 : l.ways ≤ 16
  nodup : l.all.Nodup
  pos : ∀ b ∈ l.all, 0 ≤ b
  room : ∀ k, ((l.row k).length : Int) ≤ l.ways

theorem Lines.new_ok (s w : Int) : (Lines.new s w).Ok := by
  have h1 := clampI_in s 1 64 (by decide)
  have h2 := clampI_in w 1 16 (by decide)
  exact ⟨h1.1, h1.2, h2.1, h2.2, List.nodup_nil, fun b hb => by simp [Lines.new] at hb, fun k => by simp [Lines.new, Lines.row]; omega⟩

theorem Lines.has_iff (l : Lines) (b : Int) : l.has b = true ↔ b ∈ l.all := by simp [Lines.has]
theorem Lines.mates_has (l : Lines) (b : Int) : (l.mates b).contains b = l.has b := by
  rw [Bool.eq_iff_iff, Lines.has_iff]
  simp [Lines.mates, Lines.row]
theorem Lines.mem_mates (l : Lines) (b : Int) : b ∈ l.mates b ↔ b ∈ l.all := by simp [Lines.mates, Lines.row]

theorem row_snoc (l : Lines) (b k : Int) : Lines.row { l with all := l.all ++ [b] } k = if k = b % l.sets then l.row k ++ [b] else l.row k := by
  simp only [Lines.row, List.filter_append, List.filter_cons, List.filter_nil]
  by_cases h : k = b % l.sets
  · rw [if_pos h, if_pos (by simp [h])]
  · rw [if_neg h, if_neg (by simp; exact fun e => h e.symm)]; simp
theorem row_erase (l : Lines) (hn : l.all.Nodup) (b k : Int) : (l.rem b).row k = if k = b % l.sets then (l.row k).erase b else l.row k := by
  simp only [Lines.row, Lines.rem]
  rw [hn.erase_eq_filter, List.filter_filter]
  by_cases h : k = b % l.sets
  · rw [if_pos h, List.Nodup.erase_eq_filter (show List.Nodup (l.all.filter _) from List.Pairwise.filter _ hn), List.filter_filter]
    apply List.filter_congr
    intro x _
    exact Bool.and_comm _ _
  · rw [if_neg h]
    apply List.filter_congr
    intro x hx
    by_cases hx' : x % l.sets = k
    · have : x ≠ b := fun e => h (by rw [← hx', e])
      simp [hx', this]
    · simp [hx']

theorem Lines.rem_ok {l : Lines} (h : l.Ok) (b : Int) : (l.rem b).Ok := by
  refine ⟨h.s1, h.s2, h.w1, h.w2, h.nodup.erase b, fun x hx => h.pos x (List.mem_of_mem_erase hx), fun k => ?_⟩
  rw [row_erase l h.nodup]
  have := h.room k
  split
  · have := (l.row k).erase_sublist (a := b) |>.length_le
    show _ ≤ l.ways
    omega
  · exact this
theorem Lines.can_iff (l : Lines) (b : Int) : l.can b = true ↔ 0 ≤ b ∧ b ∉ l.all ∧ ((l.mates b).length : Int) < l.ways := by
  simp [Lines.can, Lines.has, and_assoc]
theorem Lines.snoc_ok {l : Lines} (h : l.Ok) (b : Int) (hb : l.can b = true) : Lines.Ok { l with all := l.all ++ [b] } := by
  obtain ⟨h1, h2, h3⟩ := (l.can_iff b).1 hb
  refine ⟨h.s1, h.s2, h.w1, h.w2, ?_, ?_, fun k => ?_⟩
  · rw [List.nodup_append]
    exact ⟨h.nodup, by simp, fun a ha c hc => by simp at hc; subst hc; exact fun e => h2 (e ▸ ha)⟩
  · intro x hx
    rcases List.mem_append.1 hx with hx | hx
    · exact h.pos x hx
    · simp at hx; omega
  · rw [row_snoc]
    have := h.room k
    show _ ≤ l.ways
    split
    · rename_i e
      subst e
      simp only [List.length_append, List.length_singleton, Int.natCast_add]
      have : l.mates b = l.row (b % l.sets) := rfl
      rw [← this]; omega
    · exact this
theorem Lines.add_ok {l : Lines} (h : l.Ok) (b : Int) : (l.add b).Ok := by
  unfold Lines.add
  split
  · exact snoc_ok h b (by assumption)
  · exact h
theorem Lines.can_rem {l : Lines} (h : l.Ok) (b : Int) (hb : l.has b = true) : (l.rem b).can b = true := by
  rw [Lines.has_iff] at hb
  refine ((l.rem b).can_iff b).2 ⟨h.pos b hb, ?_, ?_⟩
  · show b ∉ l.all.erase b
    rw [h.nodup.erase_eq_filter]; simp
  · show (((l.rem b).row (b % l.sets)).length : Int) < l.ways
    rw [row_erase l h.nodup, if_pos rfl]
    have h1 := h.room (b % l.sets)
    have h2 : b ∈ l.row (b % l.sets) := (l.mem_mates b).2 hb
    have h3 := List.length_erase_of_mem h2
    have h4 := List.length_pos_of_mem h2
    omega
theorem Lines.use_eq {l : Lines} (h : l.Ok) (b : Int) : l.use b = if l.has b then (l.rem b).add b else l := by
  unfold Lines.use
  split
  · rename_i hb
    rw [Lines.add, if_pos (Lines.can_rem h b hb)]
    rfl
  · rfl
theorem Lines.use_ok {l : Lines} (h : l.Ok) (b : Int) : (l.use b).Ok := by
  rw [Lines.use_eq h]
  split
  · exact Lines.add_ok (Lines.rem_ok h b) b
  · exact h
theorem Lines.rem_none {l : Lines} (b : Int) (hb : l.has b = false) : l.rem b = l := by
  have : b ∉ l.all := fun hm => by rw [(l.has_iff b).2 hm] at hb; cases hb
  unfold Lines.rem
  rw [List.erase_of_not_mem this]

/-! ### Places -/
theorem idxFrom_at (x : Int) : ∀ (l : List Int) (i : Nat), Lib.idxFrom l x i = if x ∈ l then ((i + l.idxOf x : Nat) : Int) else -1
  | [], i => by simp [Lib.idxFrom]
  | z :: l, i => by
    rw [Lib.idxFrom]
    by_cases hz : z = x
    · subst hz; simp
    · rw [if_neg hz, idxFrom_at x l (i + 1), List.idxOf_cons]
      have hz' : (z == x) = false := by simpa using hz
      simp only [List.mem_cons, hz', cond_false]
      have : (x = z ∨ x ∈ l) ↔ x ∈ l := ⟨fun h => h.elim (fun e => absurd e.symm hz) id, .inr⟩
      simp only [this]
      split
      · congr 1; omega
      · rfl
theorem idxOf_at (x : Int) (l : List Int) : Lib.idxOf l x = if x ∈ l then (l.idxOf x : Int) else -1 := by
  rw [Lib.idxOf, idxFrom_at]; simp
theorem eraseIdx_at (x : Int) : ∀ (l : List Int), x ∈ l → l.eraseIdx (l.idxOf x) = l.erase x
  | [], h => by simp at h
  | z :: l, h => by
    rw [List.idxOf_cons, List.erase_cons]
    by_cases hz : z = x
    · subst hz; simp
    · have hz' : (z == x) = false := by simpa using hz
      simp only [hz', cond_false, Bool.false_eq_true, if_false]
      rw [List.eraseIdx_cons_succ, eraseIdx_at x l ((List.mem_cons.1 h).elim (fun e => absurd e.symm hz) id)]

/-! ### Sorted lists -/
theorem sort_perm {l l' : List Int} (h : l.Perm l') : (l.mergeSort fun x y => decide (x ≤ y)) = l'.mergeSort fun x y => decide (x ≤ y) := by
  have s : ∀ l : List Int, List.Pairwise (fun a b => a ≤ b) (l.mergeSort fun x y => decide (x ≤ y)) := fun l => by
    have := List.pairwise_mergeSort (le := fun x y : Int => decide (x ≤ y)) (by intro a b c h1 h2; simp at h1 h2 ⊢; omega) (by intro a b; simp; omega) l
    simpa using this
  exact List.Perm.eq_of_pairwise (le := fun a b => a ≤ b) (fun a b _ _ h1 h2 => by omega) (s l) (s l') ((List.mergeSort_perm _ _).trans (h.trans (List.mergeSort_perm _ _).symm))
theorem sort_sorted (l : List Int) : List.Pairwise (fun a b => a ≤ b) (l.mergeSort fun x y => decide (x ≤ y)) := by
  have := List.pairwise_mergeSort (le := fun x y : Int => decide (x ≤ y)) (by intro a b c h1 h2; simp at h1 h2 ⊢; omega) (by intro a b; simp; omega) l
  simpa using this
theorem sort_unique {l s : List Int} (h : s.Perm l) (hs : List.Pairwise (fun a b => a ≤ b) s) : s = l.mergeSort fun x y => decide (x ≤ y) :=
  List.Perm.eq_of_pairwise (le := fun a b => a ≤ b) (fun a b _ _ h1 h2 => by omega) hs (sort_sorted l) (h.trans (List.mergeSort_perm _ _).symm)

/-- The rows of some sets together are the blocks of those. -/
theorem rows_perm (l : Lines) : ∀ (D : List Int), D.Nodup → (D.map l.row).flatten.Perm (l.all.filter fun b => decide (b % l.sets ∈ D))
  | [], _ => by simp
  | k :: D, h => by
    obtain ⟨h1, h2⟩ := List.nodup_cons.1 h
    have ih := rows_perm l D h2
    rw [List.map_cons, List.flatten_cons]
    refine (List.Perm.append_left _ ih).trans ?_
    simp only [Lines.row]
    generalize l.all = a
    induction a with
    | nil => simp
    | cons b a ih2 =>
      simp only [List.filter_cons, List.mem_cons]
      by_cases hk : b % l.sets = k
      · have hD : b % l.sets ∉ D := by rw [hk]; exact h1
        simp only [hk, decide_true, if_true, true_or] at hD ⊢
        simp only [hD, decide_false, Bool.false_eq_true, if_false]
        exact List.Perm.cons _ (by simpa using ih2)
      · by_cases hD : b % l.sets ∈ D
        · simp only [hk, hD, decide_true, decide_false, if_true, or_true, Bool.false_eq_true, if_false]
          exact List.perm_middle.trans (List.Perm.cons _ (by simpa using ih2))
        · simp only [hk, hD, decide_false, or_self, Bool.false_eq_true, if_false]
          simpa using ih2

theorem Lines.few {l : Lines} (h : l.Ok) : l.all.length ≤ 1024 := by
  have hp := rows_perm l ((List.range 64).map fun i : Nat => (i : Int)) (by
    rw [List.Nodup, List.pairwise_map]; exact List.nodup_range.imp (fun h e => h (by omega)))
  have h1 : (l.all.filter fun b => decide (b % l.sets ∈ (List.range 64).map fun i : Nat => (i : Int))) = l.all := by
    rw [List.filter_eq_self]
    intro b hb
    have := h.s1
    have := h.s2
    have h1 := Int.emod_nonneg b (show l.sets ≠ 0 by omega)
    have h2 := Int.emod_lt_of_pos b (show 0 < l.sets by omega)
    simp only [List.mem_map, List.mem_range, decide_eq_true_eq]
    exact ⟨(b % l.sets).toNat, by omega, by omega⟩
  rw [h1] at hp
  rw [← hp.length_eq, List.length_flatten]
  have : ∀ ks : List Int, (List.map List.length (ks.map l.row)).sum ≤ ks.length * 16 := by
    intro ks
    induction ks with
    | nil => simp
    | cons k ks ih =>
      have := h.room k
      have := h.w2
      simp only [List.map_cons, List.sum_cons, List.length_cons]
      omega
  have := this ((List.range 64).map fun i : Nat => (i : Int))
  simpa using this
end Go.Proofs.YtchlioikkhnidaaGreat

/-
  What the statements on lines ask, plainly. No program is named.
-/
namespace Go.Proofs.YtchlioikkhnidaaGreat

theorem firstNot_no (x : Int) : ∀ (l : List Int), (firstNot x l).2 = false → (firstNot x l).1 = -1 ∧ ∀ y ∈ l, y = x
  | [], _ => ⟨rfl, by simp⟩
  | v :: l, h => by
    rw [firstNot] at h ⊢
    by_cases hv : v = x
    · rw [if_pos hv] at h ⊢
      obtain ⟨h1, h2⟩ := firstNot_no x l h
      exact ⟨h1, fun y hy => by rcases List.mem_cons.1 hy with rfl | hy; exact hv; exact h2 y hy⟩
    · rw [if_neg hv] at h; cases h
theorem firstNot_yes (x : Int) : ∀ (l : List Int), (firstNot x l).2 = true → (firstNot x l).1 ≠ x ∧ (firstNot x l).1 ∈ l
  | [], h => by cases h
  | v :: l, h => by
    rw [firstNot] at h ⊢
    by_cases hv : v = x
    · rw [if_pos hv] at h ⊢
      obtain ⟨h1, h2⟩ := firstNot_yes x l h
      exact ⟨h1, List.mem_cons_of_mem _ h2⟩
    · rw [if_neg hv]
      exact ⟨hv, List.mem_cons_self⟩

theorem victim_facts {l : Lines} (h : l.Ok) (b x : Int) :
    ((l.victim b x).2 = false → (l.victim b x).1 = -1 ∧ l.has b = false ∧ l.can b = false ∧ (b < 0 ∨ l.has x = true)) ∧
    ((l.victim b x).2 = true → l.has b = true → (l.victim b x).1 = -1) ∧
    ((l.victim b x).2 = true → l.has b = false → l.can b = true → (l.victim b x).1 = -1) ∧
    ((l.victim b x).2 = true → l.has b = false → l.can b = false → (l.victim b x).1 ≠ x ∧ l.has (l.victim b x).1 = true ∧ (l.rem (l.victim b x).1).can b = true) := by
  by_cases q1 : b < 0
  · have hv : l.victim b x = (-1, false) := by rw [Lines.victim, if_pos q1]
    have hb : l.has b = false := by
      cases hh : l.has b with
      | false => rfl
      | true => have := h.pos b ((l.has_iff b).1 hh); omega
    have hc : l.can b = false := by simp [Lines.can, q1]
    rw [hv]
    exact ⟨fun _ => ⟨rfl, hb, hc, .inl q1⟩, (fun h => by cases h), (fun h => by cases h), (fun h => by cases h)⟩
  · have hv : l.victim b x = if l.has b || decide (((l.mates b).length : Int) < l.ways) then (-1, true) else firstNot x (l.mates b) := by rw [Lines.victim, if_neg q1]
    cases hh : l.has b with
    | true =>
      rw [hh, Bool.true_or, if_pos rfl] at hv
      rw [hv]
      exact ⟨fun h => (by cases h), fun _ _ => rfl, fun _ h => (by cases h), fun _ h => (by cases h)⟩
    | false =>
      rw [hh, Bool.false_or] at hv
      by_cases q2 : ((l.mates b).length : Int) < l.ways
      · rw [if_pos (by simpa using q2)] at hv
        rw [hv]
        refine ⟨fun h => (by cases h), fun _ _ => rfl, fun _ _ _ => rfl, fun _ _ hc => ?_⟩
        have : l.can b = true := (l.can_iff b).2 ⟨by omega, (fun hm => by rw [(l.has_iff b).2 hm] at hh; cases hh), q2⟩
        rw [this] at hc; cases hc
      · rw [if_neg (by simpa using q2)] at hv
        have hc : l.can b = false := by
          cases hcc : l.can b with
          | false => rfl
          | true => exact absurd ((l.can_iff b).1 hcc).2.2 q2
        rw [hv]
        refine ⟨fun hn => ?_, fun _ h => (by cases h), (fun _ _ h => by rw [hc] at h; cases h), fun hy _ _ => ?_⟩
        · obtain ⟨h1, h2⟩ := firstNot_no x _ hn
          refine ⟨h1, rfl, hc, .inr ?_⟩
          have hw := h.w1
          have hl : 0 < (l.mates b).length := by omega
          obtain ⟨y, hy⟩ := List.exists_mem_of_length_pos hl
          rw [← h2 y hy, Lines.has_iff]
          exact (List.mem_filter.1 hy).1
        · obtain ⟨h1, h2⟩ := firstNot_yes x _ hy
          obtain ⟨h3, h4⟩ := List.mem_filter.1 h2
          refine ⟨h1, (l.has_iff _).2 h3, ?_⟩
          rw [Lines.can_iff]
          refine ⟨by omega, fun hm => ?_, ?_⟩
          · have := List.mem_of_mem_erase hm
            rw [(l.has_iff b).2 this] at hh; cases hh
          · show (((l.rem (firstNot x (l.mates b)).1).row (b % l.sets)).length : Int) < l.ways
            have e : b % l.sets = (firstNot x (l.mates b)).1 % l.sets := (of_decide_eq_true h4).symm
            rw [row_erase l h.nodup, if_pos e]
            have h5 := List.length_erase_of_mem h2
            have h6 := List.length_pos_of_mem h2
            have h7 := h.room (b % l.sets)
            have h8 : l.mates b = l.row (b % l.sets) := rfl
            rw [h8] at h5 h6 ⊢
            omega

def headOf : List Int → Int × Bool
  | [] => (-1, false)
  | y :: _ => (y, true)
theorem firstNot_neg (l : List Int) (h : ∀ b ∈ l, 0 ≤ b) : firstNot (-1) l = headOf l := by
  cases l with
  | nil => rfl
  | cons y t => rw [firstNot, if_neg (by have := h y List.mem_cons_self; omega)]; rfl
theorem use_row {l : Lines} (h : l.Ok) (b k : Int) (hb : l.has b = true) : (l.use b).row k = if k = b % l.sets then (l.row k).erase b ++ [b] else l.row k := by
  have e : l.use b = { l.rem b with all := (l.rem b).all ++ [b] } := by rw [Lines.use, if_pos hb]; rfl
  rw [e, row_snoc, row_erase l h.nodup]
  show (if k = b % l.sets then _ else _) = _
  split
  · rfl
  · rfl

/-- A line that was just used doesn't go for another one's. -/
theorem use_facts {l : Lines} (h : l.Ok) (a b : Int) (hb : l.has b = true) :
    ((l.victim a (-1)).1 ≠ b → ((l.use b).victim a (-1)).1 = (l.victim a (-1)).1) ∧
    ((l.victim a (-1)).1 = b → ((l.use b).victim a (-1)).2 = true ∧ (((l.use b).victim a b).2 = true → ((l.use b).victim a (-1)).1 = ((l.use b).victim a b).1) ∧ (((l.use b).victim a b).2 = false → ((l.use b).victim a (-1)).1 = (l.victim a (-1)).1)) := by
  have hm := (l.has_iff b).1 hb
  have hb0 := h.pos b hm
  have hhas : (l.use b).has a = l.has a := by
    rw [Bool.eq_iff_iff, Lines.has_iff, Lines.has_iff, Lines.use, if_pos hb]
    show a ∈ l.all.erase b ++ [b] ↔ _
    rw [h.nodup.erase_eq_filter]
    by_cases e : a = b
    · subst e; simp [hm]
    · simp [e]
  have hsets : (l.use b).sets = l.sets := by rw [Lines.use, if_pos hb]
  have hways : (l.use b).ways = l.ways := by rw [Lines.use, if_pos hb]
  have hrow := use_row h b (a % l.sets) hb
  have hmates : (l.use b).mates a = (l.use b).row (a % l.sets) := by rw [Lines.mates, hsets]
  have hlen : ((l.use b).mates a).length = (l.mates a).length := by
    rw [hmates, hrow]
    split
    · rename_i e
      have : b ∈ l.row (a % l.sets) := by rw [e]; exact (l.mem_mates b).2 hm
      have h1 := List.length_erase_of_mem this
      have h2 := List.length_pos_of_mem this
      have h3 : l.mates a = l.row (a % l.sets) := rfl
      rw [h3, List.length_append, h1]; simp; omega
    · rfl
  have hv : ∀ x, l.victim a x = if a < 0 then (-1, false) else if l.has a || decide (((l.mates a).length : Int) < l.ways) then (-1, true) else firstNot x (l.mates a) := fun x => rfl
  have hu : ∀ x, (l.use b).victim a x = if a < 0 then (-1, false) else if l.has a || decide (((l.mates a).length : Int) < l.ways) then (-1, true) else firstNot x ((l.use b).mates a) := fun x => by
    rw [Lines.victim, hhas, hlen, hways]
  simp only [hv, hu]
  by_cases q1 : a < 0
  · simp only [if_pos q1]
    exact ⟨fun _ => trivial, fun e => by omega⟩
  simp only [if_neg q1]
  cases hc : (l.has a || decide (((l.mates a).length : Int) < l.ways)) with
  | true =>
    simp only [if_true]
    exact ⟨fun _ => trivial, fun e => by omega⟩
  | false =>
    simp only [Bool.false_eq_true, if_false]
    have hpos : ∀ y ∈ l.mates a, 0 ≤ y := fun y hy => h.pos y (List.mem_filter.1 hy).1
    have hpos' : ∀ y ∈ (l.use b).mates a, 0 ≤ y := fun y hy => (Lines.use_ok h b).pos y (List.mem_filter.1 hy).1
    rw [firstNot_neg _ hpos, firstNot_neg _ hpos']
    have hr : l.mates a = l.row (a % l.sets) := rfl
    have hnd : (l.mates a).Nodup := h.nodup.sublist List.filter_sublist
    rw [hmates, hrow, ← hr]
    have hne : 0 < (l.mates a).length := by
      have := h.w1
      simp only [Bool.or_eq_false_iff, decide_eq_false_iff_not] at hc
      omega
    generalize hM : l.mates a = M at *
    cases M with
    | nil => simp at hne
    | cons y t =>
      by_cases e : a % l.sets = b % l.sets
      · simp only [if_pos e]
        by_cases ey : y = b
        · subst ey
          simp only [List.erase_cons_head]
          refine ⟨fun h => absurd rfl h, fun _ => ?_⟩
          cases t with
          | nil => simp [firstNot, headOf]
          | cons z t =>
            have : z ≠ y := fun e => by
              subst e
              have := (List.nodup_cons.1 hnd).1
              simp at this
            simp [firstNot, headOf, this]
        · have : (y :: t).erase b = y :: t.erase b := List.erase_cons_tail (by simpa using ey)
          rw [this]
          exact ⟨fun _ => rfl, fun e => absurd e ey⟩
      · simp only [if_neg e]
        refine ⟨fun _ => trivial, fun ey => ?_⟩
        have ey' : y = b := ey
        have : y ∈ l.mates a := by rw [hM]; exact List.mem_cons_self
        have h2 := (List.mem_filter.1 this).2
        rw [decide_eq_true_eq] at h2
        exact absurd (by rw [← h2, ey']) e
end Go.Proofs.YtchlioikkhnidaaGreat

/-
  What LinesOrder and LinesRoom ask, plainly. No program is named.
-/
set_option linter.unusedVariables false
set_option linter.unusedSimpArgs false
namespace Go.Proofs.YtchlioikkhnidaaGreat

/-! ### Blocks of one set, one after the other -/
structure RowUp (s : Lines) (z first : Int) (W i : Nat) : Prop where
  ok : s.Ok
  sets : s.sets = z
  ways : s.ways = (W : Int)
  all : s.all = (List.range' (i - W) (min i W)).map fun j : Nat => first + (j : Int) * z

theorem RowUp.mates {s : Lines} {sets first : Int} {W i : Nat} (h : RowUp s sets first W i) (j : Int) : s.mates (first + j * sets) = s.all := by
  rw [Lines.mates, Lines.row, List.filter_eq_self]
  intro b hb
  rw [h.all] at hb
  obtain ⟨k, _, rfl⟩ := List.mem_map.1 hb
  simp [h.sets, Int.add_mul_emod_self_right]
theorem RowUp.len {s : Lines} {sets first : Int} {W i : Nat} (h : RowUp s sets first W i) : s.all.length = min i W := by
  rw [h.all]; simp
theorem ord_inj {sets first a b : Int} (hs : 1 ≤ sets) (h : first + a * sets = first + b * sets) : a = b := by
  have h1 : a * sets = b * sets := by omega
  exact Int.eq_of_mul_eq_mul_right (by omega) h1
theorem RowUp.hasnt {s : Lines} {sets first : Int} {W i : Nat} (h : RowUp s sets first W i) : s.has (first + (i : Int) * sets) = false := by
  cases hh : s.has (first + (i : Int) * sets) with
  | false => rfl
  | true =>
    rw [Lines.has_iff, h.all] at hh
    obtain ⟨k, hk, e⟩ := List.mem_map.1 hh
    have h1 := ord_inj (by have := h.ok.s1; rw [h.sets] at this; exact this) e
    have h2 := List.mem_range'_1.1 hk
    omega
theorem RowUp.new {sets first w : Int} (h1 : 1 ≤ sets) (h2 : sets ≤ 64) (h3 : 1 ≤ w) (h4 : w ≤ 16) : RowUp (Lines.new sets w) sets first w.toNat 0 := by
  refine ⟨Lines.new_ok _ _, ?_, ?_, by simp [Lines.new]⟩
  · show clampI sets 1 64 = sets
    unfold clampI; omega
  · show clampI w 1 16 = _
    unfold clampI; omega
theorem ord_pos {sets first : Int} (h1 : 1 ≤ sets) (h2 : 0 ≤ first) (j : Nat) : 0 ≤ first + (j : Int) * sets := by
  have := Int.mul_nonneg (show (0 : Int) ≤ j by omega) (show (0 : Int) ≤ sets by omega)
  omega

theorem RowUp.early {s : Lines} {sets first : Int} {W i : Nat} (h : RowUp s sets first W i) (hf : 0 ≤ first) (hi : i < W) :
    s.victim (first + (i : Int) * sets) (-1) = (-1, true) ∧ s.can (first + (i : Int) * sets) = true ∧ RowUp (s.add (first + (i : Int) * sets)) sets first W (i + 1) := by
  have hs : 1 ≤ sets := by have := h.ok.s1; rw [h.sets] at this; exact this
  have hp := ord_pos hs hf i
  have hn := h.hasnt
  have hm := h.mates i
  have hl := h.len
  have hw := h.ways
  have hl2 : ((s.mates (first + (i : Int) * sets)).length : Int) < s.ways := by rw [hm, hl, hw]; omega
  have hc : s.can (first + (i : Int) * sets) = true := by
    rw [Lines.can_iff]
    refine ⟨hp, fun hx => ?_, hl2⟩
    rw [(s.has_iff _).2 hx] at hn; cases hn
  refine ⟨?_, hc, ?_⟩
  · rw [Lines.victim, if_neg (by omega), if_pos (by simp [hl2])]
  · refine ⟨Lines.add_ok h.ok _, ?_, ?_, ?_⟩
    · rw [Lines.add, if_pos hc]; exact h.sets
    · rw [Lines.add, if_pos hc]; exact h.ways
    · rw [Lines.add, if_pos hc]
      show s.all ++ [_] = _
      rw [h.all, show i + 1 - W = i - W by omega, show min (i + 1) W = min i W + 1 by omega, List.range'_1_concat, List.map_append, show i - W + min i W = i by omega]
      rfl

theorem RowUp.late {s : Lines} {sets first : Int} {W i : Nat} (h : RowUp s sets first W i) (hf : 0 ≤ first) (hi : W ≤ i) :
    s.victim (first + (i : Int) * sets) (-1) = (first + ((i : Int) - (W : Int)) * sets, true) ∧ 0 ≤ first + ((i : Int) - (W : Int)) * sets ∧ s.has (first + ((i : Int) - (W : Int)) * sets) = true ∧
    (s.rem (first + ((i : Int) - (W : Int)) * sets)).can (first + (i : Int) * sets) = true ∧ RowUp ((s.rem (first + ((i : Int) - (W : Int)) * sets)).add (first + (i : Int) * sets)) sets first W (i + 1) := by
  have hs : 1 ≤ sets := by have := h.ok.s1; rw [h.sets] at this; exact this
  have hp := ord_pos hs hf i
  have hn := h.hasnt
  have hm := h.mates i
  have hl := h.len
  have hw := h.ways
  have hW : 1 ≤ W := by have := h.ok.w1; omega
  have hp2 := ord_pos hs hf (i - W)
  have e1 : ((i - W : Nat) : Int) = (i : Int) - (W : Int) := by omega
  rw [e1] at hp2
  have hall : s.all = (first + ((i : Int) - (W : Int)) * sets) :: (List.range' (i - W + 1) (W - 1)).map fun j : Nat => first + (j : Int) * sets := by
    rw [h.all, show min i W = (W - 1) + 1 by omega, List.range'_succ, List.map_cons, e1]
  have hhas : s.has (first + ((i : Int) - (W : Int)) * sets) = true := by rw [Lines.has_iff, hall]; exact List.mem_cons_self
  have hrem : (s.rem (first + ((i : Int) - (W : Int)) * sets)).all = (List.range' (i - W + 1) (W - 1)).map fun j : Nat => first + (j : Int) * sets := by
    show s.all.erase _ = _
    rw [hall, List.erase_cons_head]
  have hv : s.victim (first + (i : Int) * sets) (-1) = (first + ((i : Int) - (W : Int)) * sets, true) := by
    rw [Lines.victim, if_neg (by omega), if_neg (by rw [hn, hm, hl, hw]; simp; omega), hm, hall, firstNot, if_neg (by omega)]
  have hc : (s.rem (first + ((i : Int) - (W : Int)) * sets)).can (first + (i : Int) * sets) = true := by
    rw [Lines.can_iff]
    refine ⟨hp, fun hx => ?_, ?_⟩
    · rw [(s.has_iff _).2 (List.mem_of_mem_erase hx)] at hn; cases hn
    · have h1 : ((s.rem (first + ((i : Int) - (W : Int)) * sets)).mates (first + (i : Int) * sets)).length ≤ (s.rem (first + ((i : Int) - (W : Int)) * sets)).all.length := List.length_filter_le _ _
      rw [hrem] at h1
      simp only [List.length_map, List.length_range'] at h1
      show _ < s.ways
      omega
  refine ⟨hv, hp2, hhas, hc, Lines.add_ok (Lines.rem_ok h.ok _) _, ?_, ?_, ?_⟩
  · rw [Lines.add, if_pos hc]; exact h.sets
  · rw [Lines.add, if_pos hc]; exact h.ways
  · rw [Lines.add, if_pos hc]
    show (s.rem _).all ++ [_] = _
    rw [hrem, show i + 1 - W = i - W + 1 by omega, show min (i + 1) W = (W - 1) + 1 by omega, List.range'_1_concat, List.map_append, show i - W + 1 + (W - 1) = i by omega]
    rfl

/-! ### Blocks of other sets play no part -/
structure Room (s t : Lines) (k : Int) : Prop where
  ok : s.Ok
  ok2 : t.Ok
  sets : t.sets = s.sets
  ways : t.ways = s.ways
  all : t.all = s.row k
theorem Room.new (a b k : Int) : Room (Lines.new a b) (Lines.new a b) k := ⟨Lines.new_ok a b, Lines.new_ok a b, rfl, rfl, by simp [Lines.new, Lines.row]⟩
theorem Room.mates {s t : Lines} {k b : Int} (h : Room s t k) (hb : b % s.sets = k) : t.mates b = s.mates b := by
  rw [Lines.mates, Lines.row, h.all, h.sets, hb, Lines.mates, hb, Lines.row, List.filter_filter]
  simp
theorem Room.has {s t : Lines} {k b : Int} (h : Room s t k) (hb : b % s.sets = k) : t.has b = s.has b := by
  rw [← Lines.mates_has, h.mates hb, Lines.mates_has]
theorem Room.can {s t : Lines} {k b : Int} (h : Room s t k) (hb : b % s.sets = k) : t.can b = s.can b := by
  rw [Lines.can, h.has hb, h.mates hb, h.ways]; rfl
theorem Room.both {s t : Lines} {k b : Int} (h : Room s t k) (hb : b % s.sets = k) : Room (s.add b) (t.add b) k := by
  have e := h.can hb
  cases hc : s.can b with
  | true =>
    rw [hc] at e
    rw [Lines.add, Lines.add, if_pos hc, if_pos e]
    refine ⟨Lines.snoc_ok h.ok b hc, Lines.snoc_ok h.ok2 b e, h.sets, h.ways, ?_⟩
    show t.all ++ [b] = _
    rw [row_snoc, if_pos hb.symm, h.all]
  | false =>
    rw [hc] at e
    rw [Lines.add, Lines.add, if_neg (by simp [hc]), if_neg (by simp [e])]
    exact h
theorem Room.one {s t : Lines} {k b : Int} (h : Room s t k) (hb : b % s.sets ≠ k) : Room (s.add b) t k := by
  cases hc : s.can b with
  | true =>
    rw [Lines.add, if_pos hc]
    refine ⟨Lines.snoc_ok h.ok b hc, h.ok2, h.sets, h.ways, ?_⟩
    rw [row_snoc, if_neg (fun e => hb e.symm), h.all]
  | false =>
    rw [Lines.add, if_neg (by simp [hc])]
    exact h
theorem Room.victim {s t : Lines} {k b : Int} (x : Int) (h : Room s t k) (hb : b % s.sets = k) : t.victim b x = s.victim b x := by
  rw [Lines.victim, Lines.victim, h.has hb, h.mates hb, h.ways]

/-! ### How many of each set -/
def cntOf (sets : Int) (D : List Int) (q : Int) : Nat := (D.filter fun b => decide (b % sets = q)).length
theorem cntOf_perm {sets : Int} {D E : List Int} (h : D.Perm E) (q : Int) : cntOf sets D q = cntOf sets E q := (h.filter _).length_eq
theorem cntOf_snoc (sets : Int) (D : List Int) (b q : Int) : cntOf sets (D ++ [b]) q = if q = b % sets then cntOf sets D q + 1 else cntOf sets D q := by
  rw [cntOf, List.filter_append, List.length_append, cntOf]
  by_cases h : q = b % sets
  · rw [if_pos h]; simp [List.filter_cons, h]
  · rw [if_neg h]; simp [List.filter_cons, Ne.symm h]
theorem cntOf_le (sets : Int) (D : List Int) (q : Int) : cntOf sets D q ≤ D.length := List.length_filter_le _ _
theorem cntOf_list (s : Lines) (q : Int) : cntOf s.sets s.list q = (s.row q).length := cntOf_perm (List.mergeSort_perm _ _) q
theorem list_len (s : Lines) : s.list.length = s.all.length := (List.mergeSort_perm _ _).length_eq
end Go.Proofs.YtchlioikkhnidaaGreat

/-
  Tokens and the cache, plainly. No program is named.
-/
set_option linter.unusedVariables false
set_option linter.unusedSimpArgs false
namespace Go.Proofs.YtchlioikkhnidaaGreat
open Go.RowKit

def Bundle.none : Bundle := ⟨0, false, false, 0⟩
def Line.none : Line := ⟨0, Bundle.none⟩
/-- What the document lets be. -/
structure Bundle.Good (b : Bundle) : Prop where
  pos : 0 ≤ b.count
  own : b.count = 0 → b.owner = false
  hasnt : b.count = 0 → b.has = false
  has : b.owner = true → b.has = true
  data : b.has = false → b.data = 0
theorem Bundle.none_good : Bundle.none.Good := ⟨by decide, fun _ => rfl, fun _ => rfl, (fun h => by cases h), fun _ => rfl⟩
theorem Bundle.eq_none {b : Bundle} (h : b.Good) (h0 : b.count = 0) : b = Bundle.none := by
  have h1 := h.own h0
  have h2 := h.hasnt h0
  have h3 := h.data h2
  obtain ⟨a, b, c, d⟩ := b
  simp only at h0 h1 h2 h3
  subst h0; subst h1; subst h2; subst h3
  rfl
def Bundle.check (b : Bundle) (tokens : Int) : Int :=
  if b.count < 0 ∨ tokens < b.count then 4
  else if b.count = 0 ∧ (b.owner = true ∨ b.has = true) then 5
  else if (b.owner = true ∧ b.has = false) ∨ (b.has = false ∧ b.data ≠ 0) then 6
  else 0
theorem Bundle.check_zero {b : Bundle} {tokens : Int} : b.check tokens = 0 ↔ b.Good ∧ b.count ≤ tokens := by
  unfold Bundle.check
  constructor
  · intro h
    split at h
    · omega
    split at h
    · omega
    split at h
    · omega
    rename_i h1 h2 h3
    refine ⟨⟨by omega, fun h0 => ?_, fun h0 => ?_, fun ho => ?_, fun hh => ?_⟩, by omega⟩
    · cases ho : b.owner with
      | false => rfl
      | true => exact absurd ⟨h0, .inl ho⟩ h2
    · cases ho : b.has with
      | false => rfl
      | true => exact absurd ⟨h0, .inr ho⟩ h2
    · cases hh : b.has with
      | true => rfl
      | false => exact absurd (.inl ⟨ho, hh⟩) h3
    · by_cases hd : b.data = 0
      · exact hd
      · exact absurd (.inr ⟨hh, hd⟩) h3
  · rintro ⟨g, hc⟩
    rw [if_neg, if_neg, if_neg]
    · rintro (⟨h1, h2⟩ | ⟨h1, h2⟩)
      · rw [g.has h1] at h2; cases h2
      · exact h2 (g.data h1)
    · rintro ⟨h0, h1 | h1⟩
      · rw [g.own h0] at h1; cases h1
      · rw [g.hasnt h0] at h1; cases h1
    · have := g.pos
      omega
def Bundle.join (h b : Bundle) : Bundle := ⟨h.count + b.count, h.owner || b.owner, h.has || b.has, if b.has = true then b.data else h.data⟩
theorem Bundle.join_good {h b : Bundle} (g : h.Good) (g' : b.Good) : (h.join b).Good := by
  have p1 := g.pos
  have p2 := g'.pos
  refine ⟨by simp [Bundle.join]; omega, fun h0 => ?_, fun h0 => ?_, fun ho => ?_, fun hh => ?_⟩
  · simp only [Bundle.join] at h0 ⊢
    rw [g.own (by omega), g'.own (by omega)]; rfl
  · simp only [Bundle.join] at h0 ⊢
    rw [g.hasnt (by omega), g'.hasnt (by omega)]; rfl
  · simp only [Bundle.join] at ho ⊢
    rcases Bool.or_eq_true_iff.1 ho with h1 | h1
    · rw [g.has h1]; rfl
    · rw [g'.has h1]; simp
  · simp only [Bundle.join] at hh ⊢
    rw [Bool.or_eq_false_iff] at hh
    rw [if_neg (by simp [hh.2])]
    exact g.data hh.1
/-- How many are given away, and whether the owner's is. -/
def Bundle.given (h : Bundle) (count : Int) (owner : Bool) : Int × Bool :=
  let n := min (max count 0) h.count
  if h.owner = true then (if owner = true ∧ 0 < n then (n, true) else if n = h.count then (n - 1, false) else (n, false)) else (n, false)
def Bundle.valued (n : Int) (owner has : Bool) (data : Int) : Bundle := ⟨n, owner, has, if has = true then data else 0⟩
def Bundle.split (h : Bundle) (count : Int) (owner data : Bool) : Bundle × Bundle :=
  let g := h.given count owner
  if g.1 ≤ 0 then (Bundle.none, h)
  else (Bundle.valued g.1 g.2 (h.has && (data || g.2)) h.data, if g.1 = h.count then Bundle.none else ⟨h.count - g.1, h.owner && !g.2, h.has, h.data⟩)
theorem Bundle.given_le (h : Bundle) (g : h.Good) (count : Int) (owner : Bool) : -1 ≤ (h.given count owner).1 ∧ (h.given count owner).1 ≤ h.count ∧ ((h.given count owner).1 = h.count → h.owner = true → 0 < h.count → (h.given count owner).2 = true) ∧ ((h.given count owner).2 = true → h.owner = true ∧ 0 < (h.given count owner).1) := by
  have p := g.pos
  unfold Bundle.given
  simp only
  split
  · split
    · rename_i h1 h2
      exact ⟨by simp only; omega, by simp only; omega, fun _ _ _ => rfl, fun _ => ⟨h1, h2.2⟩⟩
    split
    · exact ⟨by simp only; omega, by simp only; omega, fun h1 => by simp only at h1; omega, (fun h => by cases h)⟩
    · rename_i h1 h2 h3
      exact ⟨by simp only; omega, by simp only; omega, fun h1 => absurd h1 h3, (fun h => by cases h)⟩
  · rename_i h1
    exact ⟨by simp only; omega, by simp only; omega, fun _ h2 => absurd h2 h1, (fun h => by cases h)⟩
theorem Bundle.split_good {h : Bundle} (g : h.Good) (count : Int) (owner data : Bool) : (h.split count owner data).1.Good ∧ (h.split count owner data).2.Good := by
  obtain ⟨l1, l2, l3, l4⟩ := h.given_le g count owner
  unfold Bundle.split
  simp only
  split
  · exact ⟨Bundle.none_good, g⟩
  · rename_i hn
    refine ⟨⟨by simp only [Bundle.valued]; omega, fun h0 => absurd h0 (by simp only [Bundle.valued]; omega), fun h0 => absurd h0 (by simp only [Bundle.valued]; omega), fun ho => ?_, fun hh => ?_⟩, ?_⟩
    · simp only [Bundle.valued] at ho ⊢
      rw [g.has (l4 ho).1, ho]; simp
    · simp only [Bundle.valued] at hh ⊢
      rw [if_neg (by simp [hh])]
    · split
      · exact Bundle.none_good
      · rename_i hne
        refine ⟨by simp only; omega, fun h0 => absurd h0 (by simp only; omega), fun h0 => absurd h0 (by simp only; omega), fun ho => ?_, fun hh => g.data hh⟩
        simp only at ho
        exact g.has (by cases hh : h.owner with | true => rfl | false => rw [hh] at ho; cases ho)
theorem Bundle.split_count {h : Bundle} (g : h.Good) (count : Int) (owner data : Bool) : (h.split count owner data).1.count + (h.split count owner data).2.count = h.count := by
  unfold Bundle.split
  simp only
  split
  · simp [Bundle.none]
  · split
    · rename_i h1 h2
      simp only [Bundle.valued, Bundle.none]; omega
    · simp only [Bundle.valued]; omega
theorem Bundle.split_zero {h : Bundle} (g : h.Good) (h0 : h.count = 0) (count : Int) (owner data : Bool) : h.split count owner data = (Bundle.none, Bundle.none) := by
  have e := Bundle.eq_none g h0
  subst e
  obtain ⟨l1, l2, l3, l4⟩ := Bundle.none.given_le g count owner
  unfold Bundle.split
  simp only
  rw [if_pos (by rw [h0] at l2; exact l2)]
/-- May an operation be done? -/
def Bundle.may (h : Bundle) (write : Bool) (tokens : Int) : Bool := decide (1 ≤ h.count) && h.has && (!write || decide (h.count = tokens))
def Bundle.done (h : Bundle) (op : Op) : Bundle := if op.write = true then { h with data := op.value } else h
def Bundle.does (h : Bundle) (op : Op) (tokens : Int) : Bundle × Int × Bool := if h.may op.write tokens = true then (h.done op, (h.done op).data, true) else (h, 0, false)
theorem Bundle.done_good {h : Bundle} (g : h.Good) (op : Op) (hh : h.has = true) : (h.done op).Good := by
  unfold Bundle.done
  split
  · exact ⟨g.pos, g.own, g.hasnt, g.has, fun h0 => by simp only at h0; rw [hh] at h0; cases h0⟩
  · exact g
theorem Bundle.done_count (h : Bundle) (op : Op) : (h.done op).count = h.count := by unfold Bundle.done; split <;> rfl
theorem Bundle.may_iff {h : Bundle} {write : Bool} {tokens : Int} : h.may write tokens = true ↔ 1 ≤ h.count ∧ h.has = true ∧ (write = true → h.count = tokens) := by
  unfold Bundle.may
  cases write <;> simp [and_assoc]

/-! ### The cache -/
structure CacheM where
  lines : Lines
  tok : Int → Bundle
structure CacheM.Ok (c : CacheM) : Prop where
  lines : c.lines.Ok
  good : ∀ b, (c.tok b).Good
  mem : ∀ b, b ∈ c.lines.all ↔ 0 < (c.tok b).count
def CacheM.new (s w : Int) : CacheM := ⟨Lines.new s w, fun _ => Bundle.none⟩
def CacheM.put (c : CacheM) (b : Int) (t : Bundle) : CacheM := ⟨c.lines, fun j => if j = b then t else c.tok j⟩
def CacheM.set (c : CacheM) (b : Int) (t : Bundle) : CacheM := ⟨if 0 < t.count then c.lines else c.lines.rem b, fun j => if j = b then t else c.tok j⟩
def CacheM.use (c : CacheM) (b : Int) : CacheM := ⟨c.lines.use b, c.tok⟩
def CacheM.lay (c : CacheM) (b : Int) (t : Bundle) : CacheM := ⟨c.lines.add b, fun j => if j = b then t else c.tok j⟩
def CacheM.absorb (c : CacheM) (block : Int) (b : Bundle) (pinned : Int) : CacheM × Line × Bool :=
  if b.count < 1 then (c, Line.none, false)
  else if c.lines.has block = true then ((c.use block).set block ((c.tok block).join b), Line.none, false)
  else if (c.lines.victim block pinned).2 = false then (c, ⟨block, b⟩, true)
  else if c.lines.has (c.lines.victim block pinned).1 = true then ((c.set (c.lines.victim block pinned).1 Bundle.none).lay block b, ⟨(c.lines.victim block pinned).1, c.tok (c.lines.victim block pinned).1⟩, true)
  else (c.lay block b, Line.none, false)
def CacheM.take (c : CacheM) (block count : Int) (owner data : Bool) : CacheM × Bundle :=
  (c.set block ((c.tok block).split count owner data).2, ((c.tok block).split count owner data).1)
def CacheM.does (c : CacheM) (op : Op) (tokens : Int) : CacheM × Int × Bool :=
  if (c.tok op.block).may op.write tokens = true then ((c.set op.block ((c.tok op.block).done op)).use op.block, ((c.tok op.block).done op).data, true) else (c, 0, false)
def CacheM.all (c : CacheM) : List Line := c.lines.list.map fun b => ⟨b, c.tok b⟩

theorem CacheM.new_ok (s w : Int) : (CacheM.new s w).Ok := ⟨Lines.new_ok s w, fun _ => Bundle.none_good, fun b => by simp [CacheM.new, Lines.new, Bundle.none]⟩
theorem CacheM.Ok.none {c : CacheM} (h : c.Ok) {b : Int} (hb : b ∉ c.lines.all) : c.tok b = Bundle.none := by
  have h1 := h.mem b
  have h2 := (h.good b).pos
  exact Bundle.eq_none (h.good b) (by
    by_cases h3 : 0 < (c.tok b).count
    · exact absurd (h1.2 h3) hb
    · omega)
theorem CacheM.set_ok {c : CacheM} (h : c.Ok) {b : Int} {t : Bundle} (g : t.Good) (hb : 0 < t.count → b ∈ c.lines.all) : (c.set b t).Ok := by
  refine ⟨?_, fun j => ?_, fun j => ?_⟩
  · simp only [CacheM.set]
    split
    · exact h.lines
    · exact Lines.rem_ok h.lines b
  · simp only [CacheM.set]
    split
    · exact g
    · exact h.good j
  · simp only [CacheM.set]
    by_cases ht : 0 < t.count
    · rw [if_pos ht]
      split
      · rename_i e; subst e
        exact ⟨fun _ => ht, fun _ => hb ht⟩
      · exact h.mem j
    · rw [if_neg ht]
      simp only [Lines.rem]
      rw [h.lines.nodup.erase_eq_filter]
      split
      · rename_i e; subst e
        simp [ht]
      · rename_i e
        rw [← h.mem j]
        simp [e]
theorem use_mem {l : Lines} (h : l.Ok) (b x : Int) : x ∈ (l.use b).all ↔ x ∈ l.all := by
  unfold Lines.use
  split
  · rename_i hb
    rw [Lines.has_iff] at hb
    simp only
    rw [h.nodup.erase_eq_filter]
    by_cases e : x = b
    · subst e; simp [hb]
    · simp [e]
  · exact Iff.rfl
theorem CacheM.use_ok {c : CacheM} (h : c.Ok) (b : Int) : (c.use b).Ok := ⟨Lines.use_ok h.lines b, h.good, fun j => (use_mem h.lines b j).trans (h.mem j)⟩
theorem CacheM.lay_ok {c : CacheM} (h : c.Ok) {b : Int} {t : Bundle} (g : t.Good) (ht : 0 < t.count) (hb : c.lines.can b = true) : (c.lay b t).Ok := by
  refine ⟨Lines.add_ok h.lines b, fun j => ?_, fun j => ?_⟩
  · simp only [CacheM.lay]
    split
    · exact g
    · exact h.good j
  · simp only [CacheM.lay]
    rw [Lines.add, if_pos hb]
    split
    · rename_i e; subst e
      simp [ht]
    · rename_i e
      rw [← h.mem j]
      simp [e]
theorem CacheM.none_pos : ¬ 0 < Bundle.none.count := by decide
theorem CacheM.set_none_lines (c : CacheM) (b : Int) : (c.set b Bundle.none).lines = c.lines.rem b := by simp only [CacheM.set]; rw [if_neg CacheM.none_pos]
/-- What Absorb's case may be. -/
theorem absorb_can {c : CacheM} (h : c.Ok) {block pinned : Int} (h1 : c.lines.has block = false) (h2 : (c.lines.victim block pinned).2 = true) :
    (c.lines.has (c.lines.victim block pinned).1 = true → (c.lines.rem (c.lines.victim block pinned).1).can block = true ∧ (c.lines.victim block pinned).1 ≠ pinned ∧ (c.lines.victim block pinned).1 ≠ block) ∧
    (c.lines.has (c.lines.victim block pinned).1 = false → c.lines.can block = true) := by
  obtain ⟨f1, f2, f3, f4⟩ := victim_facts h.lines block pinned
  have neg : ∀ x, x = -1 → c.lines.has x = false := fun x hx => by
    cases hh : c.lines.has x with
    | false => rfl
    | true => have := h.lines.pos x ((c.lines.has_iff x).1 hh); omega
  cases hc : c.lines.can block with
  | true =>
    have := neg _ (f3 h2 h1 hc)
    rw [this]
    exact ⟨(fun h => by cases h), fun _ => rfl⟩
  | false =>
    obtain ⟨g1, g2, g3⟩ := f4 h2 h1 hc
    rw [g2]
    exact ⟨fun _ => ⟨g3, g1, fun e => by rw [e] at g2; rw [g2] at h1; cases h1⟩, (fun h => by cases h)⟩
theorem CacheM.absorb_ok {c : CacheM} (h : c.Ok) (block : Int) {b : Bundle} (g : b.Good) (pinned : Int) : (c.absorb block b pinned).1.Ok := by
  unfold CacheM.absorb
  split
  · exact h
  split
  · rename_i h1 h2
    refine CacheM.set_ok (CacheM.use_ok h block) (Bundle.join_good (h.good block) g) fun _ => ?_
    exact (use_mem h.lines block block).2 ((c.lines.has_iff block).1 h2)
  split
  · exact h
  rename_i h1 h2 h3
  obtain ⟨a1, a2⟩ := absorb_can (pinned := pinned) h (by simpa using h2) (by simpa using h3)
  split
  · rename_i h4
    refine CacheM.lay_ok (CacheM.set_ok h Bundle.none_good fun hh => absurd hh CacheM.none_pos) g (by omega) ?_
    rw [CacheM.set_none_lines]
    exact (a1 h4).1
  · rename_i h4
    exact CacheM.lay_ok h g (by omega) (a2 (by simpa using h4))
theorem CacheM.take_ok {c : CacheM} (h : c.Ok) (block count : Int) (owner data : Bool) : (c.take block count owner data).1.Ok := by
  refine CacheM.set_ok h (Bundle.split_good (h.good block) count owner data).2 fun hp => ?_
  rw [h.mem block]
  have h1 := Bundle.split_count (h.good block) count owner data
  have h2 := (Bundle.split_good (h.good block) count owner data).1.pos
  omega
theorem CacheM.does_ok {c : CacheM} (h : c.Ok) (op : Op) (tokens : Int) : (c.does op tokens).1.Ok := by
  unfold CacheM.does
  split
  · rename_i hm
    obtain ⟨m1, m2, m3⟩ := Bundle.may_iff.1 hm
    exact CacheM.use_ok (CacheM.set_ok h (Bundle.done_good (h.good _) op m2) fun _ => (h.mem _).2 (by omega)) _
  · exact h
end Go.Proofs.YtchlioikkhnidaaGreat

/-
  The document's cache, plainly: the tokens as a list of lines. No program is named.
-/
set_option linter.unusedVariables false
set_option linter.unusedSimpArgs false
namespace Go.Proofs.YtchlioikkhnidaaGreat
open Go.RowKit

def lookD : List Line → Int → Bundle
  | [], _ => Bundle.none
  | x :: D, b => if x.block = b then x.tokens else lookD D b
def setD (D : List Line) (b : Int) (t : Bundle) : List Line := (D.filter fun x => decide (x.block ≠ b)) ++ if 0 < t.count then [⟨b, t⟩] else []

structure Toks (tok : Int → Bundle) (D : List Line) : Prop where
  nodup : (D.map Line.block).Nodup
  val : ∀ x ∈ D, x.tokens = tok x.block
  pos : ∀ x ∈ D, 0 < (tok x.block).count
  all : ∀ b, 0 < (tok b).count → ∃ x ∈ D, x.block = b
theorem Toks.nil : Toks (fun _ => Bundle.none) [] := ⟨by simp, by simp, by simp, fun b h => absurd h CacheM.none_pos⟩
theorem lookD_mem : ∀ (D : List Line) (b : Int), (∃ x ∈ D, x.block = b ∧ x.tokens = lookD D b) ∨ ((∀ x ∈ D, x.block ≠ b) ∧ lookD D b = Bundle.none)
  | [], b => .inr ⟨by simp, rfl⟩
  | x :: D, b => by
    rw [lookD]
    by_cases h : x.block = b
    · rw [if_pos h]; exact .inl ⟨x, List.mem_cons_self, h, rfl⟩
    · rw [if_neg h]
      rcases lookD_mem D b with ⟨y, hy, e⟩ | ⟨h1, h2⟩
      · exact .inl ⟨y, List.mem_cons_of_mem _ hy, e⟩
      · refine .inr ⟨fun y hy => ?_, h2⟩
        rcases List.mem_cons.1 hy with rfl | hy
        · exact h
        · exact h1 y hy
theorem Toks.look {tok : Int → Bundle} {D : List Line} (h : Toks tok D) (g : ∀ b, (tok b).Good) (b : Int) : lookD D b = tok b := by
  rcases lookD_mem D b with ⟨x, hx, e1, e2⟩ | ⟨h1, h2⟩
  · rw [← e2, h.val x hx, e1]
  · rw [h2]
    refine (Bundle.eq_none (g b) ?_).symm
    have := (g b).pos
    by_cases hp : 0 < (tok b).count
    · obtain ⟨x, hx, e⟩ := h.all b hp
      exact absurd e (h1 x hx)
    · omega
theorem Toks.set {tok : Int → Bundle} {D : List Line} (h : Toks tok D) (b : Int) (t : Bundle) : Toks (fun j => if j = b then t else tok j) (setD D b t) := by
  unfold setD
  refine ⟨?_, ?_, ?_, ?_⟩
  · rw [List.map_append, List.nodup_append]
    refine ⟨?_, ?_, ?_⟩
    · refine List.Nodup.sublist ?_ h.nodup
      exact List.Sublist.map _ List.filter_sublist
    · split <;> simp
    · intro x hx y hy
      obtain ⟨u, hu, rfl⟩ := List.mem_map.1 hx
      obtain ⟨z, hz, rfl⟩ := List.mem_map.1 hy
      have h1 : u.block ≠ b := by simpa using (List.mem_filter.1 hu).2
      split at hz
      · simp at hz; subst hz; exact h1
      · simp at hz
  · intro x hx
    rcases List.mem_append.1 hx with hx | hx
    · obtain ⟨h1, h2⟩ := List.mem_filter.1 hx
      have h2' : x.block ≠ b := by simpa using h2
      simp only [if_neg h2']
      exact h.val x h1
    · split at hx
      · simp at hx; subst hx; simp
      · simp at hx
  · intro x hx
    rcases List.mem_append.1 hx with hx | hx
    · obtain ⟨h1, h2⟩ := List.mem_filter.1 hx
      have h2' : x.block ≠ b := by simpa using h2
      simp only [if_neg h2']
      exact h.pos x h1
    · split at hx
      · rename_i hp
        simp at hx; subst hx; simpa using hp
      · simp at hx
  · intro j hj
    by_cases e : j = b
    · subst e
      simp only [if_true] at hj
      exact ⟨⟨j, t⟩, by rw [if_pos hj]; simp, rfl⟩
    · simp only [if_neg e] at hj
      obtain ⟨x, hx, e'⟩ := h.all j hj
      exact ⟨x, List.mem_append_left _ (List.mem_filter.2 ⟨hx, by simpa [e'] using e⟩), e'⟩
theorem nodup_sub_length : ∀ (a b : List Int), a.Nodup → (∀ x ∈ a, x ∈ b) → a.length ≤ b.length
  | [], b, _, _ => by simp
  | x :: a, b, hn, hs => by
    obtain ⟨h1, h2⟩ := List.nodup_cons.1 hn
    have hx := hs x List.mem_cons_self
    have := nodup_sub_length a (b.erase x) h2 fun y hy => (List.mem_erase_of_ne (fun e => h1 (by rw [← e]; exact hy))).2 (hs y (List.mem_cons_of_mem _ hy))
    rw [List.length_erase_of_mem hx] at this
    have := List.length_pos_of_mem hx
    simp only [List.length_cons]; omega
theorem Toks.few {c : CacheM} {D : List Line} (h : Toks c.tok D) (ok : c.Ok) : D.length ≤ 1024 := by
  have h1 := nodup_sub_length (D.map Line.block) c.lines.all h.nodup fun x hx => by
    obtain ⟨y, hy, rfl⟩ := List.mem_map.1 hx
    exact (ok.mem _).2 (h.pos y hy)
  rw [List.length_map] at h1
  exact Nat.le_trans h1 (Lines.few ok.lines)
theorem setD_len (D : List Line) (b : Int) (t : Bundle) : (setD D b t).length ≤ D.length + 1 := by
  unfold setD
  have h := List.length_filter_le (fun x : Line => decide (x.block ≠ b)) D
  rw [List.length_append]
  split
  · simp only [List.length_singleton]; omega
  · simp only [List.length_nil]; omega
end Go.Proofs.YtchlioikkhnidaaGreat

/-
  A node, plainly: its timer, processor, table, advice, and what letters may be. No program is named.
-/
set_option linter.unusedVariables false
set_option linter.unusedSimpArgs false
namespace Go.Proofs.YtchlioikkhnidaaGreat
open Go.RowKit

/-! ### Letters -/
def Config.err (c : Config) : Int :=
  if c.sets < 1 ∨ 64 < c.sets ∨ c.ways < 1 ∨ 16 < c.ways ∨ c.cap < 1 ∨ 65536 < c.cap ∨ c.wait < 1 ∨ 64 < c.wait ∨ c.tries < 0 ∨ 8 < c.tries ∨ c.policy < 0 ∨ 2 < c.policy then 1
  else if c.nodes < 1 ∨ 64 < c.nodes then 2
  else if c.blocks < 1 ∨ 64 < c.blocks then 3
  else if c.tokens < c.nodes ∨ 65536 < c.tokens then 4
  else 0
/-- What may be. -/
structure Config.Fine (c : Config) : Prop where
  sets : 1 ≤ c.sets ∧ c.sets ≤ 64
  ways : 1 ≤ c.ways ∧ c.ways ≤ 16
  cap : 1 ≤ c.cap ∧ c.cap ≤ 65536
  wait : 1 ≤ c.wait ∧ c.wait ≤ 64
  tries : 0 ≤ c.tries ∧ c.tries ≤ 8
  policy : 0 ≤ c.policy ∧ c.policy ≤ 2
  nodes : 1 ≤ c.nodes ∧ c.nodes ≤ 64
  blocks : 1 ≤ c.blocks ∧ c.blocks ≤ 64
  tokens : c.nodes ≤ c.tokens ∧ c.tokens ≤ 65536
theorem Config.err_zero {c : Config} : c.err = 0 ↔ c.Fine := by
  unfold Config.err
  constructor
  · intro h
    split at h
    · omega
    split at h
    · omega
    split at h
    · omega
    split at h
    · omega
    exact ⟨by omega, by omega, by omega, by omega, by omega, by omega, by omega, by omega, by omega⟩
  · intro h
    obtain ⟨a, b, d, e, f, g, i, j, k⟩ := h
    rw [if_neg (by omega), if_neg (by omega), if_neg (by omega), if_neg (by omega)]
def isNode (c : Config) (n : Int) : Bool := decide (0 ≤ n) && decide (n < c.nodes)
def isAny (c : Config) (n : Int) : Bool := decide (n = c.nodes) || isNode c n
def Letter.ends (c : Config) (l : Letter) : Bool :=
  decide (l.src ≠ l.dst) &&
  (if l.kind = 1 then isAny c l.src && isAny c l.dst
   else if l.kind = 2 then isNode c l.src && isAny c l.dst
   else if l.kind = 4 ∨ l.kind = 6 then decide (l.src = c.nodes) && isNode c l.dst
   else isNode c l.src && decide (l.dst = c.nodes))
/-- May a letter be on its way? -/
structure Letter.Legal (c : Config) (l : Letter) : Prop where
  kind : 1 ≤ l.kind ∧ l.kind ≤ 7
  block : 0 ≤ l.block ∧ l.block < c.blocks
  ends : l.ends c = true
  seq : if 4 ≤ l.kind then 1 ≤ l.seq else l.seq = 0
  who : if l.kind = 4 then isNode c l.who = true else l.who = 0
  write : l.write = true → l.kind = 2
  other : l.kind ≠ 1 → l.tokens = Bundle.none
  good : l.kind = 1 → l.tokens.Good ∧ l.tokens.count ≤ c.tokens ∧ l.tokens.count ≠ 0
def Letter.formed (c : Config) (l : Letter) : Bool :=
  (if 4 ≤ l.kind then decide (1 ≤ l.seq) else decide (l.seq = 0)) && (if l.kind = 4 then isNode c l.who else decide (l.who = 0)) && (!l.write || decide (l.kind = 2))
/-- The error: 0: it may be on its way. -/
def Letter.err (c : Config) (l : Letter) : Int :=
  if l.kind < 1 ∨ 7 < l.kind then 7
  else if l.block < 0 ∨ c.blocks ≤ l.block then 3
  else if l.ends c = false then 8
  else if l.formed c = false then 10
  else if l.kind ≠ 1 then (if l.tokens ≠ Bundle.none then 6 else 0)
  else if l.tokens.check c.tokens ≠ 0 then l.tokens.check c.tokens
  else if l.tokens.count = 0 then 4 else 0
theorem Letter.err_zero {c : Config} {l : Letter} : l.err c = 0 ↔ l.Legal c := by
  unfold Letter.err
  constructor
  · intro h
    split at h
    · omega
    split at h
    · omega
    split at h
    · omega
    split at h
    · omega
    rename_i h1 h2 h3 h4
    have h3' : l.ends c = true := by simpa using h3
    have h4' : l.formed c = true := by simpa using h4
    unfold Letter.formed at h4'
    simp only [Bool.and_eq_true, Bool.or_eq_true, Bool.not_eq_true', decide_eq_true_eq] at h4'
    obtain ⟨⟨f1, f2⟩, f3⟩ := h4'
    refine ⟨by omega, by omega, h3', ?_, ?_, ?_, ?_, ?_⟩
    · by_cases hk : 4 ≤ l.kind
      · rw [if_pos hk] at f1 ⊢; simpa using f1
      · rw [if_neg hk] at f1 ⊢; simpa using f1
    · by_cases hk : l.kind = 4
      · rw [if_pos hk] at f2 ⊢; simpa using f2
      · rw [if_neg hk] at f2 ⊢; simpa using f2
    · intro hw
      rcases f3 with f3 | f3
      · rw [hw] at f3; cases f3
      · exact f3
    · intro hk
      rw [if_pos hk] at h
      by_cases ht : l.tokens = Bundle.none
      · exact ht
      · rw [if_pos ht] at h; omega
    · intro hk
      rw [if_neg (fun h => h hk)] at h
      split at h
      · rename_i hc; exact absurd h hc
      · rename_i hc
        split at h
        · omega
        · rename_i h0
          obtain ⟨g, hle⟩ := Bundle.check_zero.1 (by simpa using hc)
          exact ⟨g, hle, h0⟩
  · rintro ⟨h1, h2, h3, h4, h5, h6, h7, h8⟩
    rw [if_neg (by omega), if_neg (by omega), if_neg (by simp [h3])]
    have hf : l.formed c = true := by
      unfold Letter.formed
      simp only [Bool.and_eq_true, Bool.or_eq_true, Bool.not_eq_true', decide_eq_true_eq]
      refine ⟨⟨?_, ?_⟩, ?_⟩
      · by_cases hk : 4 ≤ l.kind
        · rw [if_pos hk] at h4 ⊢; simpa using h4
        · rw [if_neg hk] at h4 ⊢; simpa using h4
      · by_cases hk : l.kind = 4
        · rw [if_pos hk] at h5 ⊢; simpa using h5
        · rw [if_neg hk] at h5 ⊢; simpa using h5
      · cases hw : l.write with
        | true => exact .inr (h6 hw)
        | false => exact .inl rfl
    rw [if_neg (by simp [hf])]
    by_cases hk : l.kind = 1
    · obtain ⟨g, hle, h0⟩ := h8 hk
      have hc := Bundle.check_zero.2 ⟨g, hle⟩
      rw [if_neg (fun h => h hk), if_neg (by simp [hc]), if_neg h0]
    · rw [if_pos hk, if_neg (by simp [h7 hk])]
def Letter.legal (c : Config) (l : Letter) : Bool := decide (l.err c = 0)
theorem Letter.legal_iff {c : Config} {l : Letter} : l.legal c = true ↔ l.Legal c := by
  unfold Letter.legal
  rw [decide_eq_true_eq]; exact Letter.err_zero
def Letter.tok (src dst block : Int) (b : Bundle) : Letter := ⟨1, src, dst, block, 0, 0, false, b⟩
def Letter.plain (kind src dst block seq who : Int) : Letter := ⟨kind, src, dst, block, seq, who, false, Bundle.none⟩

/-! ### Timer and processor -/
structure Timer where
  left : Int
  tries : Int
  over : Bool
  deriving DecidableEq, Inhabited
def Timer.start (wait : Int) : Timer := ⟨max wait 1, 0, false⟩
def Timer.tick (t : Timer) (wait tries : Int) : Timer × Int :=
  if t.over = true then (t, 0)
  else if 1 < t.left then ({ t with left := t.left - 1 }, 0)
  else if t.tries < tries then (⟨wait * 2 ^ (t.tries + 1).toNat, t.tries + 1, false⟩, 1)
  else (⟨0, t.tries, true⟩, 2)
structure Timer.Ok (t : Timer) (tries : Int) : Prop where
  t0 : 0 ≤ t.tries
  t1 : t.tries ≤ tries
  l0 : 0 ≤ t.left
  l1 : t.left ≤ 1000000
structure Proc where
  timer : Timer
  wait : Int
  tries : Int
  number : Int
  op : Op
  busy : Bool
  deriving DecidableEq, Inhabited
def Op.zero : Op := ⟨0, false, 0⟩
def Proc.new (wait tries : Int) : Proc := ⟨⟨0, 0, false⟩, wait, tries, 0, Op.zero, false⟩
def Proc.issue (p : Proc) (op : Op) : Proc × Bool :=
  if p.busy = true then (p, false) else ({ p with timer := Timer.start p.wait, number := p.number + 1, op := op, busy := true }, true)
def Proc.finish (p : Proc) : Proc × Int × Bool := if p.busy = true then ({ p with op := Op.zero, busy := false }, p.number, true) else (p, 0, false)
def Proc.tick (p : Proc) : Proc × Int := if p.busy = true then ({ p with timer := (p.timer.tick p.wait p.tries).1 }, (p.timer.tick p.wait p.tries).2) else (p, 0)
def Proc.pinned (p : Proc) : Int := if p.busy = true then p.op.block else -1
structure Proc.Ok (p : Proc) : Prop where
  timer : p.timer.Ok p.tries
  wait : 1 ≤ p.wait ∧ p.wait ≤ 64
  tries : 0 ≤ p.tries ∧ p.tries ≤ 8
  number : 0 ≤ p.number ∧ p.number ≤ 1000000000

/-! ### Table -/
structure Table where
  act : Int → Active
  over : Int → Int
def Active.zero : Active := ⟨0, 0, 0⟩
def Table.new : Table := ⟨fun _ => Active.zero, fun _ => 0⟩
def Table.on (t : Table) (b : Int) : Bool := decide (0 < (t.act b).seq)
def Table.activate (t : Table) (a : Active) : Table × Bool :=
  if a.seq < 1 ∨ a.seq ≤ t.over a.block ∨ a.seq ≤ (t.act a.block).seq then (t, false)
  else (⟨fun j => if j = a.block then a else t.act j, t.over⟩, true)
def Table.deactivate (t : Table) (block seq : Int) : Table :=
  ⟨fun j => if j = block ∧ (t.act block).seq ≤ seq then Active.zero else t.act j, fun j => if j = block then max (t.over block) seq else t.over j⟩
def Table.list (t : Table) : List Active := (((List.range 64).map Int.ofNat).filter t.on).map t.act
structure Table.Ok (t : Table) : Prop where
  none : ∀ b, (t.act b).seq ≤ 0 → t.act b = Active.zero
  block : ∀ b, 0 < (t.act b).seq → (t.act b).block = b ∧ 0 ≤ b ∧ b < 64

/-! ### Advice -/
def bitI (n : Int) (k : Int) : Bool := decide (n % 18446744073709551616 / 2 ^ k.toNat % 2 = 1)
def Draws.at (d : Draws) (k : Int) : Int := if k = 0 then d.d0 else if k = 1 then d.d1 else d.d2
def asked (c : Config) (d : Draws) (n : Int) : Bool := decide (c.policy = 1) || (decide (c.policy = 2) && bitI (d.at (n / 64)) (n % 64))
def targets (c : Config) (self : Int) (d : Draws) : List Int :=
  ((List.range (c.nodes + 1).toNat).map Int.ofNat).filter fun n => asked c d n && decide (n ≠ self)
def reply (policy : Int) (h : Bundle) (write : Bool) (d : Draws) : Int × Bool × Bool :=
  if policy = 2 then (d.d0, bitI d.d1 0, bitI d.d1 1)
  else if policy ≠ 1 then (0, false, false)
  else if write = true then (h.count, true, h.owner)
  else if h.owner = true then (1, decide (h.count < 2), true)
  else (0, false, false)

/-! ### The node -/
structure Node where
  c : Config
  id : Int
  cache : CacheM
  table : Table
  cpu : Proc
  asked : Int → Bool
  told : Int → Int
def Node.new (c : Config) (id : Int) : Node := ⟨c, id, CacheM.new c.sets c.ways, Table.new, Proc.new c.wait c.tries, fun _ => false, fun _ => 0⟩
def Node.own (n : Node) (b : Int) : Bool := n.table.on b && decide ((n.table.act b).node = n.id)
def Node.other (n : Node) (b : Int) : Bool := n.table.on b && decide ((n.table.act b).node ≠ n.id)
def Node.home (n : Node) (kind block seq : Int) : Letter := Letter.plain kind n.id n.c.nodes block seq 0
def Node.endL (n : Node) (b : Int) : Node × List Letter :=
  if n.own b = false ∨ (n.table.act b).seq ≤ n.told b then (n, [])
  else ({ n with told := fun j => if j = b then (n.table.act b).seq else n.told j, asked := fun j => if j = b then false else n.asked j }, [n.home 5 b (n.table.act b).seq])
def Node.settle (n : Node) : Node × List Letter × List Done :=
  if n.cpu.busy = false then (n, [], [])
  else if (n.cache.does n.cpu.op n.c.tokens).2.2 = false then (n, [], [])
  else
    let n1 : Node := { n with cache := (n.cache.does n.cpu.op n.c.tokens).1, cpu := n.cpu.finish.1 }
    ((n1.endL n.cpu.op.block).1, (n1.endL n.cpu.op.block).2, [⟨n.id, n.cpu.number, n.cpu.op, (n.cache.does n.cpu.op n.c.tokens).2.1, 0⟩])
def Node.ask (n : Node) (op : Op) (d : Draws) : List Letter := (targets n.c n.id d).map fun dst => ⟨2, n.id, dst, op.block, 0, 0, op.write, Bundle.none⟩
def Node.issue (n : Node) (op : Op) (d : Draws) : Node × List Letter × List Done × Bool :=
  if op.block < 0 ∨ n.c.blocks ≤ op.block ∨ n.cpu.busy = true then (n, [], [], false)
  else
    let s := Node.settle { n with cpu := (n.cpu.issue op).1 }
    (s.1, if s.1.cpu.busy = true then s.2.1 ++ s.1.ask op d else s.2.1, s.2.2, true)
def tokL (src dst block : Int) (b : Bundle) : List Letter := if 0 < b.count then [Letter.tok src dst block b] else []
def Node.tokens (n : Node) (l : Letter) : Node × List Letter × List Done :=
  if n.other l.block = true then (n, [Letter.tok n.id (n.table.act l.block).node l.block l.tokens], [])
  else
    let a := n.cache.absorb l.block l.tokens n.cpu.pinned
    let s := Node.settle { n with cache := a.1 }
    (s.1, (if a.2.2 = true then [Letter.tok n.id n.c.nodes a.2.1.block a.2.1.tokens] else []) ++ s.2.1, s.2.2)
def Node.asks (n : Node) (l : Letter) (d : Draws) : Node × List Letter :=
  if n.own l.block = true ∧ n.cpu.pinned = l.block then (n, [])
  else
    let r := reply n.c.policy (n.cache.tok l.block) l.write d
    let t := n.cache.take l.block r.1 r.2.1 r.2.2
    ({ n with cache := t.1 }, tokL n.id l.src l.block t.2)
def Node.activate (n : Node) (l : Letter) : Node × List Letter :=
  if (n.table.activate ⟨l.block, l.who, l.seq⟩).2 = false then (n, [])
  else
    let n1 : Node := { n with table := (n.table.activate ⟨l.block, l.who, l.seq⟩).1 }
    if l.who = n.id then (if n.cpu.pinned = l.block then (n1, []) else n1.endL l.block)
    else
      let t := n.cache.take l.block (n.cache.tok l.block).count true true
      ({ n1 with cache := t.1 }, tokL n.id l.who l.block t.2)
def Node.deactivate (n : Node) (l : Letter) : Node × List Letter :=
  ({ n with table := n.table.deactivate l.block l.seq }, [n.home 7 l.block l.seq])
def Node.take (n : Node) (l : Letter) (d : Draws) : Node × List Letter × List Done :=
  if l.legal n.c = false ∨ l.dst ≠ n.id then (n, [], [])
  else if l.kind = 1 then n.tokens l
  else if l.kind = 2 then ((n.asks l d).1, (n.asks l d).2, [])
  else if l.kind = 4 then ((n.activate l).1, (n.activate l).2, [])
  else if l.kind = 6 then ((n.deactivate l).1, (n.deactivate l).2, [])
  else (n, [], [])
def Node.tick (n : Node) (d : Draws) : Node × List Letter :=
  let t := n.cpu.tick
  let n1 : Node := { n with cpu := t.1 }
  if t.2 = 1 then (n1, n.ask n.cpu.op d)
  else if t.2 = 2 ∧ n.asked n.cpu.op.block = false then ({ n1 with asked := fun j => if j = n.cpu.op.block then true else n.asked j }, [n.home 3 n.cpu.op.block 0])
  else (n1, [])

structure Node.Ok (n : Node) : Prop where
  c : n.c.Fine
  id : 0 ≤ n.id ∧ n.id < n.c.nodes
  cache : n.cache.Ok
  table : n.table.Ok
  cpu : n.cpu.Ok
  wait : n.cpu.wait = n.c.wait
  tries : n.cpu.tries = n.c.tries
  block : n.cpu.busy = true → 0 ≤ n.cpu.op.block ∧ n.cpu.op.block < n.c.blocks
  tok : ∀ b, (n.cache.tok b).count ≤ 1000000000
end Go.Proofs.YtchlioikkhnidaaGreat

/-
  A node, plainly: what an operation's tokens do with it. No program is named.
-/
set_option linter.unusedVariables false
set_option linter.unusedSimpArgs false
namespace Go.Proofs.YtchlioikkhnidaaGreat
open Go.RowKit
theorem clamp_pos (n : Int) : 1 ≤ clampI n 1 16 := by unfold clampI; omega
theorem new_absorb (s w block : Int) (b : Bundle) (p : Int) (hb : 1 ≤ b.count) (h0 : 0 ≤ block) : (CacheM.new s w).absorb block b p = ((CacheM.new s w).lay block b, Line.none, false) := by
  have hw := clamp_pos w
  have hv : (CacheM.new s w).lines.victim block p = (-1, true) := by
    show Lines.victim ⟨clampI s 1 64, clampI w 1 16, []⟩ block p = (-1, true)
    unfold Lines.victim
    rw [if_neg (by omega), if_pos]
    have hp : (0 : Int) < clampI w 1 16 := by omega
    simp [Lines.mates, Lines.row, Lines.has, hp]
  unfold CacheM.absorb
  rw [if_neg (by omega), if_neg (by simp [CacheM.new, Lines.new, Lines.has]), hv, if_neg (by simp), if_neg (by simp [CacheM.new, Lines.new, Lines.has])]
/-- It is asked for an operation, and has nothing. -/
theorem issue_new (c : Config) (id : Int) (op : Op) (d : Draws) (h : 0 ≤ op.block ∧ op.block < c.blocks) :
    (Node.new c id).issue op d = ({ Node.new c id with cpu := ((Proc.new c.wait c.tries).issue op).1 }, Node.ask { Node.new c id with cpu := ((Proc.new c.wait c.tries).issue op).1 } op d, [], true) := by
  have hs : Node.settle { Node.new c id with cpu := ((Proc.new c.wait c.tries).issue op).1 } = ({ Node.new c id with cpu := ((Proc.new c.wait c.tries).issue op).1 }, [], []) := by
    unfold Node.settle
    rw [if_neg (by simp [Proc.issue, Proc.new]), if_pos]
    simp [CacheM.does, Node.new, CacheM.new, Bundle.may, Bundle.none]
  have hset : (Node.new c id).issue op d = if op.block < 0 ∨ c.blocks ≤ op.block ∨ (Proc.new c.wait c.tries).busy = true then (Node.new c id, [], [], false) else
      ((Node.settle { Node.new c id with cpu := ((Proc.new c.wait c.tries).issue op).1 }).1, if (Node.settle { Node.new c id with cpu := ((Proc.new c.wait c.tries).issue op).1 }).1.cpu.busy = true then (Node.settle { Node.new c id with cpu := ((Proc.new c.wait c.tries).issue op).1 }).2.1 ++ (Node.settle { Node.new c id with cpu := ((Proc.new c.wait c.tries).issue op).1 }).1.ask op d else (Node.settle { Node.new c id with cpu := ((Proc.new c.wait c.tries).issue op).1 }).2.1, (Node.settle { Node.new c id with cpu := ((Proc.new c.wait c.tries).issue op).1 }).2.2, true) := rfl
  rw [hset, if_neg (by simp [Proc.new]; omega), hs]
  have hb : ((Proc.new c.wait c.tries).issue op).1.busy = true := by simp [Proc.issue, Proc.new]
  simp only [hb, if_true, List.nil_append]
def loadMay (c : Config) (op : Op) (b : Bundle) : Bool := b.has && (!op.write || decide (b.count = c.tokens))
theorem loads_plain (c : Config) (op : Op) (b : Bundle) (d : Draws) (hl : Letter.Legal c ⟨1, c.nodes, 0, op.block, 0, 0, false, b⟩) (hb : 0 ≤ op.block ∧ op.block < c.blocks) :
    let n := (({ Node.new c 0 with cpu := ((Proc.new c.wait c.tries).issue op).1 } : Node).take ⟨1, c.nodes, 0, op.block, 0, 0, false, b⟩ d)
    n.2.1 = [] ∧ n.1.cpu.busy = !loadMay c op b ∧ n.2.2 = if loadMay c op b = true then [⟨0, 1, op, if op.write = true then op.value else b.data, 0⟩] else [] := by
  intro n
  obtain ⟨g, hle, h0⟩ := hl.good rfl
  have hc1 : 1 ≤ b.count := by have := g.pos; simp only at this h0; omega
  obtain ⟨n1, hn1⟩ : ∃ x : Node, x = { Node.new c 0 with cpu := ((Proc.new c.wait c.tries).issue op).1 } := ⟨_, rfl⟩
  have hleg : Letter.legal n1.c ⟨1, c.nodes, 0, op.block, 0, 0, false, b⟩ = true := by rw [hn1]; exact Letter.legal_iff.2 hl
  have hoth : n1.other op.block = false := by rw [hn1]; simp [Node.other, Node.new, Table.new, Table.on, Active.zero]
  have hown : ∀ (ca : CacheM) (p : Proc) (x : Int), Node.own { n1 with cache := ca, cpu := p } x = false := fun ca p x => by rw [hn1]; simp [Node.own, Node.new, Table.new, Table.on, Active.zero]
  have hca : n1.cache = CacheM.new c.sets c.ways := by rw [hn1]; rfl
  have hab := new_absorb c.sets c.ways op.block b n1.cpu.pinned hc1 hb.1
  have ht : n = ((Node.settle { n1 with cache := (CacheM.new c.sets c.ways).lay op.block b }).1, (Node.settle { n1 with cache := (CacheM.new c.sets c.ways).lay op.block b }).2.1, (Node.settle { n1 with cache := (CacheM.new c.sets c.ways).lay op.block b }).2.2) := by
    show Node.take { Node.new c 0 with cpu := ((Proc.new c.wait c.tries).issue op).1 } _ _ = _
    rw [← hn1]
    unfold Node.take
    rw [if_neg (by rw [hleg]; simp [hn1, Node.new]), if_pos rfl]
    unfold Node.tokens
    simp only
    rw [hoth, if_neg (by simp), hca, hab]
    simp
  have hcpu : n1.cpu = ((Proc.new c.wait c.tries).issue op).1 := by rw [hn1]
  have hop : n1.cpu.op = op ∧ n1.cpu.busy = true ∧ n1.cpu.number = 1 := by rw [hcpu]; simp [Proc.issue, Proc.new]
  have hid : n1.id = 0 ∧ n1.c = c := by rw [hn1]; exact ⟨rfl, rfl⟩
  have htok : ((CacheM.new c.sets c.ways).lay op.block b).tok op.block = b := by simp [CacheM.lay]
  have hmay : b.may op.write c.tokens = loadMay c op b := by simp [Bundle.may, loadMay, hc1]
  rw [ht]
  unfold Node.settle
  simp only [hop.1, hop.2.1, hop.2.2, hid.1, hid.2]
  rw [if_neg (by simp)]
  by_cases hm : loadMay c op b = true
  · have hdo : ((CacheM.new c.sets c.ways).lay op.block b).does op c.tokens = ((((CacheM.new c.sets c.ways).lay op.block b).set op.block (b.done op)).use op.block, (b.done op).data, true) := by
      unfold CacheM.does
      rw [htok, hmay, if_pos hm]
    rw [hdo, if_neg (by simp)]
    have he : ∀ ca, Node.endL { n1 with cache := ca, cpu := n1.cpu.finish.1 } op.block = ({ n1 with cache := ca, cpu := n1.cpu.finish.1 }, []) := fun ca => by
      unfold Node.endL
      rw [if_pos (.inl (hown _ _ _))]
    have he' := he ((((CacheM.new c.sets c.ways).lay op.block b).set op.block (b.done op)).use op.block)
    rw [hid.1, hid.2] at he'
    simp only [he']
    refine ⟨by trivial, ?_, ?_⟩
    · simp [Proc.finish, hop.2.1, hm]
    · rw [if_pos hm]
      cases hw : op.write <;> simp [Bundle.done, hw]
  · have hdo : ((CacheM.new c.sets c.ways).lay op.block b).does op c.tokens = ((CacheM.new c.sets c.ways).lay op.block b, 0, false) := by
      unfold CacheM.does
      rw [htok, hmay, if_neg hm]
    rw [hdo, if_pos rfl]
    refine ⟨by trivial, ?_, by rw [if_neg hm]⟩
    simp [hop.2.1]
    simpa using hm
end Go.Proofs.YtchlioikkhnidaaGreat
