/-
  Words and laws of memory that the proofs of this claim share: worlds that change in some blocks alone, maps with whole numbers as keys. No program is named.
-/
import Derived.WalkKit
import Derived.Maps.OwnSet
import Derived.Maps.RangeRun
import Derived.Deep.QuietTactic
import Derived.BigQuiet
import Derived.BigRegion
import Derived.Deep.RegionHeld3
import Derived.Deep.DeepCutAuto
import Derived.KernelRfl
import Derived.Lib.Hide
import Derived.Deep.MidRow
import Derived.Maps.AppendAt
import Derived.Deep.RegionLaw
import Derived.Deep.RegionWith
namespace Go.Proofs.Ytamidchoghmmgaa
open Go.RowKit Go.MapKept
open Go.ChangeMaps (setBlock)

/-! ### 1. Worlds -/

/-- Of the blocks that were there only those in S may have changed. -/
structure Chg (S : Nat → Prop) (w w' : World) : Prop where
  os : w'.os = w.os
  tape : w'.tape = w.tape
  output : w'.output = w.output
  size : w.heap.size ≤ w'.heap.size
  block : ∀ k, k < w.heap.size → ¬ S k → w'.heap[k]? = w.heap[k]?

namespace Chg
variable {S S' : Nat → Prop} {w w1 w2 : World}
theorem refl (S : Nat → Prop) (w : World) : Chg S w w := ⟨rfl, rfl, rfl, Nat.le_refl _, fun _ _ _ => rfl⟩
theorem mono (h : Chg S w w1) (hs : ∀ k, k < w.heap.size → S k → S' k) : Chg S' w w1 :=
  ⟨h.os, h.tape, h.output, h.size, fun k hk hn => h.block k hk fun e => hn (hs k hk e)⟩
theorem trans (h : Chg S w w1) (h' : Chg S' w1 w2) (hs : ∀ k, k < w.heap.size → S' k → S k) : Chg S w w2 :=
  ⟨h'.os.trans h.os, h'.tape.trans h.tape, h'.output.trans h.output, Nat.le_trans h.size h'.size,
    fun k hk hn => (h'.block k (Nat.lt_of_lt_of_le hk h.size) fun e => hn (hs k hk e)).trans (h.block k hk hn)⟩
theorem alloc (h : Chg S w w1) (o : Obj) : Chg S w (w1.alloc o) :=
  h.trans (S' := fun _ => False) ⟨rfl, rfl, rfl, by simp, fun k hk _ => Below.heap_alloc _ _ _ hk⟩ (fun _ _ hf => hf.elim)
theorem drew (h : Chg S w w1) : Chg S w w1.drew := ⟨h.os, h.tape, h.output, h.size, h.block⟩
theorem drewN (h : Chg S w w1) (n : Nat) : Chg S w (w1.drewN n) := ⟨h.os, h.tape, h.output, h.size, h.block⟩
theorem setCell (h : Chg S w w1) (a : Addr) (v : Value) (hs : a.block < w.heap.size → S a.block) : Chg S w (w1.setCell a v) :=
  h.trans (S' := fun b => b = a.block) ⟨rfl, rfl, rfl, by simp [World.setCell], fun k _ hn => Below.heap_setCell _ _ _ _ hn⟩ (fun k hk e => by subst e; exact hs hk)
theorem setBlock (h : Chg S w w1) (b : Nat) (o : Obj) (hs : b < w.heap.size → S b) : Chg S w (setBlock w1 b o) :=
  h.trans (S' := fun k => k = b) ⟨rfl, rfl, rfl, by simp [Go.ChangeMaps.setBlock], fun k _ hn => by simp [Go.ChangeMaps.setBlock, Ne.symm hn]⟩ (fun k hk e => by subst e; exact hs hk)
theorem of_below (h : Below w.heap.size w w1) : Chg S w w1 := ⟨h.os, h.tape, h.output, h.size, fun k hk _ => h.block k hk⟩
theorem below (h : Chg (fun _ => False) w w1) : Below w.heap.size w w1 := ⟨h.os, h.tape, h.output, h.size, fun k hk => h.block k hk (fun e => e)⟩
theorem of_grown {row : Option Nat} (h : w.grownBy w1 row) (hs : ∀ k, row = some k → S k) : Chg S w w1 :=
  ⟨h.os, h.tape, h.output, h.size, fun k hk hn => h.block k hk fun e => hn (hs k e.symm)⟩
theorem heap (h : Chg S w w1) {b : Nat} {o : Obj} (hb : w.heap[b]? = some o) (hn : ¬ S b) : w1.heap[b]? = some o :=
  (h.block b (Array.getElem?_eq_some_iff.1 hb).1 hn).trans hb
theorem cell (h : Chg S w w1) {a : Addr} {v : Value} (hc : w.cell? a = some v) (hn : ¬ S a.block) : w1.cell? a = some v :=
  (World.cell?_of_block (h.block a.block (World.block_lt_of_cell? w _ hc) hn)).trans hc
theorem frozen (h : Chg S w w1) {a : Addr} (hl : a.block < w.heap.size) (hn : ¬ S a.block) : w1.frozen? a = w.frozen? a :=
  World.frozen?_of_block (h.block a.block hl hn)
end Chg

/-- What lies in a block. -/
def ob (w : World) (b : Nat) : Option Obj := w.heap[b]?

theorem ob_heap {w : World} {b : Nat} {o : Obj} (h : ob w b = some o) : w.heap[b]? = some o := h
theorem ob_lt {w : World} {b : Nat} {o : Obj} (h : ob w b = some o) : b < w.heap.size := (Array.getElem?_eq_some_iff.1 h).1
theorem Chg.ob {S : Nat → Prop} {w w1 : World} (h : Chg S w w1) {b : Nat} {o : Obj} (hb : ob w b = some o) (hn : ¬ S b) : ob w1 b = some o := h.heap hb hn
theorem ob_alloc_at (w : World) (o : Obj) : ob (w.alloc o) w.heap.size = some o := (heap_alloc w o).1
@[go_sem] theorem ob_alloc_new (w : World) (o : Obj) (b : Nat) (h : b = w.heap.size) : ob (w.alloc o) b = some o := by subst h; exact ob_alloc_at w o
@[go_sem] theorem ob_alloc_past (w : World) (o : Obj) (b : Nat) (h : b < w.heap.size) : ob (w.alloc o) b = ob w b := Below.heap_alloc _ _ _ h
@[go_sem] theorem ob_drew (w : World) (b : Nat) : ob w.drew b = ob w b := rfl
@[go_sem] theorem ob_drewN (w : World) (n b : Nat) : ob (w.drewN n) b = ob w b := rfl
@[go_sem] theorem ob_setCell_ne (w : World) (a : Addr) (v : Value) (b : Nat) (h : b ≠ a.block) : ob (w.setCell a v) b = ob w b := Below.heap_setCell _ _ _ _ h
@[go_sem] theorem ob_setBlock_ne (w : World) (b c : Nat) (o : Obj) (h : c ≠ b) : ob (setBlock w b o) c = ob w c := by simp [ob, setBlock, Ne.symm h]
@[go_sem] theorem ob_setBlock_lt (w : World) (b : Nat) (o : Obj) (h : b < w.heap.size) : ob (setBlock w b o) b = some o := by
  simp [ob, setBlock, h]
@[go_sem] theorem size_setBlock (w : World) (b : Nat) (o : Obj) : (setBlock w b o).heap.size = w.heap.size := by simp [setBlock]
@[go_sem] theorem setBlock_drew (w : World) (b : Nat) (o : Obj) : setBlock w.drew b o = (setBlock w b o).drew := rfl
@[go_sem] theorem setBlock_drewN (w : World) (n b : Nat) (o : Obj) : setBlock (w.drewN n) b o = (setBlock w b o).drewN n := rfl
@[go_sem] theorem setCell_drewN (w : World) (n : Nat) (a : Addr) (v : Value) : (w.drewN n).setCell a v = (w.setCell a v).drewN n := rfl
@[go_sem] theorem alloc_drewN (w : World) (n : Nat) (o : Obj) : (w.drewN n).alloc o = (w.alloc o).drewN n := rfl
@[go_sem] theorem cell_setBlock_ne (w : World) (b : Nat) (o : Obj) (a : Addr) (h : a.block ≠ b) : (setBlock w b o).cell? a = w.cell? a :=
  World.cell?_of_block (ob_setBlock_ne w b a.block o h)
@[go_sem] theorem frozen_setBlock_ne (w : World) (b : Nat) (o : Obj) (a : Addr) (h : a.block ≠ b) : (setBlock w b o).frozen? a = w.frozen? a :=
  World.frozen?_of_block (ob_setBlock_ne w b a.block o h)
@[go_sem] theorem cell_setBlock_gt (w : World) (b : Nat) (o : Obj) (a : Addr) (h : b < a.block) : (setBlock w b o).cell? a = w.cell? a := cell_setBlock_ne w b o a (by omega)
@[go_sem] theorem frozen_setBlock_gt (w : World) (b : Nat) (o : Obj) (a : Addr) (h : b < a.block) : (setBlock w b o).frozen? a = w.frozen? a := frozen_setBlock_ne w b o a (by omega)
@[go_sem] theorem setBlock_setBlock (w : World) (b : Nat) (o o' : Obj) : setBlock (setBlock w b o) b o' = setBlock w b o' := by simp [setBlock]
theorem cell_ob {w : World} {b : Nat} {c : Array Value} {t : TypeId} {fr : Nat × Nat} (h : ob w b = some (.cells c t fr)) (i : Nat) : w.cell? ⟨b, i, none⟩ = c[i]? := by
  simp [World.cell?, ob_heap h]
theorem frozen_ob {w : World} {b : Nat} {c : Array Value} {t : TypeId} (h : ob w b = some (.cells c t (0, 0))) (i : Nat) : w.frozen? ⟨b, i, none⟩ = false := by
  simp [World.frozen?, ob_heap h]
/-- One cell of a block is another one. -/
def setAt (i : Nat) (v : Value) : Obj → Obj
  | .cells c t fr => .cells (c.setIfInBounds i v) t fr
  | o => o
@[go_sem] theorem setAt_cells (i : Nat) (v : Value) (c : Array Value) (t : TypeId) (fr : Nat × Nat) : setAt i v (.cells c t fr) = .cells (c.setIfInBounds i v) t fr := rfl
@[go_sem] theorem ob_setCell_same (w : World) (b i : Nat) (v : Value) : ob (w.setCell ⟨b, i, none⟩ v) b = (ob w b).map (setAt i v) := by
  unfold ob
  simp only [World.setCell, Array.getElem?_modify, if_true]
  congr 1

theorem beq_int (a b : Int) : (a == b) = decide (a = b) := rfl
theorem retb {a b : Bool} (h : a = b) : Ending.returned (.bool a) = .returned (.bool b) := by rw [h]
theorem reti {k : IntKind} {a b : Int} (h : a = b) : Ending.returned (.int k a) = .returned (.int k b) := by rw [h]

/-! ### 2. Maps with whole numbers as keys -/

def upd {α : Type} (f : Int → Option α) (k : Int) (v : α) : Int → Option α := fun j => if j = k then some v else f j
def del {α : Type} (f : Int → Option α) (k : Int) : Int → Option α := fun j => if j = k then none else f j

/-- A map's block: what stands at each key. -/
def MapObj (o : Obj) (f : Int → Option Value) : Prop :=
  ∃ es clock, o = .map es clock ∧ Stamped es clock ∧ (∀ x ∈ es.toList, ∃ k, x.key = .int .i64 k) ∧
    ∀ k v, f k = some v ↔ ∃ x ∈ es.toList, x.key = .int .i64 k ∧ x.val = v

theorem MapObj.empty (c : Nat) : MapObj (.map #[] c) (fun _ => none) := ⟨#[], c, rfl, stamped_empty c, by simp, by simp⟩

/-- The types of a map: its key's is int. -/
structure MapTy (P : Program) (mty kt et : TypeId) (z : Value) : Prop where
  map : P.underlying mty = some (.map kt et)
  key : P.underlying kt = some (.int .i64)
  zero : ∀ w, (zeroValue et).run P w = .ok z w

section
variable {P : Program} {mty kt et : TypeId} {z : Value} {o : Obj} {f : Int → Option Value}

theorem isKey_int (k : Int) : IsKey (.int .i64) (.int .i64 k) := rfl
theorem MapObj.found {es : Array MapEntry} (hk : ∀ x ∈ es.toList, ∃ k, x.key = .int .i64 k) (hf : ∀ k v, f k = some v ↔ ∃ x ∈ es.toList, x.key = .int .i64 k ∧ x.val = v) (k : Int) :
    (Instr.findNow (.int .i64) (.int .i64 k) es.toList 0 = some none ∧ f k = none ∧ ∀ x ∈ es.toList, x.key ≠ .int .i64 k) ∨
    ∃ j e, Instr.findNow (.int .i64) (.int .i64 k) es.toList 0 = some (some (j, e.val)) ∧ es[j]? = some e ∧ e.key = .int .i64 k ∧ f k = some e.val := by
  have hks : ∀ x ∈ es.toList, IsKey (.int .i64) x.key := fun x hx => by
    obtain ⟨k, e⟩ := hk x hx
    rw [e]; exact rfl
  rcases findNow_spec (d := .int .i64) (k := .int .i64 k) rfl es.toList 0 hks with ⟨h1, h2⟩ | ⟨j, e, h1, h2, h3⟩
  · refine .inl ⟨h1, ?_, h2⟩
    cases hfk : f k with
    | none => rfl
    | some v =>
      obtain ⟨x, hx, e1, _⟩ := (hf k v).1 hfk
      exact absurd e1 (h2 x hx)
  · refine .inr ⟨j, e, by simpa using h1, by simpa using h2, h3, (hf k e.val).2 ⟨e, List.mem_of_getElem? h2, h3, rfl⟩⟩

theorem MapObj.lookup (t : MapTy P mty kt et z) (h : MapObj o f) (k : Int) (b : Nat) (w : World) (hb : ob w b = some o) :
    (Instr.lookup mty (.map (some b)) (.int .i64 k) false).run P w = .ok ((f k).getD z) w := by
  obtain ⟨es, clock, rfl, hs, hk, hf⟩ := h
  rcases found hk hf k with ⟨h1, h2, _⟩ | ⟨j, e, h1, _, _, h4⟩
  · simp [Instr.lookup, run_underlying t.map, MapKept.run_getObj_map hb, MapKept.run_checkKey t.key (isKey_int k), MapKept.run_findKey t.key h1, t.zero, h2]
  · simp [Instr.lookup, run_underlying t.map, MapKept.run_getObj_map hb, MapKept.run_checkKey t.key (isKey_int k), MapKept.run_findKey t.key h1, h4]
theorem MapObj.lookup_ok (t : MapTy P mty kt et z) (h : MapObj o f) (k : Int) (b : Nat) (w : World) (hb : ob w b = some o) :
    (Instr.lookup mty (.map (some b)) (.int .i64 k) true).run P w = .ok (.tuple #[(f k).getD z, .bool (f k).isSome]) w := by
  obtain ⟨es, clock, rfl, hs, hk, hf⟩ := h
  rcases found hk hf k with ⟨h1, h2, _⟩ | ⟨j, e, h1, _, _, h4⟩
  · simp [Instr.lookup, run_underlying t.map, MapKept.run_getObj_map hb, MapKept.run_checkKey t.key (isKey_int k), MapKept.run_findKey t.key h1, t.zero, h2]
  · simp [Instr.lookup, run_underlying t.map, MapKept.run_getObj_map hb, MapKept.run_checkKey t.key (isKey_int k), MapKept.run_findKey t.key h1, h4]

theorem getElem_inj {es : Array MapEntry} {clock : Nat} (h : Stamped es clock) {i j : Nat} {x y : MapEntry} (hx : es[i]? = some x) (hy : es[j]? = some y) (e : x.key = y.key) : i = j := by
  have hn := h.2.2
  have h1 : (es.toList.map (·.key))[i]? = some x.key := by simp [hx]
  have h2 : (es.toList.map (·.key))[j]? = some y.key := by simp [hy]
  have l1 := (List.getElem?_eq_some_iff.1 h1).1
  exact (List.getElem?_inj l1 hn).1 (by rw [h1, h2, e])

theorem MapObj.pushed {es : Array MapEntry} {clock : Nat} (hs : Stamped es clock) (hk : ∀ x ∈ es.toList, ∃ k, x.key = .int .i64 k) (hf : ∀ k v, f k = some v ↔ ∃ x ∈ es.toList, x.key = .int .i64 k ∧ x.val = v)
    (k : Int) (v : Value) (hn : ∀ x ∈ es.toList, x.key ≠ .int .i64 k) : MapObj (.map (es.push { key := .int .i64 k, val := v, born := clock }) (clock + 1)) (upd f k v) := by
  refine ⟨_, _, rfl, stamped_push hs hn, ?_, ?_⟩
  · intro x hx
    simp only [Array.toList_push, List.mem_append, List.mem_singleton] at hx
    rcases hx with hx | rfl
    · exact hk x hx
    · exact ⟨k, rfl⟩
  · intro j u
    simp only [upd, Array.toList_push, List.mem_append, List.mem_singleton]
    by_cases hj : j = k
    · subst hj
      simp only [if_true, Option.some.injEq]
      constructor
      · rintro rfl; exact ⟨_, .inr rfl, rfl, rfl⟩
      · rintro ⟨x, hx | rfl, e1, e2⟩
        · exact absurd e1 (hn x hx)
        · exact e2
    · rw [if_neg hj, hf]
      constructor
      · rintro ⟨x, hx, e⟩; exact ⟨x, .inl hx, e⟩
      · rintro ⟨x, hx | rfl, e1, e2⟩
        · exact ⟨x, hx, e1, e2⟩
        · simp only [Value.int.injEq, true_and] at e1; exact absurd e1.symm hj

theorem mem_modify {es : Array MapEntry} {j : Nat} {e : MapEntry} (hj : es[j]? = some e) (g : MapEntry → MapEntry) (x : MapEntry) :
    x ∈ (es.modify j g).toList ↔ x = g e ∨ ∃ i, i ≠ j ∧ es[i]? = some x := by
  rw [Array.mem_toList_iff, Array.mem_iff_getElem?]
  simp only [Array.getElem?_modify]
  constructor
  · rintro ⟨i, hi⟩
    by_cases hij : j = i
    · subst hij
      rw [if_pos rfl, hj] at hi
      exact .inl (by simpa using hi.symm)
    · rw [if_neg hij] at hi
      exact .inr ⟨i, fun e => hij e.symm, hi⟩
  · rintro (rfl | ⟨i, hij, hi⟩)
    · exact ⟨j, by simp [hj]⟩
    · exact ⟨i, by rw [if_neg (Ne.symm hij)]; exact hi⟩

theorem MapObj.modified {es : Array MapEntry} {clock : Nat} (hs : Stamped es clock) (hk : ∀ x ∈ es.toList, ∃ k, x.key = .int .i64 k) (hf : ∀ k v, f k = some v ↔ ∃ x ∈ es.toList, x.key = .int .i64 k ∧ x.val = v)
    {j : Nat} {e : MapEntry} (k : Int) (v : Value) (hj : es[j]? = some e) (he : e.key = .int .i64 k) (g : MapEntry → MapEntry) (hg : g e = { e with key := .int .i64 k, val := v }) (hgb : ∀ x, (g x).born = x.born) :
    MapObj (.map (es.modify j g) clock) (upd f k v) := by
  refine ⟨_, _, rfl, stamped_modify hs _ _ (fun x _ => hgb x) (fun x _ hx => ?_), ?_, ?_⟩
  · rw [hj] at hx
    cases hx
    rw [hg, he]
  · intro x hx
    rcases (mem_modify hj g x).1 hx with rfl | ⟨i, _, hi⟩
    · rw [hg]; exact ⟨k, rfl⟩
    · exact hk x (by rw [Array.mem_toList_iff]; exact Array.mem_of_getElem? hi)
  · intro i u
    simp only [upd, mem_modify hj]
    by_cases hi : i = k
    · subst hi
      simp only [if_true, Option.some.injEq]
      constructor
      · rintro rfl; exact ⟨_, .inl rfl, by rw [hg], by rw [hg]⟩
      · rintro ⟨x, rfl | ⟨q, hq, hx⟩, e1, e2⟩
        · rw [hg] at e2; exact e2
        · exact absurd (getElem_inj hs hx hj (by rw [e1, he])) hq
    · rw [if_neg hi, hf]
      constructor
      · rintro ⟨x, hx, e1, e2⟩
        rw [Array.mem_toList_iff, Array.mem_iff_getElem?] at hx
        obtain ⟨q, hq⟩ := hx
        refine ⟨x, .inr ⟨q, fun e' => ?_, hq⟩, e1, e2⟩
        subst e'
        rw [hj] at hq
        cases hq
        rw [he] at e1
        simp only [Value.int.injEq, true_and] at e1
        exact hi e1.symm
      · rintro ⟨x, rfl | ⟨q, hq, hx⟩, e1, e2⟩
        · rw [hg] at e1
          simp only [Value.int.injEq, true_and] at e1
          exact absurd e1.symm hi
        · exact ⟨x, by rw [Array.mem_toList_iff]; exact Array.mem_of_getElem? hx, e1, e2⟩

theorem MapObj.update (t : MapTy P mty kt et z) (h : MapObj o f) (k : Int) (v : Value) (b : Nat) :
    ∃ o', MapObj o' (upd f k v) ∧ ∀ w : World, ob w b = some o → (Instr.mapUpdate mty (.map (some b)) (.int .i64 k) v).run P w = .ok () (setBlock w b o') := by
  obtain ⟨es, clock, rfl, hs, hk, hf⟩ := h
  rcases found hk hf k with ⟨h1, h2, h3⟩ | ⟨j, e, h1, h2, h3, h4⟩
  · refine ⟨_, pushed hs hk hf k v h3, fun w hb => ?_⟩
    simp [Instr.mapUpdate, run_underlying t.map, MapKept.run_getObj_map hb, MapKept.run_checkKey t.key (isKey_int k), MapKept.run_findKey t.key h1, MapKept.run_setObj_map _ hb, setBlock]
  · refine ⟨_, modified hs hk hf k v h2 h3 (fun e => { e with key := .int .i64 k, val := v }) rfl (fun _ => rfl), fun w hb => ?_⟩
    have hst : (Instr.keyThatStays (.int .i64 k) (.int .i64 k)).run P w = .ok (.int .i64 k) w := run_keyThatStays (d := .int .i64) rfl
    simp [Instr.mapUpdate, run_underlying t.map, MapKept.run_getObj_map hb, MapKept.run_checkKey t.key (isKey_int k), MapKept.run_findKey t.key h1, h2, h3, hst, MapKept.run_setObj_map _ hb, setBlock]

/-- 'm[k] op= v', or one place of several that are assigned: the entry is laid first, what it gets comes then. -/
theorem MapObj.entry (t : MapTy P mty kt et z) (h : MapObj o f) (k : Int) (b : Nat) :
    ∃ o' st, MapObj o' (upd f k ((f k).getD z)) ∧ (∀ w : World, ob w b = some o → (Instr.mapEntry mty (.map (some b)) (.int .i64 k)).run P w = .ok (.tuple #[(f k).getD z, .int .i64 st]) (setBlock w b o')) ∧
      ∀ v, ∃ o'', MapObj o'' (upd f k v) ∧ ∀ w : World, ob w b = some o' → (Instr.entryStore mty (.map (some b)) (.int .i64 st) v).run P w = .ok () (setBlock w b o'') := by
  obtain ⟨es, clock, rfl, hs, hk, hf⟩ := h
  have store : ∀ (es' : Array MapEntry) (clock' : Nat) (j : Nat) (e : MapEntry) (f' : Int → Option Value), Stamped es' clock' → (∀ x ∈ es'.toList, ∃ k, x.key = .int .i64 k) → (∀ k v, f' k = some v ↔ ∃ x ∈ es'.toList, x.key = .int .i64 k ∧ x.val = v) →
      es'[j]? = some e → e.key = .int .i64 k → (∀ q v, q ≠ k → (f' q = some v ↔ f q = some v)) →
      ∀ v, ∃ o'', MapObj o'' (upd f k v) ∧ ∀ w : World, ob w b = some (.map es' clock') → (Instr.entryStore mty (.map (some b)) (.int .i64 e.born) v).run P w = .ok () (setBlock w b o'') := by
    intro es' clock' j e f' hs' hk' hf' hj he hag v
    have hidx : es'.findIdx? (fun x => (x.born : Int) == (e.born : Int)) = some j := by
      rw [Array.findIdx?_eq_some_iff_getElem]
      have hlt := (Array.getElem?_eq_some_iff.1 hj).1
      have hej := (Array.getElem?_eq_some_iff.1 hj).2
      refine ⟨hlt, by simp [hej], fun i hi => ?_⟩
      simp only [beq_iff_eq, Int.natCast_inj]
      intro heq
      have hn := hs'.2.1
      have h1 : (es'.toList.map (·.born))[i]? = some (es'[i]).born := by simp [Array.getElem?_eq_getElem (show i < es'.size by omega)]
      have h2 : (es'.toList.map (·.born))[j]? = some e.born := by simp [hj]
      have l1 := (List.getElem?_eq_some_iff.1 h1).1
      have := (List.getElem?_inj (j := j) l1 hn).1 (by rw [h1, h2, heq])
      omega
    have hm := modified hs' hk' hf' k v hj he (fun x => { x with val := v }) (by rw [← he]) (fun _ => rfl)
    refine ⟨.map (es'.modify j fun x => { x with val := v }) clock', ?_, fun w hb => ?_⟩
    · have : upd f' k v = upd f k v := by
        funext q
        unfold upd
        split
        · rfl
        · rename_i hq
          cases h1 : f' q with
          | some u => exact ((hag q u hq).1 h1).symm
          | none =>
            cases h2 : f q with
            | none => rfl
            | some u => rw [(hag q u hq).2 h2] at h1; cases h1
      rw [← this]
      exact hm
    · simp [Instr.entryStore, MapKept.run_getObj_map hb, asInt, asIntOf, hidx, MapKept.run_setObj_map _ hb, setBlock]
  rcases found hk hf k with ⟨h1, h2, h3⟩ | ⟨j, e, h1, h2, h3, h4⟩
  · have hp := pushed hs hk hf k z h3
    refine ⟨_, clock, by rw [h2]; exact hp, fun w hb => ?_, ?_⟩
    · simp [Instr.mapEntry, run_underlying t.map, MapKept.run_getObj_map hb, MapKept.run_checkKey t.key (isKey_int k), MapKept.run_findKey t.key h1, MapKept.run_setObj_map _ hb, setBlock, t.zero, h2, goInt]
    · obtain ⟨es', clock', he, hs', hk', hf'⟩ := hp
      injection he with he1 he2
      subst he1 he2
      exact store _ _ es.size { key := .int .i64 k, val := z, born := clock } _ hs' hk' hf' (by simp) rfl (fun q v hq => by unfold upd; rw [if_neg hq])
  · have hst : ∀ w, (Instr.keyThatStays (.int .i64 k) (.int .i64 k)).run P w = .ok (.int .i64 k) w := fun w => run_keyThatStays (d := .int .i64) rfl
    have hp := modified hs hk hf k e.val h2 h3 (fun e => { e with key := .int .i64 k }) (by rw [← h3]) (fun _ => rfl)
    refine ⟨_, e.born, by rw [h4]; exact hp, fun w hb => ?_, ?_⟩
    · simp [Instr.mapEntry, run_underlying t.map, MapKept.run_getObj_map hb, MapKept.run_checkKey t.key (isKey_int k), MapKept.run_findKey t.key h1, MapKept.run_setObj_map _ hb, setBlock, h2, h3, hst, h4, goInt]
    · obtain ⟨es', clock', he, hs', hk', hf'⟩ := hp
      injection he with he1 he2
      subst he1 he2
      have hj' : (es.modify j (fun e => { e with key := .int .i64 k }))[j]? = some { e with key := .int .i64 k } := by rw [Array.getElem?_modify, if_pos rfl, h2]; rfl
      exact store _ _ j { e with key := .int .i64 k } _ hs' hk' hf' hj' rfl (fun q v hq => by rw [upd, if_neg hq])

theorem MapObj.delete (t : MapTy P mty kt et z) (h : MapObj o f) (k : Int) (b : Nat) :
    ∃ o', MapObj o' (del f k) ∧ ∀ (ty : TypeId) (w : World), ob w b = some o → (Builtin.delete_ #[mty, kt] ty #[.map (some b), .int .i64 k]).run P w = .ok (.tuple #[]) (setBlock w b o') := by
  obtain ⟨es, clock, rfl, hs, hk, hf⟩ := h
  rcases found hk hf k with ⟨h1, h2, h3⟩ | ⟨j, e, h1, h2, h3, h4⟩
  · refine ⟨.map es clock, ⟨es, clock, rfl, hs, hk, fun q v => ?_⟩, fun ty w hb => ?_⟩
    · unfold del
      split
      · rename_i e; subst e; rw [← hf, h2]
      · exact hf q v
    · simp [Builtin.delete_, run_underlying t.map, MapKept.run_getObj_map hb, MapKept.run_checkKey t.key (isKey_int k), MapKept.run_findKey t.key h1, MapKept.run_setObj_map _ hb, setBlock]
  · have hlt := (Array.getElem?_eq_some_iff.1 h2).1
    have hl : (es.eraseIdxIfInBounds j).toList = es.toList.eraseIdx j := by
      unfold Array.eraseIdxIfInBounds
      rw [dif_pos hlt, Array.toList_eraseIdx]
    have hmem : ∀ x, x ∈ (es.eraseIdxIfInBounds j).toList ↔ ∃ i, i ≠ j ∧ es[i]? = some x := by
      intro x
      rw [hl, List.mem_eraseIdx_iff_getElem?]
      constructor
      · rintro ⟨i, hi, hx⟩; exact ⟨i, hi, by simpa using hx⟩
      · rintro ⟨i, hi, hx⟩; exact ⟨i, hi, by simpa using hx⟩
    refine ⟨_, ⟨es.eraseIdxIfInBounds j, clock, rfl, stamped_erase hs j, fun x hx => ?_, fun q v => ?_⟩, fun ty w hb => ?_⟩
    · obtain ⟨i, _, hi⟩ := (hmem x).1 hx
      exact hk x (by rw [Array.mem_toList_iff]; exact Array.mem_of_getElem? hi)
    · simp only [hmem, del]
      by_cases hq : q = k
      · subst hq
        simp only [if_true]
        constructor
        · intro hh; cases hh
        · rintro ⟨x, ⟨i, hi, hx⟩, e1, _⟩
          exact absurd (getElem_inj hs hx h2 (by rw [e1, h3])) hi
      · rw [if_neg hq, hf]
        constructor
        · rintro ⟨x, hx, e1, e2⟩
          rw [Array.mem_toList_iff, Array.mem_iff_getElem?] at hx
          obtain ⟨i, hi⟩ := hx
          refine ⟨x, ⟨i, fun e' => ?_, hi⟩, e1, e2⟩
          subst e'
          rw [h2] at hi
          cases hi
          rw [h3] at e1
          simp only [Value.int.injEq, true_and] at e1
          exact hq e1.symm
        · rintro ⟨x, ⟨i, _, hx⟩, e⟩
          exact ⟨x, by rw [Array.mem_toList_iff]; exact Array.mem_of_getElem? hx, e⟩
    · simp [Builtin.delete_, run_underlying t.map, MapKept.run_getObj_map hb, MapKept.run_checkKey t.key (isKey_int k), MapKept.run_findKey t.key h1, MapKept.run_setObj_map _ hb, setBlock]
end


/-! ### 3. Slices that are read, element by element -/

/-- The rows lie one behind the other, sz cells each. -/
def RowsAt (w : World) (b off sz : Nat) (rows : List (List Value)) : Prop := ∀ i r, rows[i]? = some r → w.rangeAt b (off + i * sz) r

/-- A slice's value, and its elements' cells. -/
def SliceIs (w : World) (sz : Nat) (v : Value) (rows : List (List Value)) : Prop :=
  ∃ A cap, v = .slice A rows.length cap ∧ rows.length ≤ cap ∧ rows.length ≤ 9223372036854775807 ∧ (0 < rows.length → ∃ b off, A = some ⟨b, off, none⟩ ∧ RowsAt w b off sz rows)

theorem rangeAt_eq {w w' : World} {b o : Nat} {cs : List Value} (h : w.rangeAt b o cs) (hb : ∀ i, w'.cell? ⟨b, i, none⟩ = w.cell? ⟨b, i, none⟩) : w'.rangeAt b o cs := fun j v hv => by rw [hb]; exact h j v hv
/-- Where the first cell of a row that is not empty is there, its block is old. -/
theorem rangeAt_lt {w : World} {b o : Nat} {cs : List Value} (h : w.rangeAt b o cs) (hn : cs ≠ []) : b < w.heap.size := by
  cases cs with
  | nil => exact absurd rfl hn
  | cons x xs => exact World.block_lt_of_cell? w _ (h 0 x rfl)
theorem rangeAt_below {w w' : World} {b o : Nat} {cs : List Value} (h : w.rangeAt b o cs) (hb : Below w.heap.size w w') : w'.rangeAt b o cs := fun j v hv => by
  have := h j v hv
  rw [hb.cell (World.block_lt_of_cell? w _ this)]
  exact this
theorem RowsAt.below {w w' : World} {b off sz : Nat} {rows : List (List Value)} (h : RowsAt w b off sz rows) (hb : Below w.heap.size w w') : RowsAt w' b off sz rows := fun i r hr => rangeAt_below (h i r hr) hb
theorem SliceIs.below {w w' : World} {sz : Nat} {v : Value} {rows : List (List Value)} (h : SliceIs w sz v rows) (hb : Below w.heap.size w w') : SliceIs w' sz v rows := by
  obtain ⟨A, cap, e, h1, h2, h3⟩ := h
  exact ⟨A, cap, e, h1, h2, fun h0 => by obtain ⟨b, off, e, hr⟩ := h3 h0; exact ⟨b, off, e, hr.below hb⟩⟩
theorem RowsAt.take {w : World} {b off sz cap : Nat} {rows : List (List Value)} (h : RowsAt w b off sz rows) (k : Nat) (hk : k ≤ rows.length) (hc : k ≤ cap) (hm : k ≤ 9223372036854775807) :
    SliceIs w sz (.slice (some ⟨b, off, none⟩) k cap) (rows.take k) :=
  ⟨_, cap, by rw [List.length_take_of_le hk], by rw [List.length_take_of_le hk]; exact hc, by rw [List.length_take_of_le hk]; exact hm,
    fun _ => ⟨b, off, rfl, fun i r hr => h i r (by rw [List.getElem?_take] at hr; split at hr; exact hr; cases hr)⟩⟩
theorem bcell {W w1 : World} (hb : Below W.heap.size W w1) : (∀ b o, b < W.heap.size → w1.cell? ⟨b, o, none⟩ = W.cell? ⟨b, o, none⟩) ∧ (∀ b o, b < W.heap.size → w1.frozen? ⟨b, o, none⟩ = W.frozen? ⟨b, o, none⟩) :=
  ⟨fun b o h => hb.cell (p := ⟨b, o, none⟩) h, fun b o h => hb.frozen (p := ⟨b, o, none⟩) h⟩
theorem below_trans {w w1 w2 : World} (h : Below w.heap.size w w1) (h' : Below w1.heap.size w1 w2) : Below w.heap.size w w2 :=
  h.trans ⟨h'.os, h'.tape, h'.output, h'.size, fun k hk => h'.block k (Nat.lt_of_lt_of_le hk h.size)⟩
theorem below_chg {S : Nat → Prop} {w w1 w2 : World} (h : Below w.heap.size w w1) (h' : Chg S w1 w2) (hs : ∀ k, k < w.heap.size → ¬ S k) : Below w.heap.size w w2 :=
  h.trans ⟨h'.os, h'.tape, h'.output, h'.size, fun k hk => h'.block k (Nat.lt_of_lt_of_le hk h.size) (hs k hk)⟩


/-! ### 4. Slices of the call's own, and append -/

/-- Each row has sz cells. -/
structure RowsOk (sz : Nat) (rows : List (List Value)) : Prop where
  len : ∀ r ∈ rows, r.length = sz
  one : ∀ r ∈ rows, ∀ u ∈ r, u.oneCell' = true
theorem RowsOk.append {sz : Nat} {a b : List (List Value)} (h : RowsOk sz a) (h' : RowsOk sz b) : RowsOk sz (a ++ b) :=
  ⟨fun r hr => by rcases List.mem_append.1 hr with hr | hr; exact h.len r hr; exact h'.len r hr, fun r hr => by rcases List.mem_append.1 hr with hr | hr; exact h.one r hr; exact h'.one r hr⟩
theorem RowsOk.nil {sz : Nat} : RowsOk sz [] := ⟨by simp, by simp⟩
theorem RowsOk.single {sz : Nat} {r : List Value} (h : r.length = sz) (h1 : ∀ u ∈ r, u.oneCell' = true) : RowsOk sz [r] := ⟨by simp [h], by simpa using h1⟩
theorem RowsOk.flat {sz : Nat} : ∀ {rows : List (List Value)}, RowsOk sz rows → rows.flatten.length = rows.length * sz
  | [], _ => by simp
  | r :: rows, h => by
    have h1 := RowsOk.flat (rows := rows) ⟨fun x hx => h.len x (.tail _ hx), fun x hx => h.one x (.tail _ hx)⟩
    have h2 := h.len r (.head _)
    simp only [List.flatten_cons, List.length_append, List.length_cons, h1, h2, Nat.add_mul, Nat.one_mul]
    omega
theorem RowsOk.flat_at {sz : Nat} : ∀ {rows : List (List Value)}, RowsOk sz rows → ∀ i r, rows[i]? = some r → ∀ j u, r[j]? = some u → rows.flatten[i * sz + j]? = some u
  | [], _, i, r, hr, _, _, _ => by simp at hr
  | x :: rows, h, i, r, hr, j, u, hu => by
    have hx := h.len x (.head _)
    cases i with
    | zero =>
      simp at hr
      subst hr
      have := (List.getElem?_eq_some_iff.1 hu).1
      rw [Nat.zero_mul, Nat.zero_add, List.flatten_cons, List.getElem?_append_left this]
      exact hu
    | succ i =>
      have := RowsOk.flat_at (rows := rows) ⟨fun y hy => h.len y (.tail _ hy), fun y hy => h.one y (.tail _ hy)⟩ i r (by simpa using hr) j u hu
      rw [List.flatten_cons, List.getElem?_append_right (by rw [hx, Nat.add_mul, Nat.one_mul]; omega), hx, show (i + 1) * sz + j - sz = i * sz + j by rw [Nat.add_mul, Nat.one_mul]; omega]
      exact this
theorem RowsOk.flat_one {sz : Nat} {rows : List (List Value)} (h : RowsOk sz rows) : ∀ u ∈ rows.flatten, u.oneCell' = true := fun u hu => by
  obtain ⟨r, hr, hu⟩ := List.mem_flatten.1 hu
  exact h.one r hr u hu

/-- A slice of the call's own (nil, or at the head of a block that nobody froze): its elements. -/
structure OwnSl (w : World) (e sz : Nat) (v : Value) (rows : List (List Value)) : Prop where
  own : w.ownsRow 0 e sz v rows.length rows.flatten
  ok : RowsOk sz rows

theorem OwnSl.slice {w : World} {e sz : Nat} {v : Value} {rows : List (List Value)} (h : OwnSl w e sz v rows) : SliceIs w sz v rows := by
  obtain ⟨hl, hv⟩ := h.own
  rcases hv with ⟨rfl, h0⟩ | ⟨g, cap, cur, rfl, _, hh, hc, hm, hcs, ht⟩
  · exact ⟨none, 0, by rw [h0], by omega, by omega, fun hp => by omega⟩
  · unfold maxLen at hm
    refine ⟨_, cap, rfl, hc, by omega, fun hp => ⟨g, 0, rfl, fun i r hr j u hu => ?_⟩⟩
    have h1 := h.ok.flat_at i r hr j u hu
    rw [← ht, List.getElem?_take] at h1
    split at h1
    · rw [Nat.zero_add]
      simpa [World.cell?, hh] using h1
    · cases h1
theorem OwnSl.nil {w : World} {e sz : Nat} : OwnSl w e sz (.slice none 0 0) [] := ⟨World.ownsRow_nil w 0 e sz, RowsOk.nil⟩
theorem OwnSl.lt {w : World} {e sz : Nat} {v : Value} {rows : List (List Value)} (h : OwnSl w e sz v rows) {k : Nat} (hk : v.ownBlock = some k) : k < w.heap.size := (h.own.lt k hk).2
theorem OwnSl.chg {S : Nat → Prop} {w w' : World} {e sz : Nat} {v : Value} {rows : List (List Value)} (h : OwnSl w e sz v rows) (hc : Chg S w w') (hn : ∀ k, v.ownBlock = some k → ¬ S k) : OwnSl w' e sz v rows := by
  refine ⟨⟨h.own.1, ?_⟩, h.ok⟩
  rcases h.own.2 with h2 | ⟨g, cap, cur, hv, hb, hh, r⟩
  · exact .inl h2
  · exact .inr ⟨g, cap, cur, hv, hb, hc.heap hh (hn g (by rw [hv]; rfl)), r⟩
theorem OwnSl.typed {w : World} {e sz : Nat} {v : Value} {rows : List (List Value)} (h : OwnSl w e sz v rows) {k : Nat} (hk : v.ownBlock = some k) : ∃ c, ob w k = some (.cells c e (0, 0)) := by
  rcases h.own.2 with ⟨rfl, _⟩ | ⟨g, cap, cur, rfl, hb, hh, r⟩
  · cases hk
  · simp only [Value.ownBlock, Option.some.injEq] at hk
    subst hk
    exact ⟨_, hh⟩
/-- What a composite literal lays. -/
theorem OwnSl.made {w : World} {e sz b : Nat} {c : Array Value} {rows : List (List Value)} (hb : ob w b = some (.cells c e (0, 0))) (ok : RowsOk sz rows) (hc : c.toList = rows.flatten) (hm : rows.length ≤ 1000000) :
    OwnSl w e sz (.slice (some ⟨b, 0, none⟩) rows.length rows.length) rows := by
  refine ⟨⟨ok.flat, .inr ⟨b, _, c, rfl, Nat.zero_le _, hb, Nat.le_refl _, by unfold maxLen; omega, ?_, ?_⟩⟩, ok⟩
  · rw [← ok.flat, ← hc]; simp
  · rw [hc, ← ok.flat, List.take_length]

structure SlTy (P : Program) (t e sz bytes : Nat) (z : Value) : Prop where
  under : P.underlying t = some (.slice e)
  info : (P.info? e).map (fun i => (i.zero, i.size, i.bytes)) = some (some z, sz, bytes)
  zc : z.cells.size = sz
  pos : 0 < sz
  pb : 0 < bytes

section
variable {P : Program} {t e sz bytes : Nat} {z : Value} {v x : Value} {xs ys : List (List Value)} {w : World}

/-- append: the run. -/
theorem run_append_sl (T : SlTy P t e sz bytes z) (h : OwnSl w e sz v xs) (hx : SliceIs w sz x ys) (hy : RowsOk sz ys) (hb : (xs.length + ys.length) * bytes ≤ 140737488355328) (ty : TypeId) :
    ∃ v' w', (Builtin.append_ #[t, t] ty #[v, x]).run P w = .ok v' w' ∧ OwnSl w' e sz v' (xs ++ ys) ∧ Chg (fun k => v.ownBlock = some k) w w' ∧ (v'.ownBlock = v.ownBlock ∨ v'.ownBlock = some w.heap.size) := by
  obtain ⟨i0, hi, hzz⟩ := Option.map_eq_some_iff.1 T.info
  simp only [Prod.mk.injEq] at hzz
  obtain ⟨hz0, hz1, hz2⟩ := hzz
  have hpb := T.pb
  have hlen : xs.length + ys.length ≤ 140737488355328 := Nat.le_trans (Nat.le_mul_of_pos_right _ hpb) hb
  obtain ⟨A, cap, rfl, h1, h2, h3⟩ := hx
  rcases Nat.eq_zero_or_pos ys.length with h0 | h0
  · obtain rfl : ys = [] := List.eq_nil_of_length_eq_zero h0
    refine ⟨v, w, ?_, by simpa using h, Chg.refl _ _, .inl rfl⟩
    rcases h.own.2 with ⟨rfl, hn⟩ | ⟨g, cp, cur, rfl, _, hh, hc, _⟩
    · cases A <;> simp [Builtin.append_, run_underlying T.under, sizeOf, typeInfo, hi, Builtin.lenOf, Builtin.firstCells, loadCells, loadCellsFrom]
    · cases A <;> simp [Builtin.append_, run_underlying T.under, sizeOf, typeInfo, hi, Builtin.lenOf, Builtin.firstCells, loadCells, loadCellsFrom, hc, storeCells]
  · obtain ⟨b, off, rfl, hr⟩ := h3 h0
    obtain ⟨v', w', hrun, ho, hg, _, hloc⟩ := run_append_own_at (P := P) w 0 t ty e i0 z sz bytes T.under hi hz0 hz1 hz2 T.zc T.pos v xs.length xs.flatten h.own ⟨b, off, none⟩ ys.length cap ys.flatten hy.flat
      (fun j u hu => by
        have hj := (List.getElem?_eq_some_iff.1 hu).1
        rw [hy.flat] at hj
        have hpos := T.pos
        have hq : j / sz < ys.length := by rw [Nat.div_lt_iff_lt_mul hpos]; exact hj
        have hlenq := hy.len ys[j / sz] (List.getElem_mem _)
        have hmod := Nat.mod_lt j hpos
        have e1 : j / sz * sz + j % sz = j := by rw [Nat.mul_comm]; exact Nat.div_add_mod j sz
        have hu2 := hy.flat_at (j / sz) ys[j / sz] (by simp [hq]) (j % sz) _ (List.getElem?_eq_getElem (by omega))
        rw [e1, hu] at hu2
        have := hr (j / sz) _ (List.getElem?_eq_getElem hq) (j % sz) _ (List.getElem?_eq_getElem (by omega))
        rw [Nat.add_assoc, e1] at this
        rw [Addr.add_mid, this, hu2])
      hy.flat_one (by unfold maxLen; omega) hb (Nat.zero_le _)
    exact ⟨v', w', hrun, ⟨by rw [List.length_append, List.flatten_append]; exact ho, h.ok.append hy⟩, Chg.of_grown hg (fun k e => e), hloc⟩

theorem wpList_append_sl {ops : Array Oper} {rest : List Oper} {o : Oper} {a : Act} {Q : Exit → Act → World → Prop} (hgd : o.guard = none) (s y : Operand)
    (ho : o.op = .call { callee := .builtin .append, args := #[s, y], argTypes := #[t, t] }) (T : SlTy P t e sz bytes z) (hs : a.eval s = v) (hyy : a.eval y = x)
    (h : OwnSl w e sz v xs) (hx : SliceIs w sz x ys) (hy : RowsOk sz ys) (hb : (xs.length + ys.length) * bytes ≤ 140737488355328)
    (hk : ∀ v' w', OwnSl w' e sz v' (xs ++ ys) → Chg (fun k => v.ownBlock = some k) w w' → (v'.ownBlock = v.ownBlock ∨ v'.ownBlock = some w.heap.size) → wpList P ops Q rest (a.put o.dst v') w') : wpList P ops Q (o :: rest) a w := by
  refine wpList_plain hgd fun K hK => ?_
  obtain ⟨v', w', hr, h2, h3, h4⟩ := run_append_sl T h hx hy hb o.type
  unfold Oper.wp execOp
  simp only [ho, resolve, invoke, builtin, Sem.run_bind, Sem.run_pure, Result.andThen_ok, List.map_toArray, List.map_cons, List.map_nil, hs, hyy, hr]
  exact hK _ _ (hk v' w' h2 h3 h4)
/-- At a step of a region that draws its order. -/
theorem step_append_sl {ops : Array Oper} {o : Oper} {a : Act} {w : World} {K : Act → World → Prop} {Q : Exit → Act → World → Prop} {E : Prop} (hgd : o.guard = none) (s y : Operand)
    (ho : o.op = .call { callee := .builtin .append, args := #[s, y], argTypes := #[t, t] }) (T : SlTy P t e sz bytes z) (hs : a.eval s = v) (hyy : a.eval y = x)
    (h : OwnSl w e sz v xs) (hx : SliceIs w sz x ys) (hy : RowsOk sz ys) (hb : (xs.length + ys.length) * bytes ≤ 140737488355328)
    (hk : ∀ v' w', OwnSl w' e sz v' (xs ++ ys) → Chg (fun k => v.ownBlock = some k) w w' → (v'.ownBlock = v.ownBlock ∨ v'.ownBlock = some w.heap.size) → K (a.put o.dst v') w') :
    if Region.wanted o (yielded ops a.tmps) = true then Oper.wp P o a w K Q else E := by
  have hw : Region.wanted o (yielded ops a.tmps) = true := by simp [Region.wanted, hgd]
  rw [if_pos hw]
  obtain ⟨v', w', hr, h2, h3, h4⟩ := run_append_sl T h hx hy hb o.type
  unfold Oper.wp execOp
  simp only [ho, resolve, invoke, builtin, Sem.run_bind, Sem.run_pure, Result.andThen_ok, List.map_toArray, List.map_cons, List.map_nil, hs, hyy, hr]
  exact hk v' w' h2 h3 h4
end

/-! ### 5. Slicing -/
section
variable {P : Program} {w : World}
theorem addr_add0 (a : Addr) : a.add 0 = a := by simp [Addr.add]
theorem run_slice_to {t e : TypeId} (ht : P.underlying t = some (.slice e)) (hs : ∃ i, P.info? e = some i) (A : Option Addr) (len cap m : Nat) (hm : m ≤ cap) :
    (Instr.sliceAt t (.slice A len cap) none (some (.int .i64 m)) none).run P w = .ok (.slice A m cap) w := by
  obtain ⟨i, hi⟩ := hs
  have hm' : (0 : Int) ≤ (m : Int) ∧ (m : Int) ≤ (cap : Int) := ⟨by omega, by omega⟩
  have hA : A.map (fun x => x.add 0) = A := by cases A <;> simp [addr_add0]
  simp [Instr.sliceAt, Instr.slice, run_underlying ht, Instr.sliceBounds, Instr.sliceBound, asIntOf, hm', sizeOf, typeInfo, hi, hA]
  intro h
  omega
theorem wpList_slice_to {ops : Array Oper} {rest : List Oper} {o : Oper} {a : Act} {Q : Exit → Act → World → Prop} (hgd : o.guard = none) (t e : TypeId) (x n : Operand)
    (ho : o.op = .slice t x none (some n) none) (ht : P.underlying t = some (.slice e)) (hs : ∃ i, P.info? e = some i) (A : Option Addr) (len cap m : Nat) (hx : a.eval x = .slice A len cap) (hn : a.eval n = .int .i64 m) (hm : m ≤ cap)
    (h : wpList P ops Q rest (a.put o.dst (.slice A m cap)) w) : wpList P ops Q (o :: rest) a w := by
  refine wpList_plain hgd fun K hK => ?_
  unfold Oper.wp execOp
  simp only [ho, hx, hn, Option.map_some, Option.map_none, Sem.run_bind, run_slice_to ht hs A len cap m hm, Result.andThen_ok, Sem.run_pure]
  exact hK _ _ h
end
theorem SliceIs.take {w : World} {sz m len cap : Nat} {A : Option Addr} {rows : List (List Value)} (h : SliceIs w sz (.slice A len cap) rows) (hm : m ≤ len) : SliceIs w sz (.slice A m cap) (rows.take m) := by
  obtain ⟨A', cap', he, h1, h2, h3⟩ := h
  simp only [Value.slice.injEq] at he
  obtain ⟨rfl, rfl, rfl⟩ := he
  refine ⟨A, cap, by rw [List.length_take_of_le hm], by rw [List.length_take_of_le hm]; omega, by rw [List.length_take_of_le hm]; omega, fun h0 => ?_⟩
  rw [List.length_take_of_le hm] at h0
  obtain ⟨b, off, rfl, hr⟩ := h3 (by omega)
  exact ⟨b, off, rfl, fun i r hi => hr i r (by rw [List.getElem?_take] at hi; split at hi; exact hi; cases hi)⟩

end Go.Proofs.Ytamidchoghmmgaa
