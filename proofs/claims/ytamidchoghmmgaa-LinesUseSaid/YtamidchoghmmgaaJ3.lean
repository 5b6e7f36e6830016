/-
  'for k, v := range m' over a map with whole numbers as keys that stands still meanwhile. No program is named.
-/
import Derived.Test.YtamidchoghmmgaaJ2
namespace Go.Proofs.Ytamidchoghmmgaa
open Go.RowKit Go.MapKept
open Go.ChangeMaps (setBlock)

/-- An iterator in block r over the map in block mb: the entries of these keys were handed out. -/
def IterAt (w : World) (r mb : Nat) (o : Obj) (D : List Int) : Prop :=
  ∃ es clock since seen c0, o = .map es clock ∧ ob w r = some (.mapIter (some mb) since seen c0) ∧ ob w mb = some o ∧ Stamped es clock ∧ (∀ x ∈ es.toList, x.born < since) ∧ since ≤ c0 ∧ since ≤ clock ∧
    (∀ x ∈ es.toList, seen.contains x.born = true ↔ ∃ k ∈ D, x.key = .int .i64 k)

variable {P : Program} {mty kt et : TypeId} {z : Value} {o : Obj} {f : Int → Option Value}

theorem MapObj.range (t : MapTy P mty kt et z) (h : MapObj o f) (b : Nat) (w : World) (hb : ob w b = some o) :
    ∃ io, (Instr.range mty (.map (some b))).run P w = .ok (.pointer (some ⟨w.heap.size, 0, none⟩)) (w.alloc io) ∧ IterAt (w.alloc io) w.heap.size b o [] := by
  obtain ⟨es, clock, rfl, hs, hk, hf⟩ := h
  refine ⟨_, run_range_map w mty kt et b es clock t.map hb, es, clock, clock, #[], clock, rfl, ob_alloc_at _ _, ?_, hs, hs.1, Nat.le_refl _, Nat.le_refl _, fun x _ => by simp⟩
  rw [ob_alloc_past _ _ _ (ob_lt hb)]; exact hb

theorem IterAt.chg {S : Nat → Prop} {w w' : World} {r mb : Nat} {D : List Int} (h : IterAt w r mb o D) (hc : Chg S w w') (h1 : ¬ S r) (h2 : ¬ S mb) : IterAt w' r mb o D := by
  obtain ⟨es, clock, since, seen, c0, e, hr, hb, rest⟩ := h
  exact ⟨es, clock, since, seen, c0, e, hc.ob hr h1, hc.ob hb h2, rest⟩

/-- How many entries are left. -/
def leftN (w : World) (r mb : Nat) : Nat := match ob w r, ob w mb with
  | some (.mapIter _ _ seen _), some (.map es _) => (leftOf es seen).size
  | _, _ => 0
theorem leftN_eq {w w' : World} {r mb : Nat} (h1 : ob w' r = ob w r) (h2 : ob w' mb = ob w mb) : leftN w' r mb = leftN w r mb := by unfold leftN; rw [h1, h2]

theorem IterAt.next {r mb : Nat} {D : List Int} {w : World} (h : MapObj o f) (hi : IterAt w r mb o D) (hne : r ≠ mb) :
    ((∀ k v, f k = some v → k ∈ D) ∧ ∀ ty, (Instr.next (.pointer (some ⟨r, 0, none⟩)) false ty).run P w = .ok (.tuple #[.bool false]) w) ∨
    ∃ k v w2, f k = some v ∧ k ∉ D ∧ (∀ ty, (Instr.next (.pointer (some ⟨r, 0, none⟩)) false ty).run P w = .ok (.tuple #[.bool true, .int .i64 k, v]) w2) ∧ Chg (fun j => j = r) w w2 ∧ w2.heap.size = w.heap.size ∧ IterAt w2 r mb o (D ++ [k]) ∧
      ∃ io, ob w2 r = some io ∧ ∀ W, ob W r = some io → ob W mb = some o → (Instr.entry (.pointer (some ⟨r, 0, none⟩))).run P W = .ok (.tuple #[.int .i64 k, v]) W ∧ leftN W r mb < leftN w r mb := by
  obtain ⟨es, clock, since, seen, c0, rfl, hr, hb, hs, hold, hsc, hcl, hD⟩ := hi
  obtain ⟨es', clock', e', _, hk, hf⟩ := h
  injection e' with e1 e2
  subst e1 e2
  rcases run_next_at (P := P) w 0 r mb since c0 seen es clock hr hb hold hsc with ⟨h0, hrun⟩ | ⟨e, he, w1, hw1, hrun⟩
  · refine .inl ⟨fun k v hkv => ?_, fun ty => hrun⟩
    obtain ⟨x, hx, ek, _⟩ := (hf k v).1 hkv
    obtain ⟨k', hk', e3⟩ := (hD x hx).1 (all_seen es seen h0 x hx)
    rw [ek] at e3
    injection e3 with _ e3
    rw [e3]; exact hk'
  · right
    obtain ⟨he1, he2⟩ := mem_left he
    obtain ⟨k, ek⟩ := hk e he1
    have hkD : k ∉ D := fun hkD => by
      rw [(hD e he1).2 ⟨k, hkD, ek⟩] at he2; cases he2
    have hc1 : Chg (fun j => j = r) w w1 := by
      rcases hw1 with rfl | rfl
      · exact Chg.refl _ _
      · exact (Chg.refl _ _).drew
    have hsz : w1.heap.size = w.heap.size := by rcases hw1 with rfl | rfl <;> rfl
    have hlt : r < w1.heap.size := by rw [hsz]; exact ob_lt hr
    have hb1 : ob w1 mb = some (.map es clock) := by rcases hw1 with rfl | rfl <;> exact hb
    have hr2 : ob (setBlock w1 r (.mapIter (some mb) since (seen.push e.born) clock)) r = some (.mapIter (some mb) since (seen.push e.born) clock) := ob_setBlock_lt _ _ _ hlt
    refine ⟨k, e.val, _, (hf k e.val).2 ⟨e, he1, ek, rfl⟩, hkD, fun ty => (show _ = _ from hrun).trans (by rw [ek]), hc1.setBlock _ _ (fun _ => rfl), by rw [size_setBlock, hsz], ?_, _, hr2, ?_⟩
    · refine ⟨es, clock, since, seen.push e.born, clock, rfl, hr2, ?_, hs, hold, hcl, hcl, ?_⟩
      · rw [ob_setBlock_ne _ _ _ _ (Ne.symm hne)]; exact hb1
      · intro x hx
        rw [contains_push, Bool.or_eq_true, hD x hx]
        constructor
        · rintro (⟨k', hk', e3⟩ | hx')
          · exact ⟨k', by simp [hk'], e3⟩
          · have : x = e := born_inj hs.2.1 hx he1 (by simpa using hx')
            subst this
            exact ⟨k, by simp, ek⟩
        · rintro ⟨k', hk', e3⟩
          rcases List.mem_append.1 hk' with hk' | hk'
          · exact .inl ⟨k', hk', e3⟩
          · simp only [List.mem_singleton] at hk'
            subst hk'
            have : x = e := by
              have hn := hs.2.2
              obtain ⟨i, hi⟩ := List.getElem?_of_mem hx
              obtain ⟨j, hj⟩ := List.getElem?_of_mem he1
              have := getElem_inj hs (i := i) (j := j) (x := x) (y := e) (by simpa using hi) (by simpa using hj) (by rw [e3, ek])
              subst this
              rw [hi] at hj
              exact Option.some.inj hj
            subst this
            exact .inr (by simp)
    · intro W hW hWb
      have := run_entry_at (P := P) W r mb since seen es clock e hW hWb he1 hs.2.1
      refine ⟨by rw [this, ek], ?_⟩
      unfold leftN
      rw [hW, hWb, hr, hb]
      exact left_shrinks es seen e he
end Go.Proofs.Ytamidchoghmmgaa
