/-
  What CacheRoom asks, plainly. No program is named.
-/
import Derived.Test.YtocnhmakgbdbfaaCaP
import Derived.Test.YtocnhmakgbdbfaaLnP2
set_option linter.unusedVariables false
set_option linter.unusedSimpArgs false
namespace Go.Proofs.Ytocnhmakgbdbfaa

theorem rem_sizes (s : Lines) (b : Int) : (s.rem b).sets = s.sets ∧ (s.rem b).ways = s.ways := ⟨rfl, rfl⟩
theorem use_sizes (s : Lines) (b : Int) : (s.use b).sets = s.sets ∧ (s.use b).ways = s.ways := by unfold Lines.use; split <;> exact ⟨rfl, rfl⟩
theorem add_sizes (s : Lines) (b : Int) : (s.add b).sets = s.sets ∧ (s.add b).ways = s.ways := by unfold Lines.add; split <;> exact ⟨rfl, rfl⟩
theorem set_sizes (c : CacheM) (b : Int) (t : Bundle) : (c.set b t).lines.sets = c.lines.sets ∧ (c.set b t).lines.ways = c.lines.ways := by
  unfold CacheM.set; simp only; split <;> exact ⟨rfl, rfl⟩
theorem absorb_sizes (c : CacheM) (b : Int) (t : Bundle) (pin : Int) : (c.absorb b t pin).1.lines.sets = c.lines.sets ∧ (c.absorb b t pin).1.lines.ways = c.lines.ways := by
  unfold CacheM.absorb
  split
  · exact ⟨rfl, rfl⟩
  split
  · have h1 := set_sizes (c.use b) b ((c.tok b).join t)
    have h2 := use_sizes c.lines b
    exact ⟨h1.1.trans h2.1, h1.2.trans h2.2⟩
  split
  · exact ⟨rfl, rfl⟩
  split
  · have h1 := set_sizes c (c.lines.victim b pin).1 Bundle.none
    have h2 := add_sizes (c.set (c.lines.victim b pin).1 Bundle.none).lines b
    exact ⟨h2.1.trans h1.1, h2.2.trans h1.2⟩
  · exact add_sizes c.lines b
theorem take_sizes (c : CacheM) (b count : Int) (o d : Bool) : (c.take b count o d).1.lines.sets = c.lines.sets ∧ (c.take b count o d).1.lines.ways = c.lines.ways := set_sizes c b _
theorem does_sizes (c : CacheM) (op : Op) (t : Int) : (c.does op t).1.lines.sets = c.lines.sets ∧ (c.does op t).1.lines.ways = c.lines.ways := by
  unfold CacheM.does
  split
  · have h1 := set_sizes c op.block ((c.tok op.block).done op)
    have h2 := use_sizes (c.set op.block ((c.tok op.block).done op)).lines op.block
    exact ⟨h2.1.trans h1.1, h2.2.trans h1.2⟩
  · exact ⟨rfl, rfl⟩
theorem take_bound {c : CacheM} (ok : c.Ok) (b count : Int) (o d : Bool) (j : Int) : ((c.take b count o d).1.tok j).count ≤ (c.tok j).count := by
  show (if j = b then ((c.tok b).split count o d).2 else c.tok j).count ≤ _
  have h1 := Bundle.split_count (ok.good b) count o d
  have h2 := (Bundle.split_good (ok.good b) count o d).1.pos
  split
  · rename_i e; subst e; omega
  · omega
theorem does_count (c : CacheM) (op : Op) (t j : Int) : ((c.does op t).1.tok j).count = (c.tok j).count := by
  unfold CacheM.does
  split
  · show (if j = op.block then (c.tok op.block).done op else c.tok j).count = _
    split
    · rename_i e; subst e; exact Bundle.done_count _ _
    · rfl
  · rfl
theorem list_strict {s : Lines} (h : s.Ok) : List.Pairwise (fun a b => a < b) s.list := by
  have h1 := sort_sorted s.all
  have h2 : s.list.Nodup := (List.mergeSort_perm s.all (fun x y => decide (x ≤ y))).nodup_iff.2 h.nodup
  exact h1.imp₂ (fun a b h1 h2 => by omega) h2
theorem list_mem (s : Lines) (x : Int) : x ∈ s.list ↔ x ∈ s.all := (List.mergeSort_perm s.all (fun x y => decide (x ≤ y))).mem_iff
/-- The k-th line of a cache, and those ahead. -/
theorem room_at {c : CacheM} (ok : c.Ok) (k : Nat) (hk : k < c.lines.list.length) :
    (∀ j, j < k → c.lines.list.getD j 0 < c.lines.list.getD k 0) ∧ 0 ≤ c.lines.list.getD k 0 ∧ 1 ≤ (c.tok (c.lines.list.getD k 0)).count ∧ (∀ q, (cntOf c.lines.sets (c.lines.list.take (k + 1)) q : Int) ≤ c.lines.ways) := by
  have e : c.lines.list.getD k 0 = c.lines.list[k] := by simp [List.getD, hk]
  have hm : c.lines.list[k] ∈ c.lines.all := (list_mem _ _).1 (List.getElem_mem hk)
  refine ⟨fun j hj => ?_, by rw [e]; exact ok.lines.pos _ hm, by rw [e]; have := (ok.mem _).1 hm; omega, fun q => ?_⟩
  · have h := List.pairwise_iff_getElem.1 (list_strict ok.lines) j k (by omega) hk hj
    simpa [List.getD, hk, show j < c.lines.list.length by omega] using h
  · have h1 : cntOf c.lines.sets (c.lines.list.take (k + 1)) q ≤ cntOf c.lines.sets c.lines.list q := by
      unfold cntOf
      exact ((List.take_sublist _ _).filter _).length_le
    rw [cntOf_list] at h1
    have := ok.lines.room q
    omega
end Go.Proofs.Ytocnhmakgbdbfaa
