/-
  The document's cache, plainly: the tokens as a list of lines. No program is named.
-/
import Derived.Test.YtocnhmakgbdbfaaCaM
set_option linter.unusedVariables false
set_option linter.unusedSimpArgs false
namespace Go.Proofs.Ytocnhmakgbdbfaa
open Go.RowKit

def lookD : List Line → Int → Bundle
  | [], _ => Bundle.none
  | x :: D, b => if x.block = b then x.tokens else lookD D b
def setD (D : List Line) (b : Int) (t : Bundle) : List Line := (D.filter fun x => decide (x.block ≠ b)) ++ if 0 < t.count then [⟨b, t⟩] else []

structure Toks (tok : Int → Bundle) (D : List Line) : Prop where
  nodup : (D.map Line.block).Nodup
  val : ∀ x ∈ D, x.tokens = tok x.block
  pos : ∀ x ∈ D, 0 < (tok x.block).count
  all : ∀ b, 0 < (tok b).count → ∃ x ∈ D, x.block = b
theorem Toks.nil : Toks (fun _ => Bundle.none) [] := ⟨by simp, by simp, by simp, fun b h => absurd h CacheM.none_pos⟩
theorem lookD_mem : ∀ (D : List Line) (b : Int), (∃ x ∈ D, x.block = b ∧ x.tokens = lookD D b) ∨ ((∀ x ∈ D, x.block ≠ b) ∧ lookD D b = Bundle.none)
  | [], b => .inr ⟨by simp, rfl⟩
  | x :: D, b => by
    rw [lookD]
    by_cases h : x.block = b
    · rw [if_pos h]; exact .inl ⟨x, List.mem_cons_self, h, rfl⟩
    · rw [if_neg h]
      rcases lookD_mem D b with ⟨y, hy, e⟩ | ⟨h1, h2⟩
      · exact .inl ⟨y, List.mem_cons_of_mem _ hy, e⟩
      · refine .inr ⟨fun y hy => ?_, h2⟩
        rcases List.mem_cons.1 hy with rfl | hy
        · exact h
        · exact h1 y hy
theorem Toks.look {tok : Int → Bundle} {D : List Line} (h : Toks tok D) (g : ∀ b, (tok b).Good) (b : Int) : lookD D b = tok b := by
  rcases lookD_mem D b with ⟨x, hx, e1, e2⟩ | ⟨h1, h2⟩
  · rw [← e2, h.val x hx, e1]
  · rw [h2]
    refine (Bundle.eq_none (g b) ?_).symm
    have := (g b).pos
    by_cases hp : 0 < (tok b).count
    · obtain ⟨x, hx, e⟩ := h.all b hp
      exact absurd e (h1 x hx)
    · omega
theorem Toks.set {tok : Int → Bundle} {D : List Line} (h : Toks tok D) (b : Int) (t : Bundle) : Toks (fun j => if j = b then t else tok j) (setD D b t) := by
  unfold setD
  refine ⟨?_, ?_, ?_, ?_⟩
  · rw [List.map_append, List.nodup_append]
    refine ⟨?_, ?_, ?_⟩
    · refine List.Nodup.sublist ?_ h.nodup
      exact List.Sublist.map _ List.filter_sublist
    · split <;> simp
    · intro x hx y hy
      obtain ⟨u, hu, rfl⟩ := List.mem_map.1 hx
      obtain ⟨z, hz, rfl⟩ := List.mem_map.1 hy
      have h1 : u.block ≠ b := by simpa using (List.mem_filter.1 hu).2
      split at hz
      · simp at hz; subst hz; exact h1
      · simp at hz
  · intro x hx
    rcases List.mem_append.1 hx with hx | hx
    · obtain ⟨h1, h2⟩ := List.mem_filter.1 hx
      have h2' : x.block ≠ b := by simpa using h2
      simp only [if_neg h2']
      exact h.val x h1
    · split at hx
      · simp at hx; subst hx; simp
      · simp at hx
  · intro x hx
    rcases List.mem_append.1 hx with hx | hx
    · obtain ⟨h1, h2⟩ := List.mem_filter.1 hx
      have h2' : x.block ≠ b := by simpa using h2
      simp only [if_neg h2']
      exact h.pos x h1
    · split at hx
      · rename_i hp
        simp at hx; subst hx; simpa using hp
      · simp at hx
  · intro j hj
    by_cases e : j = b
    · subst e
      simp only [if_true] at hj
      exact ⟨⟨j, t⟩, by rw [if_pos hj]; simp, rfl⟩
    · simp only [if_neg e] at hj
      obtain ⟨x, hx, e'⟩ := h.all j hj
      exact ⟨x, List.mem_append_left _ (List.mem_filter.2 ⟨hx, by simpa [e'] using e⟩), e'⟩
theorem nodup_sub_length : ∀ (a b : List Int), a.Nodup → (∀ x ∈ a, x ∈ b) → a.length ≤ b.length
  | [], b, _, _ => by simp
  | x :: a, b, hn, hs => by
    obtain ⟨h1, h2⟩ := List.nodup_cons.1 hn
    have hx := hs x List.mem_cons_self
    have := nodup_sub_length a (b.erase x) h2 fun y hy => (List.mem_erase_of_ne (fun e => h1 (by rw [← e]; exact hy))).2 (hs y (List.mem_cons_of_mem _ hy))
    rw [List.length_erase_of_mem hx] at this
    have := List.length_pos_of_mem hx
    simp only [List.length_cons]; omega
theorem Toks.few {c : CacheM} {D : List Line} (h : Toks c.tok D) (ok : c.Ok) : D.length ≤ 1024 := by
  have h1 := nodup_sub_length (D.map Line.block) c.lines.all h.nodup fun x hx => by
    obtain ⟨y, hy, rfl⟩ := List.mem_map.1 hx
    exact (ok.mem _).2 (h.pos y hy)
  rw [List.length_map] at h1
  exact Nat.le_trans h1 (Lines.few ok.lines)
theorem setD_len (D : List Line) (b : Int) (t : Bundle) : (setD D b t).length ≤ D.length + 1 := by
  unfold setD
  have h := List.length_filter_le (fun x : Line => decide (x.block ≠ b)) D
  rw [List.length_append]
  split
  · simp only [List.length_singleton]; omega
  · simp only [List.length_nil]; omega
end Go.Proofs.Ytocnhmakgbdbfaa
