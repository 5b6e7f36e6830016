/-
  What CacheTakes and CacheStores ask, plainly. No program is named.
-/
import Derived.Test.YtocnhmakgbdbfaaCaM
set_option linter.unusedVariables false
set_option linter.unusedSimpArgs false
namespace Go.Proofs.Ytocnhmakgbdbfaa

def other09 : Bundle := ⟨1, false, true, 5⟩
theorem other09_good : other09.Good := (Bundle.check_zero (tokens := 2)).1 (by decide) |>.1
def tk1 : CacheM := ((CacheM.new 2 2).absorb 1 other09 (-1)).1
theorem tk1_lines : tk1.lines = ⟨2, 2, [1]⟩ := by kernel_rfl
theorem tk1_tok (j : Int) : tk1.tok j = if j = 1 then other09 else Bundle.none := rfl
theorem tk2 {h : Bundle} (g : h.Good) : (tk1.absorb 3 h (-1)).1.tok 3 = h ∧ (tk1.absorb 3 h (-1)).1.tok 1 = other09 ∧ (tk1.absorb 3 h (-1)).1.lines = if h.count < 1 then ⟨2, 2, [1]⟩ else ⟨2, 2, [1, 3]⟩ := by
  have gp := g.pos
  unfold CacheM.absorb
  rw [tk1_lines]
  by_cases q : h.count < 1
  · rw [if_pos q, if_pos q]
    refine ⟨?_, rfl, tk1_lines⟩
    rw [Bundle.eq_none g (by omega)]; rfl
  · rw [if_neg q, if_neg q, if_neg (by decide), if_neg (by decide), if_neg (by decide)]
    refine ⟨?_, ?_, ?_⟩
    · show (if (3 : Int) = 3 then h else tk1.tok 3) = h
      rw [if_pos rfl]
    · rfl
    · show tk1.lines.add 3 = _
      rw [tk1_lines]
      kernel_rfl
theorem tk3 {h : Bundle} (g : h.Good) (count : Int) (owner data : Bool) :
    let a := (tk1.absorb 3 h (-1)).1
    (a.take 3 count owner data).2 = (h.split count owner data).1 ∧ (a.take 3 count owner data).1.tok 3 = (h.split count owner data).2 ∧ (a.take 3 count owner data).1.tok 1 = other09 ∧
      (a.take 3 count owner data).1.all.length = if 0 < (h.split count owner data).2.count then 2 else 1 := by
  obtain ⟨h3, h1, hl⟩ := tk2 g
  intro a
  have e3 : a.tok 3 = h := h3
  have e1 : a.tok 1 = other09 := h1
  have el : a.lines = if h.count < 1 then ⟨2, 2, [1]⟩ else ⟨2, 2, [1, 3]⟩ := hl
  have hc := Bundle.split_count g count owner data
  have hg := Bundle.split_good g count owner data
  refine ⟨?_, ?_, ?_, ?_⟩
  · show ((a.tok 3).split count owner data).1 = _
    rw [e3]
  · show (if (3 : Int) = 3 then ((a.tok 3).split count owner data).2 else a.tok 3) = _
    rw [if_pos rfl, e3]
  · show (if (1 : Int) = 3 then ((a.tok 3).split count owner data).2 else a.tok 1) = _
    rw [if_neg (by decide), e1]
  · have hlen : (a.take 3 count owner data).1.all.length = (a.take 3 count owner data).1.lines.all.length := by
      rw [CacheM.all, List.length_map]; exact (List.mergeSort_perm _ _).length_eq
    rw [hlen]
    show (if 0 < ((a.tok 3).split count owner data).2.count then a.lines else a.lines.rem 3).all.length = _
    rw [e3, el]
    by_cases q : 0 < (h.split count owner data).2.count
    · have := hg.1.pos
      rw [if_pos q, if_pos q, if_neg (by omega)]; rfl
    · rw [if_neg q, if_neg q]
      by_cases q2 : h.count < 1
      · rw [if_pos q2]; decide +kernel
      · rw [if_neg q2]; decide +kernel
end Go.Proofs.Ytocnhmakgbdbfaa
