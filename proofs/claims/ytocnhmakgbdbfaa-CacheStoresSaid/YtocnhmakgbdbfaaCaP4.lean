/-
  What CacheStores asks, plainly. No program is named.
-/
import Derived.Test.YtocnhmakgbdbfaaCaM
set_option linter.unusedVariables false
set_option linter.unusedSimpArgs false
namespace Go.Proofs.Ytocnhmakgbdbfaa

def st0 (b : Int) (h : Bundle) : CacheM := ((CacheM.new 1 1).absorb b h (-1)).1
theorem st0_tok {h : Bundle} (g : h.Good) {b : Int} (hb : 0 ≤ b) : (st0 b h).tok b = h := by
  have gp := g.pos
  unfold st0 CacheM.absorb
  by_cases q : h.count < 1
  · rw [if_pos q, Bundle.eq_none g (by omega)]; rfl
  · have hv : (CacheM.new 1 1).lines.victim b (-1) = (-1, true) := by
      have : ¬ b < 0 := by omega
      have e : (CacheM.new 1 1).lines = ⟨1, 1, []⟩ := by kernel_rfl
      rw [e]
      simp [Lines.victim, Lines.has, Lines.mates, Lines.row, this]
    rw [if_neg q, if_neg (by simp [CacheM.new, Lines.new, Lines.has]), hv]
    rw [if_neg (by decide), if_neg (by decide)]
    show (if b = b then h else _) = h
    rw [if_pos rfl]
theorem done_data (h : Bundle) (op : Op) : (h.done op).data = if op.write = true then op.value else h.data := by
  unfold Bundle.done; split <;> rfl
theorem st1 {h : Bundle} (g : h.Good) (op : Op) (hb : 0 ≤ op.block) (tokens : Int) :
    ((st0 op.block h).does op tokens).2 = (if h.may op.write tokens = true then (if op.write = true then op.value else h.data) else 0, h.may op.write tokens) := by
  unfold CacheM.does
  rw [st0_tok g hb]
  split
  · rename_i hm; rw [hm, done_data]
  · rename_i hm; simp only [Bool.not_eq_true] at hm; rw [hm]
theorem st2 {h : Bundle} (g : h.Good) (op : Op) (hb : 0 ≤ op.block) (tokens : Int) :
    (((st0 op.block h).does op tokens).1.does ⟨op.block, false, 0⟩ tokens).2 =
      (if h.may false tokens = true then (if h.may op.write tokens = true ∧ op.write = true then op.value else h.data) else 0, h.may false tokens) := by
  have e : ((st0 op.block h).does op tokens).1.tok op.block = if h.may op.write tokens = true then h.done op else h := by
    unfold CacheM.does
    rw [st0_tok g hb]
    split
    · show (if op.block = op.block then h.done op else _) = _
      rw [if_pos rfl]
    · exact st0_tok g hb
  have hmay : ((((st0 op.block h).does op tokens).1.tok op.block).may false tokens) = h.may false tokens := by
    rw [e]
    split
    · unfold Bundle.done Bundle.may
      split <;> rfl
    · rfl
  generalize ((st0 op.block h).does op tokens).1 = c at e hmay
  unfold CacheM.does
  simp only
  rw [hmay]
  split
  · rw [done_data, if_neg (by simp), e]
    by_cases q : h.may op.write tokens = true
    · rw [if_pos q, done_data]
      by_cases q2 : op.write = true
      · rw [if_pos q2, if_pos ⟨q, q2⟩]; simp_all
      · rw [if_neg q2, if_neg (fun h => q2 h.2)]; simp_all
    · rw [if_neg q, if_neg (fun h => q h.1)]; simp_all
  · rename_i hm; simp only [Bool.not_eq_true] at hm; rw [hm]
theorem may_eq (h : Bundle) (write : Bool) (tokens : Int) : h.may write tokens = (decide (0 < h.count) && h.has && (!write || decide (h.count = tokens))) := by
  unfold Bundle.may
  congr 3
end Go.Proofs.Ytocnhmakgbdbfaa
