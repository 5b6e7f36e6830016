/-
  What CacheSums asks, plainly. No program is named.
-/
import Derived.Test.YtocnhmakgbdbfaaCaM
set_option linter.unusedVariables false
set_option linter.unusedSimpArgs false
namespace Go.Proofs.Ytocnhmakgbdbfaa

/-- What a number that is told of tokens becomes, of one block, when tokens come. -/
theorem absorb_measure {c : CacheM} (h : c.Ok) (blk : Int) {b : Bundle} (g : b.Good) (pin j : Int) (μ : Bundle → Int) (h0 : μ Bundle.none = 0)
    (hj : blk = j → μ ((c.tok blk).join b) = μ (c.tok blk) + μ b) (hz : b.count < 1 → μ b = 0) :
    μ ((c.absorb blk b pin).1.tok j) = μ (c.tok j) + (if blk = j then μ b else 0) - (if (c.absorb blk b pin).2.2 = true ∧ (c.absorb blk b pin).2.1.block = j then μ (c.absorb blk b pin).2.1.tokens else 0) := by
  unfold CacheM.absorb
  by_cases q1 : b.count < 1
  · rw [if_pos q1]
    have := hz q1
    show μ (c.tok j) = _
    simp only [Bool.false_eq_true, false_and, if_false]
    split <;> omega
  rw [if_neg q1]
  by_cases q2 : c.lines.has blk = true
  · rw [if_pos q2]
    show μ (if j = blk then (c.tok blk).join b else c.tok j) = _
    simp only [Bool.false_eq_true, false_and, if_false]
    by_cases e : blk = j
    · have := hj e
      subst e
      rw [if_pos rfl, if_pos rfl]; omega
    · rw [if_neg (Ne.symm e), if_neg e]; omega
  rw [if_neg q2]
  have hno : blk = j → c.tok j = Bundle.none := fun e => h.none fun hm => by rw [← e] at hm; exact q2 ((c.lines.has_iff _).2 hm)
  by_cases q3 : (c.lines.victim blk pin).2 = false
  · rw [if_pos q3]
    show μ (c.tok j) = μ (c.tok j) + (if blk = j then μ b else 0) - (if true = true ∧ blk = j then μ b else 0)
    by_cases e : blk = j
    · rw [if_pos e, if_pos ⟨rfl, e⟩]; omega
    · rw [if_neg e, if_neg (fun h => e h.2)]; omega
  rw [if_neg q3]
  obtain ⟨a1, a2⟩ := absorb_can (pinned := pin) h (by simpa using q2) (by simpa using q3)
  by_cases q4 : c.lines.has (c.lines.victim blk pin).1 = true
  · rw [if_pos q4]
    obtain ⟨_, _, hv⟩ := a1 q4
    show μ (if j = blk then b else if j = (c.lines.victim blk pin).1 then Bundle.none else c.tok j) = _
    by_cases e : blk = j
    · have hn := hno e
      rw [if_pos e.symm, if_pos e, if_neg (fun h => hv (h.2.trans e.symm)), hn, h0]; omega
    · rw [if_neg (Ne.symm e), if_neg e]
      by_cases e2 : (c.lines.victim blk pin).1 = j
      · rw [if_pos e2.symm, if_pos ⟨rfl, e2⟩, h0]
        show _ = _ + _ - μ (c.tok (c.lines.victim blk pin).1)
        rw [e2]; omega
      · rw [if_neg (Ne.symm e2), if_neg (fun h => e2 h.2)]; omega
  · rw [if_neg q4]
    show μ (if j = blk then b else c.tok j) = _
    simp only [Bool.false_eq_true, false_and, if_false]
    by_cases e : blk = j
    · have hn := hno e
      rw [if_pos e.symm, if_pos e, hn, h0]; omega
    · rw [if_neg (Ne.symm e), if_neg e]; omega
def ownerN (b : Bundle) : Int := if b.owner = true then 1 else 0
theorem split_owner {h : Bundle} (g : h.Good) (count : Int) (owner data : Bool) : ownerN (h.split count owner data).1 + ownerN (h.split count owner data).2 = ownerN h := by
  obtain ⟨l1, l2, l3, l4⟩ := h.given_le g count owner
  unfold Bundle.split
  simp only
  split
  · simp [ownerN, Bundle.none]
  · rename_i hn
    split
    · rename_i hh
      cases ho : h.owner with
      | true =>
        have := l3 hh ho (by omega)
        simp [ownerN, Bundle.valued, Bundle.none, this, ho]
      | false =>
        have : (h.given count owner).2 = false := by
          cases hg : (h.given count owner).2 with
          | false => rfl
          | true => have := (l4 hg).1; rw [ho] at this; cases this
        simp [ownerN, Bundle.valued, Bundle.none, this, ho]
    · cases ho : h.owner with
      | true => cases hg : (h.given count owner).2 <;> simp [ownerN, Bundle.valued, hg, ho]
      | false =>
        have : (h.given count owner).2 = false := by
          cases hg : (h.given count owner).2 with
          | false => rfl
          | true => have := (l4 hg).1; rw [ho] at this; cases this
        simp [ownerN, Bundle.valued, this, ho]
end Go.Proofs.Ytocnhmakgbdbfaa
