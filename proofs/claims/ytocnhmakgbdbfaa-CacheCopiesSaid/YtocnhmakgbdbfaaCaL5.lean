/-
  CacheSums: of each block there are as many tokens as came, less those that went; the owner's is there just if it came and hasn't gone. No condition.
-/
import Derived.Test.YtocnhmakgbdbfaaCaL0
import Derived.Test.YtocnhmakgbdbfaaCaP
import Derived.Test.YtocnhmakgbdbfaaCaP2
namespace Go.Proofs.Ytocnhmakgbdbfaa
open Go.RowKit Go.Sort Go.ChangeShapes Go.WideShapes Go.ChangeAt
open Go.ChangeMaps (setBlock)
set_option linter.unusedVariables false
set_option linter.unusedSimpArgs false

/-- The invariant of the sums, behind k calls. -/
structure Sums (k : Nat) (c : CacheM) (block n ow : Int) (owd : Bool) : Prop where
  cnt : n = (c.tok block).count
  own : owd = false → ow = ownerN (c.tok block)
  lo : -(2 * k : Int) ≤ ow
  hi : ow ≤ 2 * k
  all : ∀ j, (c.tok j).count ≤ k * 1048576
theorem ownerN_bd (b : Bundle) : 0 ≤ ownerN b ∧ ownerN b ≤ 1 := by unfold ownerN; split <;> omega
theorem join_owner (h b : Bundle) (hn : ¬ (h.owner = true ∧ b.owner = true)) : ownerN (h.join b) = ownerN h + ownerN b := by
  unfold ownerN Bundle.join
  cases h1 : h.owner <;> cases h2 : b.owner <;> simp_all
/-- What a call of Absorb does to them. -/
theorem Sums.absorb {k : Nat} {c : CacheM} {block n ow : Int} {owd : Bool} (h : Sums k c block n ow owd) (ok : c.Ok) (b : Int) {t : Bundle} (g : t.Good) (ht : t.count ≤ 1048576) (pin : Int)
    (owd' : Bool) (n' ow' : Int) (ho : owd' = (owd || (decide (b = block) && t.owner && decide (0 < ow)))) (hn : n' = n + (if b = block then t.count else 0) - (if (c.absorb b t pin).2.2 = true ∧ (c.absorb b t pin).2.1.block = block then (c.absorb b t pin).2.1.tokens.count else 0))
    (how : ow' = ow + (if b = block then ownerN t else 0) - (if (c.absorb b t pin).2.2 = true ∧ (c.absorb b t pin).2.1.block = block then ownerN (c.absorb b t pin).2.1.tokens else 0)) :
    Sums (k + 1) (c.absorb b t pin).1 block n' ow' owd' := by
  have b1 := ownerN_bd t
  have b2 := ownerN_bd (c.absorb b t pin).2.1.tokens
  have l1 := h.lo
  have l2 := h.hi
  refine ⟨?_, fun hf => ?_, ?_, ?_, fun j => ?_⟩
  · have := absorb_measure ok b g pin block (fun x => x.count) rfl (fun _ => rfl) (fun hc => by have := g.pos; omega)
    rw [hn, h.cnt]; exact this.symm
  · rw [ho] at hf
    rw [Bool.or_eq_false_iff] at hf
    have h0 := h.own hf.1
    have := absorb_measure ok b g pin block ownerN rfl (fun e => join_owner _ _ fun hh => ?_) (fun hc => by have := g.pos; have := g.own (by omega); simp [ownerN, this])
    · rw [how, h0]; exact this.symm
    · have h3 := hf.2
      subst e
      rw [hh.2, h0] at h3
      simp [ownerN, hh.1] at h3
  · rw [how]; split <;> split <;> omega
  · rw [how]; split <;> split <;> omega
  · have h1 := absorb_bound ok b g pin j
    have h2 := h.all j
    omega
theorem Sums.take {k : Nat} {c : CacheM} {block n ow : Int} {owd : Bool} (h : Sums k c block n ow owd) (ok : c.Ok) (b count : Int) (own data : Bool) (n' ow' : Int)
    (hn : n' = n - (if b = block then (c.take b count own data).2.count else 0)) (how : ow' = ow - (if b = block then ownerN (c.take b count own data).2 else 0)) :
    Sums (k + 1) (c.take b count own data).1 block n' ow' owd := by
  have l1 := h.lo
  have l2 := h.hi
  have b2 := ownerN_bd (c.take b count own data).2
  have hsc := Bundle.split_count (ok.good b) count own data
  have hso := split_owner (ok.good b) count own data
  have e1 : ∀ j, (c.take b count own data).1.tok j = if j = b then ((c.tok b).split count own data).2 else c.tok j := fun j => rfl
  have e2 : (c.take b count own data).2 = ((c.tok b).split count own data).1 := rfl
  rw [e2] at hn how b2
  refine ⟨?_, fun hf => ?_, ?_, ?_, fun j => ?_⟩
  · rw [e1, hn, h.cnt]
    by_cases e : b = block
    · subst e; rw [if_pos rfl, if_pos rfl]; omega
    · rw [if_neg e, if_neg (Ne.symm e)]; omega
  · rw [e1, how, h.own hf]
    by_cases e : b = block
    · subst e; rw [if_pos rfl, if_pos rfl]; omega
    · rw [if_neg e, if_neg (Ne.symm e)]; omega
  · rw [how]; split <;> omega
  · rw [how]; split <;> omega
  · rw [e1]
    have := h.all j
    have := h.all b
    have := (Bundle.split_good (ok.good b) count own data).1.pos
    split <;> omega
theorem Sums.does {k : Nat} {c : CacheM} {block n ow : Int} {owd : Bool} (h : Sums k c block n ow owd) (op : Op) (tokens : Int) : Sums (k + 1) (c.does op tokens).1 block n ow owd := by
  have e : ∀ j, ((c.does op tokens).1.tok j).count = (c.tok j).count ∧ ownerN ((c.does op tokens).1.tok j) = ownerN (c.tok j) := fun j => by
    unfold CacheM.does
    split
    · show (if j = op.block then (c.tok op.block).done op else c.tok j).count = _ ∧ ownerN (if j = op.block then (c.tok op.block).done op else c.tok j) = _
      split
      · rename_i e; subst e
        refine ⟨Bundle.done_count _ _, ?_⟩
        unfold ownerN Bundle.done; split <;> rfl
      · exact ⟨rfl, rfl⟩
    · exact ⟨rfl, rfl⟩
  have l1 := h.lo
  have l2 := h.hi
  exact ⟨by rw [(e _).1]; exact h.cnt, fun hf => by rw [(e _).2]; exact h.own hf, by omega, by omega, fun j => by rw [(e _).1]; have := h.all j; omega⟩
theorem Sums.same {k : Nat} {c : CacheM} {block n ow : Int} {owd : Bool} (h : Sums k c block n ow owd) : Sums (k + 1) c block n ow owd := by
  have l1 := h.lo
  have l2 := h.hi
  exact ⟨h.cnt, h.own, by omega, by omega, fun j => by have := h.all j; omega⟩

set_option maxHeartbeats 1000000 in
theorem owner_calls (b : Bundle) (w : World) : Calls Try.prog 40 #[b.val] w (Pure w (.int .i64 (ownerN b))) := by
  obtain ⟨bc, bo, bh, bd⟩ := b
  simp only [Bundle.val, Bundle.cells]
  cases bo
  all_goals
    go_enter Try.func40, Try.ntmps40
    go_wp2_with fail
    go_ret
    exact pure_of (by simp [ownerN]) (by repeat (first | with_reducible exact Chg.refl _ _ | with_reducible exact chg0 | with_reducible refine Chg.drewN ?_ _ | with_reducible refine Chg.drew ?_ | with_reducible refine Chg.alloc ?_ _ | with_reducible refine Chg.setCell ?_ _ _ (by first | (simp; done) | omega | (simp; omega)) | with_reducible refine Chg.setBlock ?_ _ _ (by first | (simp; done) | omega | (simp; omega)) | exact Chg.refl _ _))
end Go.Proofs.Ytocnhmakgbdbfaa
