/-
  Tokens and the cache, plainly. No program is named.
-/
import Derived.Test.YtocnhmakgbdbfaaT
import Derived.Test.YtocnhmakgbdbfaaLnP
set_option linter.unusedVariables false
set_option linter.unusedSimpArgs false
namespace Go.Proofs.Ytocnhmakgbdbfaa
open Go.RowKit

def Bundle.none : Bundle := ⟨0, false, false, 0⟩
def Line.none : Line := ⟨0, Bundle.none⟩
/-- What the document lets be. -/
structure Bundle.Good (b : Bundle) : Prop where
  pos : 0 ≤ b.count
  own : b.count = 0 → b.owner = false
  hasnt : b.count = 0 → b.has = false
  has : b.owner = true → b.has = true
  data : b.has = false → b.data = 0
theorem Bundle.none_good : Bundle.none.Good := ⟨by decide, fun _ => rfl, fun _ => rfl, (fun h => by cases h), fun _ => rfl⟩
theorem Bundle.eq_none {b : Bundle} (h : b.Good) (h0 : b.count = 0) : b = Bundle.none := by
  have h1 := h.own h0
  have h2 := h.hasnt h0
  have h3 := h.data h2
  obtain ⟨a, b, c, d⟩ := b
  simp only at h0 h1 h2 h3
  subst h0; subst h1; subst h2; subst h3
  rfl
def Bundle.check (b : Bundle) (tokens : Int) : Int :=
  if b.count < 0 ∨ tokens < b.count then 4
  else if b.count = 0 ∧ (b.owner = true ∨ b.has = true) then 5
  else if (b.owner = true ∧ b.has = false) ∨ (b.has = false ∧ b.data ≠ 0) then 6
  else 0
theorem Bundle.check_zero {b : Bundle} {tokens : Int} : b.check tokens = 0 ↔ b.Good ∧ b.count ≤ tokens := by
  unfold Bundle.check
  constructor
  · intro h
    split at h
    · omega
    split at h
    · omega
    split at h
    · omega
    rename_i h1 h2 h3
    refine ⟨⟨by omega, fun h0 => ?_, fun h0 => ?_, fun ho => ?_, fun hh => ?_⟩, by omega⟩
    · cases ho : b.owner with
      | false => rfl
      | true => exact absurd ⟨h0, .inl ho⟩ h2
    · cases ho : b.has with
      | false => rfl
      | true => exact absurd ⟨h0, .inr ho⟩ h2
    · cases hh : b.has with
      | true => rfl
      | false => exact absurd (.inl ⟨ho, hh⟩) h3
    · by_cases hd : b.data = 0
      · exact hd
      · exact absurd (.inr ⟨hh, hd⟩) h3
  · rintro ⟨g, hc⟩
    rw [if_neg, if_neg, if_neg]
    · rintro (⟨h1, h2⟩ | ⟨h1, h2⟩)
      · rw [g.has h1] at h2; cases h2
      · exact h2 (g.data h1)
    · rintro ⟨h0, h1 | h1⟩
      · rw [g.own h0] at h1; cases h1
      · rw [g.hasnt h0] at h1; cases h1
    · have := g.pos
      omega
def Bundle.join (h b : Bundle) : Bundle := ⟨h.count + b.count, h.owner || b.owner, h.has || b.has, if b.has = true then b.data else h.data⟩
theorem Bundle.join_good {h b : Bundle} (g : h.Good) (g' : b.Good) : (h.join b).Good := by
  have p1 := g.pos
  have p2 := g'.pos
  refine ⟨by simp [Bundle.join]; omega, fun h0 => ?_, fun h0 => ?_, fun ho => ?_, fun hh => ?_⟩
  · simp only [Bundle.join] at h0 ⊢
    rw [g.own (by omega), g'.own (by omega)]; rfl
  · simp only [Bundle.join] at h0 ⊢
    rw [g.hasnt (by omega), g'.hasnt (by omega)]; rfl
  · simp only [Bundle.join] at ho ⊢
    rcases Bool.or_eq_true_iff.1 ho with h1 | h1
    · rw [g.has h1]; rfl
    · rw [g'.has h1]; simp
  · simp only [Bundle.join] at hh ⊢
    rw [Bool.or_eq_false_iff] at hh
    rw [if_neg (by simp [hh.2])]
    exact g.data hh.1
/-- How many are given away, and whether the owner's is. -/
def Bundle.given (h : Bundle) (count : Int) (owner : Bool) : Int × Bool :=
  let n := min (max count 0) h.count
  if h.owner = true then (if owner = true ∧ 0 < n then (n, true) else if n = h.count then (n - 1, false) else (n, false)) else (n, false)
def Bundle.valued (n : Int) (owner has : Bool) (data : Int) : Bundle := ⟨n, owner, has, if has = true then data else 0⟩
def Bundle.split (h : Bundle) (count : Int) (owner data : Bool) : Bundle × Bundle :=
  let g := h.given count owner
  if g.1 ≤ 0 then (Bundle.none, h)
  else (Bundle.valued g.1 g.2 (h.has && (data || g.2)) h.data, if g.1 = h.count then Bundle.none else ⟨h.count - g.1, h.owner && !g.2, h.has, h.data⟩)
theorem Bundle.given_le (h : Bundle) (g : h.Good) (count : Int) (owner : Bool) : -1 ≤ (h.given count owner).1 ∧ (h.given count owner).1 ≤ h.count ∧ ((h.given count owner).1 = h.count → h.owner = true → 0 < h.count → (h.given count owner).2 = true) ∧ ((h.given count owner).2 = true → h.owner = true ∧ 0 < (h.given count owner).1) := by
  have p := g.pos
  unfold Bundle.given
  simp only
  split
  · split
    · rename_i h1 h2
      exact ⟨by simp only; omega, by simp only; omega, fun _ _ _ => rfl, fun _ => ⟨h1, h2.2⟩⟩
    split
    · exact ⟨by simp only; omega, by simp only; omega, fun h1 => by simp only at h1; omega, (fun h => by cases h)⟩
    · rename_i h1 h2 h3
      exact ⟨by simp only; omega, by simp only; omega, fun h1 => absurd h1 h3, (fun h => by cases h)⟩
  · rename_i h1
    exact ⟨by simp only; omega, by simp only; omega, fun _ h2 => absurd h2 h1, (fun h => by cases h)⟩
theorem Bundle.split_good {h : Bundle} (g : h.Good) (count : Int) (owner data : Bool) : (h.split count owner data).1.Good ∧ (h.split count owner data).2.Good := by
  obtain ⟨l1, l2, l3, l4⟩ := h.given_le g count owner
  unfold Bundle.split
  simp only
  split
  · exact ⟨Bundle.none_good, g⟩
  · rename_i hn
    refine ⟨⟨by simp only [Bundle.valued]; omega, fun h0 => absurd h0 (by simp only [Bundle.valued]; omega), fun h0 => absurd h0 (by simp only [Bundle.valued]; omega), fun ho => ?_, fun hh => ?_⟩, ?_⟩
    · simp only [Bundle.valued] at ho ⊢
      rw [g.has (l4 ho).1, ho]; simp
    · simp only [Bundle.valued] at hh ⊢
      rw [if_neg (by simp [hh])]
    · split
      · exact Bundle.none_good
      · rename_i hne
        refine ⟨by simp only; omega, fun h0 => absurd h0 (by simp only; omega), fun h0 => absurd h0 (by simp only; omega), fun ho => ?_, fun hh => g.data hh⟩
        simp only at ho
        exact g.has (by cases hh : h.owner with | true => rfl | false => rw [hh] at ho; cases ho)
theorem Bundle.split_count {h : Bundle} (g : h.Good) (count : Int) (owner data : Bool) : (h.split count owner data).1.count + (h.split count owner data).2.count = h.count := by
  unfold Bundle.split
  simp only
  split
  · simp [Bundle.none]
  · split
    · rename_i h1 h2
      simp only [Bundle.valued, Bundle.none]; omega
    · simp only [Bundle.valued]; omega
theorem Bundle.split_zero {h : Bundle} (g : h.Good) (h0 : h.count = 0) (count : Int) (owner data : Bool) : h.split count owner data = (Bundle.none, Bundle.none) := by
  have e := Bundle.eq_none g h0
  subst e
  obtain ⟨l1, l2, l3, l4⟩ := Bundle.none.given_le g count owner
  unfold Bundle.split
  simp only
  rw [if_pos (by rw [h0] at l2; exact l2)]
/-- May an operation be done? -/
def Bundle.may (h : Bundle) (write : Bool) (tokens : Int) : Bool := decide (1 ≤ h.count) && h.has && (!write || decide (h.count = tokens))
def Bundle.done (h : Bundle) (op : Op) : Bundle := if op.write = true then { h with data := op.value } else h
def Bundle.does (h : Bundle) (op : Op) (tokens : Int) : Bundle × Int × Bool := if h.may op.write tokens = true then (h.done op, (h.done op).data, true) else (h, 0, false)
theorem Bundle.done_good {h : Bundle} (g : h.Good) (op : Op) (hh : h.has = true) : (h.done op).Good := by
  unfold Bundle.done
  split
  · exact ⟨g.pos, g.own, g.hasnt, g.has, fun h0 => by simp only at h0; rw [hh] at h0; cases h0⟩
  · exact g
theorem Bundle.done_count (h : Bundle) (op : Op) : (h.done op).count = h.count := by unfold Bundle.done; split <;> rfl
theorem Bundle.may_iff {h : Bundle} {write : Bool} {tokens : Int} : h.may write tokens = true ↔ 1 ≤ h.count ∧ h.has = true ∧ (write = true → h.count = tokens) := by
  unfold Bundle.may
  cases write <;> simp [and_assoc]

/-! ### The cache -/
structure CacheM where
  lines : Lines
  tok : Int → Bundle
structure CacheM.Ok (c : CacheM) : Prop where
  lines : c.lines.Ok
  good : ∀ b, (c.tok b).Good
  mem : ∀ b, b ∈ c.lines.all ↔ 0 < (c.tok b).count
def CacheM.new (s w : Int) : CacheM := ⟨Lines.new s w, fun _ => Bundle.none⟩
def CacheM.put (c : CacheM) (b : Int) (t : Bundle) : CacheM := ⟨c.lines, fun j => if j = b then t else c.tok j⟩
def CacheM.set (c : CacheM) (b : Int) (t : Bundle) : CacheM := ⟨if 0 < t.count then c.lines else c.lines.rem b, fun j => if j = b then t else c.tok j⟩
def CacheM.use (c : CacheM) (b : Int) : CacheM := ⟨c.lines.use b, c.tok⟩
def CacheM.lay (c : CacheM) (b : Int) (t : Bundle) : CacheM := ⟨c.lines.add b, fun j => if j = b then t else c.tok j⟩
def CacheM.absorb (c : CacheM) (block : Int) (b : Bundle) (pinned : Int) : CacheM × Line × Bool :=
  if b.count < 1 then (c, Line.none, false)
  else if c.lines.has block = true then ((c.use block).set block ((c.tok block).join b), Line.none, false)
  else if (c.lines.victim block pinned).2 = false then (c, ⟨block, b⟩, true)
  else if c.lines.has (c.lines.victim block pinned).1 = true then ((c.set (c.lines.victim block pinned).1 Bundle.none).lay block b, ⟨(c.lines.victim block pinned).1, c.tok (c.lines.victim block pinned).1⟩, true)
  else (c.lay block b, Line.none, false)
def CacheM.take (c : CacheM) (block count : Int) (owner data : Bool) : CacheM × Bundle :=
  (c.set block ((c.tok block).split count owner data).2, ((c.tok block).split count owner data).1)
def CacheM.does (c : CacheM) (op : Op) (tokens : Int) : CacheM × Int × Bool :=
  if (c.tok op.block).may op.write tokens = true then ((c.set op.block ((c.tok op.block).done op)).use op.block, ((c.tok op.block).done op).data, true) else (c, 0, false)
def CacheM.all (c : CacheM) : List Line := c.lines.list.map fun b => ⟨b, c.tok b⟩

theorem CacheM.new_ok (s w : Int) : (CacheM.new s w).Ok := ⟨Lines.new_ok s w, fun _ => Bundle.none_good, fun b => by simp [CacheM.new, Lines.new, Bundle.none]⟩
theorem CacheM.Ok.none {c : CacheM} (h : c.Ok) {b : Int} (hb : b ∉ c.lines.all) : c.tok b = Bundle.none := by
  have h1 := h.mem b
  have h2 := (h.good b).pos
  exact Bundle.eq_none (h.good b) (by
    by_cases h3 : 0 < (c.tok b).count
    · exact absurd (h1.2 h3) hb
    · omega)
theorem CacheM.set_ok {c : CacheM} (h : c.Ok) {b : Int} {t : Bundle} (g : t.Good) (hb : 0 < t.count → b ∈ c.lines.all) : (c.set b t).Ok := by
  refine ⟨?_, fun j => ?_, fun j => ?_⟩
  · simp only [CacheM.set]
    split
    · exact h.lines
    · exact Lines.rem_ok h.lines b
  · simp only [CacheM.set]
    split
    · exact g
    · exact h.good j
  · simp only [CacheM.set]
    by_cases ht : 0 < t.count
    · rw [if_pos ht]
      split
      · rename_i e; subst e
        exact ⟨fun _ => ht, fun _ => hb ht⟩
      · exact h.mem j
    · rw [if_neg ht]
      simp only [Lines.rem]
      rw [h.lines.nodup.erase_eq_filter]
      split
      · rename_i e; subst e
        simp [ht]
      · rename_i e
        rw [← h.mem j]
        simp [e]
theorem use_mem {l : Lines} (h : l.Ok) (b x : Int) : x ∈ (l.use b).all ↔ x ∈ l.all := by
  unfold Lines.use
  split
  · rename_i hb
    rw [Lines.has_iff] at hb
    simp only
    rw [h.nodup.erase_eq_filter]
    by_cases e : x = b
    · subst e; simp [hb]
    · simp [e]
  · exact Iff.rfl
theorem CacheM.use_ok {c : CacheM} (h : c.Ok) (b : Int) : (c.use b).Ok := ⟨Lines.use_ok h.lines b, h.good, fun j => (use_mem h.lines b j).trans (h.mem j)⟩
theorem CacheM.lay_ok {c : CacheM} (h : c.Ok) {b : Int} {t : Bundle} (g : t.Good) (ht : 0 < t.count) (hb : c.lines.can b = true) : (c.lay b t).Ok := by
  refine ⟨Lines.add_ok h.lines b, fun j => ?_, fun j => ?_⟩
  · simp only [CacheM.lay]
    split
    · exact g
    · exact h.good j
  · simp only [CacheM.lay]
    rw [Lines.add, if_pos hb]
    split
    · rename_i e; subst e
      simp [ht]
    · rename_i e
      rw [← h.mem j]
      simp [e]
theorem CacheM.none_pos : ¬ 0 < Bundle.none.count := by decide
theorem CacheM.set_none_lines (c : CacheM) (b : Int) : (c.set b Bundle.none).lines = c.lines.rem b := by simp only [CacheM.set]; rw [if_neg CacheM.none_pos]
/-- What Absorb's case may be. -/
theorem absorb_can {c : CacheM} (h : c.Ok) {block pinned : Int} (h1 : c.lines.has block = false) (h2 : (c.lines.victim block pinned).2 = true) :
    (c.lines.has (c.lines.victim block pinned).1 = true → (c.lines.rem (c.lines.victim block pinned).1).can block = true ∧ (c.lines.victim block pinned).1 ≠ pinned ∧ (c.lines.victim block pinned).1 ≠ block) ∧
    (c.lines.has (c.lines.victim block pinned).1 = false → c.lines.can block = true) := by
  obtain ⟨f1, f2, f3, f4⟩ := victim_facts h.lines block pinned
  have neg : ∀ x, x = -1 → c.lines.has x = false := fun x hx => by
    cases hh : c.lines.has x with
    | false => rfl
    | true => have := h.lines.pos x ((c.lines.has_iff x).1 hh); omega
  cases hc : c.lines.can block with
  | true =>
    have := neg _ (f3 h2 h1 hc)
    rw [this]
    exact ⟨(fun h => by cases h), fun _ => rfl⟩
  | false =>
    obtain ⟨g1, g2, g3⟩ := f4 h2 h1 hc
    rw [g2]
    exact ⟨fun _ => ⟨g3, g1, fun e => by rw [e] at g2; rw [g2] at h1; cases h1⟩, (fun h => by cases h)⟩
theorem CacheM.absorb_ok {c : CacheM} (h : c.Ok) (block : Int) {b : Bundle} (g : b.Good) (pinned : Int) : (c.absorb block b pinned).1.Ok := by
  unfold CacheM.absorb
  split
  · exact h
  split
  · rename_i h1 h2
    refine CacheM.set_ok (CacheM.use_ok h block) (Bundle.join_good (h.good block) g) fun _ => ?_
    exact (use_mem h.lines block block).2 ((c.lines.has_iff block).1 h2)
  split
  · exact h
  rename_i h1 h2 h3
  obtain ⟨a1, a2⟩ := absorb_can (pinned := pinned) h (by simpa using h2) (by simpa using h3)
  split
  · rename_i h4
    refine CacheM.lay_ok (CacheM.set_ok h Bundle.none_good fun hh => absurd hh CacheM.none_pos) g (by omega) ?_
    rw [CacheM.set_none_lines]
    exact (a1 h4).1
  · rename_i h4
    exact CacheM.lay_ok h g (by omega) (a2 (by simpa using h4))
theorem CacheM.take_ok {c : CacheM} (h : c.Ok) (block count : Int) (owner data : Bool) : (c.take block count owner data).1.Ok := by
  refine CacheM.set_ok h (Bundle.split_good (h.good block) count owner data).2 fun hp => ?_
  rw [h.mem block]
  have h1 := Bundle.split_count (h.good block) count owner data
  have h2 := (Bundle.split_good (h.good block) count owner data).1.pos
  omega
theorem CacheM.does_ok {c : CacheM} (h : c.Ok) (op : Op) (tokens : Int) : (c.does op tokens).1.Ok := by
  unfold CacheM.does
  split
  · rename_i hm
    obtain ⟨m1, m2, m3⟩ := Bundle.may_iff.1 hm
    exact CacheM.use_ok (CacheM.set_ok h (Bundle.done_good (h.good _) op m2) fun _ => (h.mem _).2 (by omega)) _
  · exact h
end Go.Proofs.Ytocnhmakgbdbfaa
