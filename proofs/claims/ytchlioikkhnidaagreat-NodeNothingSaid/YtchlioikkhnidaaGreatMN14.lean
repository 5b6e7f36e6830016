/-
  What the statements on the cache ask, plainly. No program is named.
-/
import Derived.Test.YtchlioikkhnidaaGreatMA
import Derived.DeepKeys3
set_option linter.unusedVariables false
set_option linter.unusedSimpArgs false
set_option linter.unusedVariables false
set_option linter.unusedSimpArgs false
namespace Go.Proofs.YtchlioikkhnidaaGreat

theorem absorb_pinned {c : CacheM} (h : c.Ok) (block : Int) {b : Bundle} (g : b.Good) (pinned : Int) (hp : 0 ≤ pinned) :
    ((c.absorb block b pinned).2.2 = true → (c.absorb block b pinned).2.1.block ≠ pinned) ∧
    ((c.absorb block b pinned).1.tok pinned).count = (c.tok pinned).count + (if block = pinned then b.count else 0) := by
  have gp := g.pos
  unfold CacheM.absorb
  by_cases q1 : b.count < 1
  · rw [if_pos q1]
    refine ⟨(fun h => by cases h), ?_⟩
    show (c.tok pinned).count = _
    split <;> omega
  rw [if_neg q1]
  by_cases q2 : c.lines.has block = true
  · rw [if_pos q2]
    refine ⟨(fun h => by cases h), ?_⟩
    show (if pinned = block then (c.tok block).join b else c.tok pinned).count = _
    by_cases e : block = pinned
    · subst e
      rw [if_pos rfl, if_pos rfl]; rfl
    · rw [if_neg (Ne.symm e), if_neg e]; omega
  rw [if_neg q2]
  have q2' : c.lines.has block = false := by simpa using q2
  obtain ⟨f1, f2, f3, f4⟩ := victim_facts h.lines block pinned
  have hno : block = pinned → (c.tok pinned).count = 0 := fun e => by
    have : c.tok pinned = Bundle.none := h.none fun hm => by rw [← e] at hm; exact q2 ((c.lines.has_iff _).2 hm)
    rw [this]; rfl
  by_cases q3 : (c.lines.victim block pinned).2 = false
  · rw [if_pos q3]
    obtain ⟨g1, g2, g3, g4⟩ := f1 q3
    have hne : block ≠ pinned := fun e => by
      subst e
      rcases g4 with g4 | g4
      · omega
      · rw [g4] at g2; cases g2
    refine ⟨fun _ => hne, ?_⟩
    show (c.tok pinned).count = _
    rw [if_neg hne]; omega
  rw [if_neg q3]
  obtain ⟨a1, a2⟩ := absorb_can (pinned := pinned) h q2' (by simpa using q3)
  by_cases q4 : c.lines.has (c.lines.victim block pinned).1 = true
  · rw [if_pos q4]
    obtain ⟨_, hv, _⟩ := a1 q4
    refine ⟨fun _ => hv, ?_⟩
    show (if pinned = block then b else if pinned = (c.lines.victim block pinned).1 then Bundle.none else c.tok pinned).count = _
    by_cases e : block = pinned
    · have := hno e
      rw [if_pos e.symm, if_pos e]; omega
    · rw [if_neg (Ne.symm e), if_neg (Ne.symm hv), if_neg e]; omega
  · rw [if_neg q4]
    refine ⟨(fun h => by cases h), ?_⟩
    show (if pinned = block then b else c.tok pinned).count = _
    by_cases e : block = pinned
    · have := hno e
      rw [if_pos e.symm, if_pos e]; omega
    · rw [if_neg (Ne.symm e), if_neg e]; omega
theorem absorb_bound {c : CacheM} (h : c.Ok) (block : Int) {b : Bundle} (g : b.Good) (pinned j : Int) : ((c.absorb block b pinned).1.tok j).count ≤ (c.tok j).count + b.count := by
  have gp := g.pos
  have hj := (h.good j).pos
  have hn : Bundle.none.count = 0 := rfl
  unfold CacheM.absorb
  split
  · show (c.tok j).count ≤ _; omega
  split
  · show (if j = block then (c.tok block).join b else c.tok j).count ≤ _
    split
    · rename_i e; subst e; exact Int.le_refl _
    · omega
  split
  · show (c.tok j).count ≤ _; omega
  split
  · show (if j = block then b else if j = (c.lines.victim block pinned).1 then Bundle.none else c.tok j).count ≤ _
    split
    · omega
    · split
      · omega
      · omega
  · show (if j = block then b else c.tok j).count ≤ _
    split <;> omega
end Go.Proofs.YtchlioikkhnidaaGreat

/-
  What CacheSums asks, plainly. No program is named.
-/
set_option linter.unusedVariables false
set_option linter.unusedSimpArgs false
namespace Go.Proofs.YtchlioikkhnidaaGreat

/-- What a number that is told of tokens becomes, of one block, when tokens come. -/
theorem absorb_measure {c : CacheM} (h : c.Ok) (blk : Int) {b : Bundle} (g : b.Good) (pin j : Int) (μ : Bundle → Int) (h0 : μ Bundle.none = 0)
    (hj : blk = j → μ ((c.tok blk).join b) = μ (c.tok blk) + μ b) (hz : b.count < 1 → μ b = 0) :
    μ ((c.absorb blk b pin).1.tok j) = μ (c.tok j) + (if blk = j then μ b else 0) - (if (c.absorb blk b pin).2.2 = true ∧ (c.absorb blk b pin).2.1.block = j then μ (c.absorb blk b pin).2.1.tokens else 0) := by
  unfold CacheM.absorb
  by_cases q1 : b.count < 1
  · rw [if_pos q1]
    have := hz q1
    show μ (c.tok j) = _
    simp only [Bool.false_eq_true, false_and, if_false]
    split <;> omega
  rw [if_neg q1]
  by_cases q2 : c.lines.has blk = true
  · rw [if_pos q2]
    show μ (if j = blk then (c.tok blk).join b else c.tok j) = _
    simp only [Bool.false_eq_true, false_and, if_false]
    by_cases e : blk = j
    · have := hj e
      subst e
      rw [if_pos rfl, if_pos rfl]; omega
    · rw [if_neg (Ne.symm e), if_neg e]; omega
  rw [if_neg q2]
  have hno : blk = j → c.tok j = Bundle.none := fun e => h.none fun hm => by rw [← e] at hm; exact q2 ((c.lines.has_iff _).2 hm)
  by_cases q3 : (c.lines.victim blk pin).2 = false
  · rw [if_pos q3]
    show μ (c.tok j) = μ (c.tok j) + (if blk = j then μ b else 0) - (if true = true ∧ blk = j then μ b else 0)
    by_cases e : blk = j
    · rw [if_pos e, if_pos ⟨rfl, e⟩]; omega
    · rw [if_neg e, if_neg (fun h => e h.2)]; omega
  rw [if_neg q3]
  obtain ⟨a1, a2⟩ := absorb_can (pinned := pin) h (by simpa using q2) (by simpa using q3)
  by_cases q4 : c.lines.has (c.lines.victim blk pin).1 = true
  · rw [if_pos q4]
    obtain ⟨_, _, hv⟩ := a1 q4
    show μ (if j = blk then b else if j = (c.lines.victim blk pin).1 then Bundle.none else c.tok j) = _
    by_cases e : blk = j
    · have hn := hno e
      rw [if_pos e.symm, if_pos e, if_neg (fun h => hv (h.2.trans e.symm)), hn, h0]; omega
    · rw [if_neg (Ne.symm e), if_neg e]
      by_cases e2 : (c.lines.victim blk pin).1 = j
      · rw [if_pos e2.symm, if_pos ⟨rfl, e2⟩, h0]
        show _ = _ + _ - μ (c.tok (c.lines.victim blk pin).1)
        rw [e2]; omega
      · rw [if_neg (Ne.symm e2), if_neg (fun h => e2 h.2)]; omega
  · rw [if_neg q4]
    show μ (if j = blk then b else c.tok j) = _
    simp only [Bool.false_eq_true, false_and, if_false]
    by_cases e : blk = j
    · have hn := hno e
      rw [if_pos e.symm, if_pos e, hn, h0]; omega
    · rw [if_neg (Ne.symm e), if_neg e]; omega
def ownerN (b : Bundle) : Int := if b.owner = true then 1 else 0
theorem split_owner {h : Bundle} (g : h.Good) (count : Int) (owner data : Bool) : ownerN (h.split count owner data).1 + ownerN (h.split count owner data).2 = ownerN h := by
  obtain ⟨l1, l2, l3, l4⟩ := h.given_le g count owner
  unfold Bundle.split
  simp only
  split
  · simp [ownerN, Bundle.none]
  · rename_i hn
    split
    · rename_i hh
      cases ho : h.owner with
      | true =>
        have := l3 hh ho (by omega)
        simp [ownerN, Bundle.valued, Bundle.none, this, ho]
      | false =>
        have : (h.given count owner).2 = false := by
          cases hg : (h.given count owner).2 with
          | false => rfl
          | true => have := (l4 hg).1; rw [ho] at this; cases this
        simp [ownerN, Bundle.valued, Bundle.none, this, ho]
    · cases ho : h.owner with
      | true => cases hg : (h.given count owner).2 <;> simp [ownerN, Bundle.valued, hg, ho]
      | false =>
        have : (h.given count owner).2 = false := by
          cases hg : (h.given count owner).2 with
          | false => rfl
          | true => have := (l4 hg).1; rw [ho] at this; cases this
        simp [ownerN, Bundle.valued, this, ho]
end Go.Proofs.YtchlioikkhnidaaGreat

/-
  What CacheRoom asks, plainly. No program is named.
-/
set_option linter.unusedVariables false
set_option linter.unusedSimpArgs false
namespace Go.Proofs.YtchlioikkhnidaaGreat

theorem rem_sizes (s : Lines) (b : Int) : (s.rem b).sets = s.sets ∧ (s.rem b).ways = s.ways := ⟨rfl, rfl⟩
theorem use_sizes (s : Lines) (b : Int) : (s.use b).sets = s.sets ∧ (s.use b).ways = s.ways := by unfold Lines.use; split <;> exact ⟨rfl, rfl⟩
theorem add_sizes (s : Lines) (b : Int) : (s.add b).sets = s.sets ∧ (s.add b).ways = s.ways := by unfold Lines.add; split <;> exact ⟨rfl, rfl⟩
theorem set_sizes (c : CacheM) (b : Int) (t : Bundle) : (c.set b t).lines.sets = c.lines.sets ∧ (c.set b t).lines.ways = c.lines.ways := by
  unfold CacheM.set; simp only; split <;> exact ⟨rfl, rfl⟩
theorem absorb_sizes (c : CacheM) (b : Int) (t : Bundle) (pin : Int) : (c.absorb b t pin).1.lines.sets = c.lines.sets ∧ (c.absorb b t pin).1.lines.ways = c.lines.ways := by
  unfold CacheM.absorb
  split
  · exact ⟨rfl, rfl⟩
  split
  · have h1 := set_sizes (c.use b) b ((c.tok b).join t)
    have h2 := use_sizes c.lines b
    exact ⟨h1.1.trans h2.1, h1.2.trans h2.2⟩
  split
  · exact ⟨rfl, rfl⟩
  split
  · have h1 := set_sizes c (c.lines.victim b pin).1 Bundle.none
    have h2 := add_sizes (c.set (c.lines.victim b pin).1 Bundle.none).lines b
    exact ⟨h2.1.trans h1.1, h2.2.trans h1.2⟩
  · exact add_sizes c.lines b
theorem take_sizes (c : CacheM) (b count : Int) (o d : Bool) : (c.take b count o d).1.lines.sets = c.lines.sets ∧ (c.take b count o d).1.lines.ways = c.lines.ways := set_sizes c b _
theorem does_sizes (c : CacheM) (op : Op) (t : Int) : (c.does op t).1.lines.sets = c.lines.sets ∧ (c.does op t).1.lines.ways = c.lines.ways := by
  unfold CacheM.does
  split
  · have h1 := set_sizes c op.block ((c.tok op.block).done op)
    have h2 := use_sizes (c.set op.block ((c.tok op.block).done op)).lines op.block
    exact ⟨h2.1.trans h1.1, h2.2.trans h1.2⟩
  · exact ⟨rfl, rfl⟩
theorem take_bound {c : CacheM} (ok : c.Ok) (b count : Int) (o d : Bool) (j : Int) : ((c.take b count o d).1.tok j).count ≤ (c.tok j).count := by
  show (if j = b then ((c.tok b).split count o d).2 else c.tok j).count ≤ _
  have h1 := Bundle.split_count (ok.good b) count o d
  have h2 := (Bundle.split_good (ok.good b) count o d).1.pos
  split
  · rename_i e; subst e; omega
  · omega
theorem does_count (c : CacheM) (op : Op) (t j : Int) : ((c.does op t).1.tok j).count = (c.tok j).count := by
  unfold CacheM.does
  split
  · show (if j = op.block then (c.tok op.block).done op else c.tok j).count = _
    split
    · rename_i e; subst e; exact Bundle.done_count _ _
    · rfl
  · rfl
theorem list_strict {s : Lines} (h : s.Ok) : List.Pairwise (fun a b => a < b) s.list := by
  have h1 := sort_sorted s.all
  have h2 : s.list.Nodup := (List.mergeSort_perm s.all (fun x y => decide (x ≤ y))).nodup_iff.2 h.nodup
  exact h1.imp₂ (fun a b h1 h2 => by omega) h2
theorem list_mem (s : Lines) (x : Int) : x ∈ s.list ↔ x ∈ s.all := (List.mergeSort_perm s.all (fun x y => decide (x ≤ y))).mem_iff
/-- The k-th line of a cache, and those ahead. -/
theorem room_at {c : CacheM} (ok : c.Ok) (k : Nat) (hk : k < c.lines.list.length) :
    (∀ j, j < k → c.lines.list.getD j 0 < c.lines.list.getD k 0) ∧ 0 ≤ c.lines.list.getD k 0 ∧ 1 ≤ (c.tok (c.lines.list.getD k 0)).count ∧ (∀ q, (cntOf c.lines.sets (c.lines.list.take (k + 1)) q : Int) ≤ c.lines.ways) := by
  have e : c.lines.list.getD k 0 = c.lines.list[k] := by simp [List.getD, hk]
  have hm : c.lines.list[k] ∈ c.lines.all := (list_mem _ _).1 (List.getElem_mem hk)
  refine ⟨fun j hj => ?_, by rw [e]; exact ok.lines.pos _ hm, by rw [e]; have := (ok.mem _).1 hm; omega, fun q => ?_⟩
  · have h := List.pairwise_iff_getElem.1 (list_strict ok.lines) j k (by omega) hk hj
    simpa [List.getD, hk, show j < c.lines.list.length by omega] using h
  · have h1 : cntOf c.lines.sets (c.lines.list.take (k + 1)) q ≤ cntOf c.lines.sets c.lines.list q := by
      unfold cntOf
      exact ((List.take_sublist _ _).filter _).length_le
    rw [cntOf_list] at h1
    have := ok.lines.room q
    omega
end Go.Proofs.YtchlioikkhnidaaGreat

/-
  A node, plainly: what of its tokens is there and what goes, whatever happens to it; and what it sends. No program is named.
-/
set_option linter.unusedVariables false
set_option linter.unusedSimpArgs false
namespace Go.Proofs.YtchlioikkhnidaaGreat
open Go.RowKit
/-- What happens to it. -/
def Node.step (n : Node) (a : Act15) : Node × List Letter × List Done :=
  if a.kind = 1 then ((n.issue a.op a.draws).1, (n.issue a.op a.draws).2.1, (n.issue a.op a.draws).2.2.1)
  else if a.kind = 2 then n.take a.letter a.draws
  else if a.kind = 3 then ((n.tick a.draws).1, (n.tick a.draws).2, [])
  else (n, [], [])
/-- A number that is told of tokens. -/
structure Mu (μ : Bundle → Int) : Prop where
  none : μ Bundle.none = 0
  split : ∀ {h : Bundle}, h.Good → ∀ c o d, μ (h.split c o d).1 + μ (h.split c o d).2 = μ h
  done : ∀ (h : Bundle) op, μ (h.done op) = μ h
theorem Mu.count : Mu Bundle.count := ⟨rfl, fun g c o d => Bundle.split_count g c o d, fun h op => Bundle.done_count h op⟩
theorem Mu.owner : Mu ownerN := ⟨rfl, fun g c o d => split_owner g c o d, fun h op => by unfold Bundle.done ownerN; split <;> rfl⟩
theorem Mu.low {μ : Bundle → Int} (m : Mu μ) {b : Bundle} (g : b.Good) (h : b.count < 1) : μ b = 0 := by
  have := g.pos
  rw [Bundle.eq_none g (by omega), m.none]
def sentM (μ : Bundle → Int) (j : Int) : List Letter → Int
  | [] => 0
  | x :: L => (if x.block = j then μ x.tokens else 0) + sentM μ j L
theorem sentM_append (μ : Bundle → Int) (j : Int) : ∀ (A B : List Letter), sentM μ j (A ++ B) = sentM μ j A + sentM μ j B
  | [], B => by simp [sentM]
  | x :: A, B => by simp only [List.cons_append, sentM, sentM_append μ j A B]; omega
theorem sentM_none {μ : Bundle → Int} (m : Mu μ) (j : Int) : ∀ (L : List Letter), (∀ x ∈ L, x.tokens = Bundle.none) → sentM μ j L = 0
  | [], _ => rfl
  | x :: L, h => by
    simp only [sentM, h x (by simp), m.none, sentM_none m j L fun y hy => h y (by simp [hy])]
    split <;> rfl
theorem sentM_tokL {μ : Bundle → Int} (m : Mu μ) (j src dst block : Int) {b : Bundle} (g : b.Good) : sentM μ j (tokL src dst block b) = if block = j then μ b else 0 := by
  unfold tokL
  split
  · simp only [sentM, Letter.tok]; omega
  · rename_i h
    rw [m.low g (by omega)]
    simp [sentM]
theorem does_mu {μ : Bundle → Int} (m : Mu μ) (c : CacheM) (op : Op) (t j : Int) : μ ((c.does op t).1.tok j) = μ (c.tok j) := by
  unfold CacheM.does
  split
  · show μ (if j = op.block then (c.tok op.block).done op else c.tok j) = _
    split
    · rename_i e; subst e; exact m.done _ _
    · rfl
  · rfl
theorem take_mu {μ : Bundle → Int} (m : Mu μ) {c : CacheM} (ok : c.Ok) (b k : Int) (o d : Bool) (j : Int) : μ ((c.take b k o d).1.tok j) + (if b = j then μ (c.take b k o d).2 else 0) = μ (c.tok j) := by
  show μ (if j = b then ((c.tok b).split k o d).2 else c.tok j) + (if b = j then μ ((c.tok b).split k o d).1 else 0) = _
  have := m.split (ok.good b) k o d
  by_cases e : b = j
  · subst e; rw [if_pos rfl, if_pos rfl]; omega
  · rw [if_neg (Ne.symm e), if_neg e]; omega
/-! ### What stays as it is -/
theorem endL_same (n : Node) (b : Int) : (n.endL b).1.c = n.c ∧ (n.endL b).1.id = n.id ∧ (n.endL b).1.cache = n.cache ∧ (n.endL b).1.table = n.table ∧ (n.endL b).1.cpu = n.cpu := by
  unfold Node.endL; split <;> exact ⟨rfl, rfl, rfl, rfl, rfl⟩
theorem endL_sent (n : Node) (b : Int) : ∀ x ∈ (n.endL b).2, x = n.home 5 b (n.table.act b).seq ∧ n.table.on b = true ∧ n.told b < (n.table.act b).seq := by
  unfold Node.endL
  split
  · simp
  · rename_i h
    intro x hx
    simp only [List.mem_singleton] at hx
    refine ⟨hx, ?_, by omega⟩
    cases ho : n.table.on b with
    | true => rfl
    | false => exact absurd (.inl (by simp [Node.own, ho])) h
structure Settled (n n' : Node) (L : List Letter) : Prop where
  c : n'.c = n.c
  id : n'.id = n.id
  table : n'.table = n.table
  ok : n.cache.Ok → n'.cache.Ok
  tok : ∀ {μ : Bundle → Int}, Mu μ → ∀ j, μ (n'.cache.tok j) = μ (n.cache.tok j)
  busy : n'.cpu.busy = true → n.cpu.busy = true ∧ n'.cpu.op = n.cpu.op
  number : n'.cpu.number = n.cpu.number
  sent : ∀ x ∈ L, x = n.home 5 n.cpu.op.block (n.table.act n.cpu.op.block).seq ∧ n.table.on n.cpu.op.block = true ∧ n.cpu.busy = true
theorem settle_is (n : Node) : Settled n n.settle.1 n.settle.2.1 := by
  unfold Node.settle
  split
  · exact ⟨rfl, rfl, rfl, id, fun _ _ => rfl, fun h => ⟨h, rfl⟩, rfl, by simp⟩
  split
  · exact ⟨rfl, rfl, rfl, id, fun _ _ => rfl, fun h => ⟨h, rfl⟩, rfl, by simp⟩
  · rename_i h1 h2
    have hb : n.cpu.busy = true := by simpa using h1
    simp only
    obtain ⟨e1, e2, e3, e4, e5⟩ := endL_same { n with cache := (n.cache.does n.cpu.op n.c.tokens).1, cpu := n.cpu.finish.1 } n.cpu.op.block
    refine ⟨e1, e2, e4, fun ok => by rw [e3]; exact CacheM.does_ok ok _ _, fun m j => by rw [e3]; exact does_mu m _ _ _ _, fun h => ?_, ?_, fun x hx => ?_⟩
    · rw [e5] at h; simp [Proc.finish, hb] at h
    · rw [e5]; simp [Proc.finish, hb]
    · obtain ⟨g1, g2, g3⟩ := endL_sent _ _ x hx
      exact ⟨g1, g2, hb⟩
theorem Settled.none {n n' : Node} {L : List Letter} (h : Settled n n' L) : ∀ x ∈ L, x.tokens = Bundle.none := fun x hx => by rw [(h.sent x hx).1]; rfl
theorem Table.activate_act (t : Table) (a : Active) (b : Int) : (t.activate a).1.act b = t.act b ∨ (b = a.block ∧ (t.activate a).1.act b = a ∧ 1 ≤ a.seq) := by
  unfold Table.activate
  split
  · exact .inl rfl
  · show (if b = a.block then a else t.act b) = _ ∨ _
    split
    · exact .inr ⟨by assumption, by simp [*], by omega⟩
    · exact .inl rfl
/-! ### What comes, and goes -/
def Node.comes (n : Node) (a : Act15) : Option (Int × Bundle) :=
  if a.kind = 2 ∧ a.letter.legal n.c = true ∧ a.letter.dst = n.id ∧ a.letter.kind = 1 then some (a.letter.block, a.letter.tokens) else none
def come (μ : Bundle → Int) (j : Int) : Option (Int × Bundle) → Int
  | none => 0
  | some (b, t) => if b = j then μ t else 0
/-- What a step does, for all who ask. -/
structure Goes (n n' : Node) (L : List Letter) (o : Option (Int × Bundle)) : Prop where
  c : n'.c = n.c
  id : n'.id = n.id
  ok : n'.cache.Ok
  sum : ∀ {μ : Bundle → Int}, Mu μ → (∀ b t, o = some (b, t) → μ ((n.cache.tok b).join t) = μ (n.cache.tok b) + μ t) → ∀ j, μ (n'.cache.tok j) + sentM μ j L = μ (n.cache.tok j) + come μ j o
  good : ∀ x ∈ L, x.tokens.Good
theorem Settled.good {n n' : Node} {L : List Letter} (h : Settled n n' L) : ∀ x ∈ L, x.tokens.Good := fun x hx => by rw [h.none x hx]; exact Bundle.none_good
theorem ask_none (n : Node) (op : Op) (d : Draws) : ∀ x ∈ n.ask op d, x.tokens = Bundle.none := fun x hx => by
  unfold Node.ask at hx
  obtain ⟨y, _, rfl⟩ := List.mem_map.1 hx
  rfl
theorem none_good' {L : List Letter} (h : ∀ x ∈ L, x.tokens = Bundle.none) : ∀ x ∈ L, x.tokens.Good := fun x hx => by rw [h x hx]; exact Bundle.none_good
theorem issue_goes (n : Node) (ok : n.cache.Ok) (op : Op) (d : Draws) : Goes n (n.issue op d).1 (n.issue op d).2.1 none := by
  unfold Node.issue
  split
  · exact ⟨rfl, rfl, ok, fun m _ j => by simp [sentM, come], by simp⟩
  · have h := settle_is { n with cpu := (n.cpu.issue op).1 }
    refine ⟨h.c, h.id, h.ok ok, fun m _ j => ?_, ?_⟩
    · have h1 := h.tok m j
      have h2 := sentM_none m j _ h.none
      simp only
      rw [h1]
      split
      · rw [sentM_append, h2, sentM_none m j _ (ask_none _ _ _)]; simp [come]
      · rw [h2]; rfl
    · simp only
      split
      · intro x hx
        rcases List.mem_append.1 hx with hx | hx
        · exact h.good x hx
        · exact none_good' (ask_none _ _ _) x hx
      · exact h.good
theorem tick_goes (n : Node) (ok : n.cache.Ok) (d : Draws) : Goes n (n.tick d).1 (n.tick d).2 none := by
  unfold Node.tick
  simp only
  split
  · exact ⟨rfl, rfl, ok, fun m _ j => by rw [sentM_none m j _ (ask_none _ _ _)]; rfl, none_good' (ask_none _ _ _)⟩
  split
  · exact ⟨rfl, rfl, ok, fun m _ j => by rw [sentM_none m j _ (by simp [Node.home, Letter.plain])]; rfl, none_good' (by simp [Node.home, Letter.plain])⟩
  · exact ⟨rfl, rfl, ok, fun m _ j => by simp [sentM, come], by simp⟩
theorem absorb_out (c : CacheM) (ok : c.Ok) (block : Int) {b : Bundle} (g : b.Good) (pin : Int) : (c.absorb block b pin).2.1.tokens.Good := by
  unfold CacheM.absorb
  split
  · exact Bundle.none_good
  split
  · exact Bundle.none_good
  split
  · exact g
  split
  · exact ok.good _
  · exact Bundle.none_good
theorem tokens_goes (n : Node) (ok : n.cache.Ok) (l : Letter) (g : l.tokens.Good) : Goes n (n.tokens l).1 (n.tokens l).2.1 (some (l.block, l.tokens)) := by
  unfold Node.tokens
  split
  · refine ⟨rfl, rfl, ok, fun m _ j => ?_, ?_⟩
    · simp only [sentM, Letter.tok, come]; omega
    · simp [Letter.tok, g]
  · have h := settle_is { n with cache := (n.cache.absorb l.block l.tokens n.cpu.pinned).1 }
    refine ⟨h.c, h.id, h.ok (CacheM.absorb_ok ok _ g _), fun {μ} m hj j => ?_, ?_⟩
    · have h1 := h.tok m j
      have h2 := sentM_none m j _ h.none
      have h3 := absorb_measure ok l.block g n.cpu.pinned j μ m.none (fun e => hj _ _ rfl) (m.low g)
      simp only
      rw [h1, sentM_append, h2, h3]
      by_cases e : (n.cache.absorb l.block l.tokens n.cpu.pinned).2.2 = true
      · rw [if_pos e]
        simp only [e, true_and, sentM, Letter.tok, come]
        omega
      · rw [if_neg e]
        simp only [e, false_and, if_false, sentM, come, Bool.false_eq_true]
        omega
    · intro x hx
      rcases List.mem_append.1 hx with hx | hx
      · split at hx
        · simp only [List.mem_singleton] at hx
          subst hx
          exact absorb_out _ ok _ g _
        · simp at hx
      · exact h.good x hx
theorem tokL_good {src dst block : Int} {b : Bundle} (g : b.Good) : ∀ x ∈ tokL src dst block b, x.tokens.Good := by
  unfold tokL
  split
  · simp [Letter.tok, g]
  · simp
theorem asks_goes (n : Node) (ok : n.cache.Ok) (l : Letter) (d : Draws) : Goes n (n.asks l d).1 (n.asks l d).2 none := by
  unfold Node.asks
  split
  · exact ⟨rfl, rfl, ok, fun m _ j => by simp [sentM, come], by simp⟩
  · refine ⟨rfl, rfl, CacheM.take_ok ok _ _ _ _, fun m _ j => ?_, tokL_good (Bundle.split_good (ok.good _) _ _ _).1⟩
    have := take_mu m ok l.block (reply n.c.policy (n.cache.tok l.block) l.write d).1 (reply n.c.policy (n.cache.tok l.block) l.write d).2.1 (reply n.c.policy (n.cache.tok l.block) l.write d).2.2 j
    have h2 := sentM_tokL m j n.id l.src l.block (b := (n.cache.take l.block (reply n.c.policy (n.cache.tok l.block) l.write d).1 (reply n.c.policy (n.cache.tok l.block) l.write d).2.1 (reply n.c.policy (n.cache.tok l.block) l.write d).2.2).2) (Bundle.split_good (ok.good _) _ _ _).1
    simp only
    rw [h2, come]
    omega
theorem activate_goes (n : Node) (ok : n.cache.Ok) (l : Letter) : Goes n (n.activate l).1 (n.activate l).2 none := by
  unfold Node.activate
  split
  · exact ⟨rfl, rfl, ok, fun m _ j => by simp [sentM, come], by simp⟩
  simp only
  split
  · split
    · exact ⟨rfl, rfl, ok, fun m _ j => by simp [sentM, come], by simp⟩
    · obtain ⟨e1, e2, e3, e4, e5⟩ := endL_same { n with table := (n.table.activate ⟨l.block, l.who, l.seq⟩).1 } l.block
      have hn : ∀ x ∈ (Node.endL { n with table := (n.table.activate ⟨l.block, l.who, l.seq⟩).1 } l.block).2, x.tokens = Bundle.none := fun x hx => by rw [(endL_sent _ _ x hx).1]; rfl
      exact ⟨e1, e2, by rw [e3]; exact ok, fun m _ j => by rw [e3, sentM_none m j _ hn]; rfl, none_good' hn⟩
  · refine ⟨rfl, rfl, CacheM.take_ok ok _ _ _ _, fun m _ j => ?_, tokL_good (Bundle.split_good (ok.good _) _ _ _).1⟩
    have := take_mu m ok l.block (n.cache.tok l.block).count true true j
    have h2 := sentM_tokL m j n.id l.who l.block (b := (n.cache.take l.block (n.cache.tok l.block).count true true).2) (Bundle.split_good (ok.good _) _ _ _).1
    simp only
    rw [h2, come]
    omega
theorem take_goes (n : Node) (ok : n.cache.Ok) (l : Letter) (d : Draws) : Goes n (n.take l d).1 (n.take l d).2.1 (if l.legal n.c = true ∧ l.dst = n.id ∧ l.kind = 1 then some (l.block, l.tokens) else none) := by
  unfold Node.take
  split
  · rename_i h
    rw [if_neg (fun h1 => h.elim (fun e => by rw [h1.1] at e; cases e) (fun e => e h1.2.1))]
    exact ⟨rfl, rfl, ok, fun m _ j => by simp [sentM, come], by simp⟩
  rename_i h
  have hl : l.legal n.c = true := by
    cases e : l.legal n.c with
    | true => rfl
    | false => exact absurd (.inl e) h
  have hd : l.dst = n.id := Decidable.byContradiction fun e => h (.inr e)
  by_cases hk : l.kind = 1
  · rw [if_pos hk, if_pos ⟨hl, hd, hk⟩]
    exact tokens_goes n ok l ((Letter.legal_iff.1 hl).good hk).1
  rw [if_neg hk, if_neg (show ¬ (l.legal n.c = true ∧ l.dst = n.id ∧ l.kind = 1) from fun h1 => hk h1.2.2)]
  split
  · exact asks_goes n ok l d
  split
  · exact activate_goes n ok l
  split
  · exact ⟨rfl, rfl, ok, fun m _ j => by simp only [Node.deactivate]; rw [sentM_none m j _ (by simp [Node.home, Letter.plain])]; rfl, none_good' (by simp [Node.deactivate, Node.home, Letter.plain])⟩
  · exact ⟨rfl, rfl, ok, fun m _ j => by simp [sentM, come], by simp⟩
theorem step_goes (n : Node) (ok : n.cache.Ok) (a : Act15) : Goes n (n.step a).1 (n.step a).2.1 (n.comes a) := by
  unfold Node.step Node.comes
  split
  · rw [if_neg (fun h => by omega)]
    exact issue_goes n ok a.op a.draws
  split
  · rename_i h2
    have h := take_goes n ok a.letter a.draws
    simp only [h2, true_and]
    exact h
  split
  · rw [if_neg (fun h => by omega)]
    exact tick_goes n ok a.draws
  · rw [if_neg (fun h => by omega)]
    exact ⟨rfl, rfl, ok, fun m _ j => by simp [sentM, come], by simp⟩
theorem sentM_pos (j : Int) : ∀ (L : List Letter), (∀ x ∈ L, x.tokens.Good) → 0 ≤ sentM Bundle.count j L
  | [], _ => Int.le_refl _
  | x :: L, h => by
    have h1 := (h x (by simp)).pos
    have h2 := sentM_pos j L fun y hy => h y (by simp [hy])
    simp only [sentM]
    split <;> omega
theorem join_count (h b : Bundle) : (h.join b).count = h.count + b.count := rfl
theorem Goes.count {n n' : Node} {L : List Letter} {o : Option (Int × Bundle)} (h : Goes n n' L o) (j : Int) : (n'.cache.tok j).count + sentM Bundle.count j L = (n.cache.tok j).count + come Bundle.count j o :=
  h.sum Mu.count (fun b t _ => join_count _ _) j
theorem Goes.le {n n' : Node} {L : List Letter} {o : Option (Int × Bundle)} (h : Goes n n' L o) (j : Int) : (n'.cache.tok j).count ≤ (n.cache.tok j).count + come Bundle.count j o := by
  have h1 := h.count j
  have h2 := sentM_pos j L h.good
  omega
theorem come_le (n : Node) (hc : n.c.Fine) (a : Act15) (j : Int) : 0 ≤ come Bundle.count j (n.comes a) ∧ come Bundle.count j (n.comes a) ≤ 65536 := by
  unfold Node.comes
  split
  · rename_i h
    obtain ⟨g1, g2, g3⟩ := (Letter.legal_iff.1 h.2.1).good h.2.2.2
    have := g1.pos
    have := hc.tokens
    simp only [come]
    split <;> omega
  · simp [come]
/-! ### What calls ask of it -/
structure Node.Runs (n : Node) (k : Nat) : Prop where
  ok : n.cache.Ok
  number : n.cpu.number ≤ k
  tok : ∀ b, (n.cache.tok b).count ≤ 65536 * (k : Int)
theorem Node.Runs.new (c : Config) (id : Int) : (Node.new c id).Runs 0 := ⟨CacheM.new_ok _ _, by simp [Node.new, Proc.new], fun b => by simp [Node.new, CacheM.new, Bundle.none]⟩
theorem finish_number (p : Proc) : p.finish.1.number = p.number := by unfold Proc.finish; split <;> rfl
theorem tick_number (p : Proc) : p.tick.1.number = p.number := by unfold Proc.tick; split <;> rfl
theorem issue_number (p : Proc) (op : Op) : (p.issue op).1.number ≤ p.number + 1 := by unfold Proc.issue; split <;> simp <;> omega
theorem take_number (n : Node) (l : Letter) (d : Draws) : (n.take l d).1.cpu.number = n.cpu.number := by
  unfold Node.take
  split
  · rfl
  split
  · unfold Node.tokens
    split
    · rfl
    · exact (settle_is { n with cache := (n.cache.absorb l.block l.tokens n.cpu.pinned).1 }).number
  split
  · unfold Node.asks
    split <;> rfl
  split
  · unfold Node.activate
    split
    · rfl
    simp only
    split
    · split
      · rfl
      · have h := (endL_same { n with table := (n.table.activate ⟨l.block, l.who, l.seq⟩).1 } l.block).2.2.2.2
        rw [h]
    · rfl
  split <;> rfl
theorem issue_number' (n : Node) (op : Op) (d : Draws) : (n.issue op d).1.cpu.number ≤ n.cpu.number + 1 := by
  unfold Node.issue
  split
  · simp; omega
  · have h := (settle_is { n with cpu := (n.cpu.issue op).1 }).number
    have := issue_number n.cpu op
    simp only at h ⊢
    omega
theorem tick_number' (n : Node) (d : Draws) : (n.tick d).1.cpu.number = n.cpu.number := by
  unfold Node.tick
  simp only
  split
  · exact tick_number _
  split
  · exact tick_number _
  · exact tick_number _
theorem step_number (n : Node) (a : Act15) : (n.step a).1.cpu.number ≤ n.cpu.number + 1 := by
  unfold Node.step
  split
  · exact issue_number' n a.op a.draws
  split
  · have := take_number n a.letter a.draws; omega
  split
  · have := tick_number' n a.draws; simp only; omega
  · simp; omega
theorem Node.Runs.step {n : Node} {k : Nat} (h : n.Runs k) (hc : n.c.Fine) (a : Act15) : (n.step a).1.Runs (k + 1) := by
  have g := step_goes n h.ok a
  refine ⟨g.ok, ?_, fun b => ?_⟩
  · have := step_number n a; have := h.number; omega
  · have h1 := g.le b
    have h2 := come_le n hc a b
    have h3 := h.tok b
    omega
theorem Node.Runs.bound {n : Node} {k : Nat} (h : n.Runs k) (hk : k ≤ 1000) : n.cpu.number < 1000000000 ∧ ∀ b, (n.cache.tok b).count ≤ 900000000000 := by
  refine ⟨by have := h.number; omega, fun b => by have := h.tok b; omega⟩
end Go.Proofs.YtchlioikkhnidaaGreat

/-
  A node, plainly: all that it sends may be on its way; the ends that it tells, each once. No program is named.
-/
set_option linter.unusedVariables false
set_option linter.unusedSimpArgs false
namespace Go.Proofs.YtchlioikkhnidaaGreat
open Go.RowKit
theorem isNode_iff {c : Config} {n : Int} : isNode c n = true ↔ 0 ≤ n ∧ n < c.nodes := by simp [isNode]
theorem isAny_iff {c : Config} {n : Int} (h : 0 ≤ c.nodes) : isAny c n = true ↔ 0 ≤ n ∧ n ≤ c.nodes := by
  simp only [isAny, Bool.or_eq_true, decide_eq_true_eq, isNode_iff]
  omega
theorem home_legal {c : Config} {k src b s : Int} (hs : 0 ≤ src ∧ src < c.nodes) (hb : 0 ≤ b ∧ b < c.blocks) (hk : (k = 3 ∧ s = 0) ∨ ((k = 5 ∨ k = 7) ∧ 1 ≤ s)) : (Letter.plain k src c.nodes b s 0).Legal c := by
  have h1 : isNode c src = true := isNode_iff.2 hs
  refine ⟨by simp only [Letter.plain]; omega, hb, ?_, ?_, ?_, by simp [Letter.plain], fun _ => rfl, fun e => ?_⟩
  · unfold Letter.ends
    simp only [Letter.plain]
    rw [if_neg (by omega), if_neg (by omega), if_neg (by omega)]
    simp only [Bool.and_eq_true, decide_eq_true_eq]
    refine ⟨?_, h1, trivial⟩
    exact decide_eq_true (show src ≠ c.nodes by omega)
  · show if 4 ≤ k then 1 ≤ s else s = 0
    by_cases h4 : 4 ≤ k
    · rw [if_pos h4]; omega
    · rw [if_neg h4]; omega
  · show if k = 4 then isNode c 0 = true else (0 : Int) = 0
    rw [if_neg (by omega)]
  · simp only [Letter.plain] at e; omega
theorem tok_legal {c : Config} {src dst b : Int} {t : Bundle} (hs : 0 ≤ src ∧ src < c.nodes) (hd : 0 ≤ dst ∧ dst ≤ c.nodes) (hne : src ≠ dst) (hb : 0 ≤ b ∧ b < c.blocks) (g : t.Good) (hle : t.count ≤ c.tokens) (h0 : t.count ≠ 0) : (Letter.tok src dst b t).Legal c := by
  refine ⟨by simp [Letter.tok], hb, ?_, by simp [Letter.tok], by simp [Letter.tok], by simp [Letter.tok], fun e => absurd rfl e, fun _ => ⟨g, hle, h0⟩⟩
  unfold Letter.ends
  simp only [Letter.tok, if_true]
  rw [(isAny_iff (by omega)).2 (show 0 ≤ src ∧ src ≤ c.nodes by omega), (isAny_iff (by omega)).2 hd]
  simp [hne]
theorem targets_mem {c : Config} {self : Int} {d : Draws} {x : Int} (h : x ∈ targets c self d) : (0 ≤ x ∧ x ≤ c.nodes) ∧ x ≠ self := by
  unfold targets at h
  simp only [List.mem_filter, List.mem_map, List.mem_range, Bool.and_eq_true, decide_eq_true_eq] at h
  obtain ⟨⟨k, hk, rfl⟩, _, h2⟩ := h
  exact ⟨⟨by simp, by simp only [Int.ofNat_eq_natCast]; omega⟩, h2⟩
theorem ask_legal {n : Node} {op : Op} {d : Draws} (hi : 0 ≤ n.id ∧ n.id < n.c.nodes) (hb : 0 ≤ op.block ∧ op.block < n.c.blocks) : ∀ x ∈ n.ask op d, x.Legal n.c ∧ x.src = n.id := fun x hx => by
  unfold Node.ask at hx
  obtain ⟨y, hy, rfl⟩ := List.mem_map.1 hx
  obtain ⟨h1, h2⟩ := targets_mem hy
  refine ⟨⟨by simp, hb, ?_, by simp, by simp, by simp, by simp, by simp⟩, rfl⟩
  unfold Letter.ends
  simp only [(isAny_iff (c := n.c) (by omega)).2 h1, isNode_iff.2 hi]
  simp
  omega
/-- A node of whose letters all may be. -/
structure Node.Held (n : Node) : Prop where
  c : n.c.Fine
  id : 0 ≤ n.id ∧ n.id < n.c.nodes
  ok : n.cache.Ok
  blocks : ∀ b, 0 < (n.cache.tok b).count → 0 ≤ b ∧ b < n.c.blocks
  act : ∀ b, n.table.on b = true → isNode n.c (n.table.act b).node = true ∧ 0 ≤ b ∧ b < n.c.blocks
  op : n.cpu.busy = true → 0 ≤ n.cpu.op.block ∧ n.cpu.op.block < n.c.blocks
theorem Node.Held.new {c : Config} {id : Int} (hc : c.Fine) (hi : 0 ≤ id ∧ id < c.nodes) : (Node.new c id).Held :=
  ⟨hc, hi, CacheM.new_ok _ _, fun b h => by simp [Node.new, CacheM.new, Bundle.none] at h, fun b h => by simp [Node.new, Table.new, Table.on, Active.zero] at h, fun h => by simp [Node.new, Proc.new] at h⟩
theorem endL_legal {n : Node} (hi : 0 ≤ n.id ∧ n.id < n.c.nodes) (ha : ∀ b, n.table.on b = true → 0 ≤ b ∧ b < n.c.blocks) (b : Int) : ∀ x ∈ (n.endL b).2, x.Legal n.c ∧ x.src = n.id := fun x hx => by
  obtain ⟨e, h1, h2⟩ := endL_sent n b x hx
  rw [e]
  exact ⟨home_legal hi (ha b h1) (.inr ⟨.inl rfl, by simp [Table.on] at h1; omega⟩), rfl⟩
theorem Settled.legal {n n' : Node} {L : List Letter} (h : Settled n n' L) (hi : 0 ≤ n.id ∧ n.id < n.c.nodes) (ha : ∀ b, n.table.on b = true → 0 ≤ b ∧ b < n.c.blocks) : ∀ x ∈ L, x.Legal n.c ∧ x.src = n.id := fun x hx => by
  obtain ⟨e, h1, h2⟩ := h.sent x hx
  rw [e]
  exact ⟨home_legal hi (ha _ h1) (.inr ⟨.inl rfl, by simp [Table.on] at h1; omega⟩), rfl⟩
theorem issue_legal {n : Node} (h : n.Held) (op : Op) (d : Draws) : ∀ x ∈ (n.issue op d).2.1, x.Legal n.c ∧ x.src = n.id := by
  unfold Node.issue
  split
  · simp
  · rename_i hn
    have hs := settle_is { n with cpu := (n.cpu.issue op).1 }
    have hl := hs.legal h.id (fun b hb => (h.act b hb).2)
    simp only
    split
    · intro x hx
      rcases List.mem_append.1 hx with hx | hx
      · exact hl x hx
      · have := ask_legal (n := (Node.settle { n with cpu := (n.cpu.issue op).1 }).1) (op := op) (d := d) (by rw [hs.id, hs.c]; exact h.id) (by rw [hs.c]; show 0 ≤ op.block ∧ op.block < n.c.blocks; omega) x hx
        rw [hs.c, hs.id] at this
        exact this
    · exact hl
theorem tick_legal {n : Node} (h : n.Held) (d : Draws) : ∀ x ∈ (n.tick d).2, x.Legal n.c ∧ x.src = n.id := by
  have hb : n.cpu.tick.2 ≠ 0 → n.cpu.busy = true := by
    unfold Proc.tick
    split
    · intro _; assumption
    · simp
  unfold Node.tick
  simp only
  split
  · rename_i h1
    exact ask_legal (n := { n with cpu := n.cpu.tick.1 }) h.id (h.op (hb (by omega)))
  split
  · rename_i h1 h2
    intro x hx
    simp only [List.mem_singleton] at hx
    rw [hx]
    exact ⟨home_legal h.id (h.op (hb (by omega))) (.inl ⟨rfl, rfl⟩), rfl⟩
  · simp
theorem absorb_gone (c : CacheM) (ok : c.Ok) (block : Int) {b : Bundle} (pin : Int) (h : (c.absorb block b pin).2.2 = true) :
    ((c.absorb block b pin).2.1 = ⟨block, b⟩ ∧ 1 ≤ b.count) ∨ ((c.absorb block b pin).2.1.tokens = c.tok (c.absorb block b pin).2.1.block ∧ 0 < (c.tok (c.absorb block b pin).2.1.block).count) := by
  revert h
  unfold CacheM.absorb
  split
  · intro h; cases h
  split
  · intro h; cases h
  split
  · intro _; exact .inl ⟨rfl, by omega⟩
  split
  · rename_i h4
    intro _
    exact .inr ⟨rfl, (ok.mem _).1 ((c.lines.has_iff _).1 h4)⟩
  · intro h; cases h
theorem tokens_legal {n : Node} (h : n.Held) (hT : ∀ b, (n.cache.tok b).count ≤ n.c.tokens) {l : Letter} (hl : l.Legal n.c) (hk : l.kind = 1) : ∀ x ∈ (n.tokens l).2.1, x.Legal n.c ∧ x.src = n.id := by
  obtain ⟨g1, g2, g3⟩ := hl.good hk
  unfold Node.tokens
  split
  · rename_i ho
    intro x hx
    simp only [List.mem_singleton] at hx
    simp only [Node.other, Bool.and_eq_true, decide_eq_true_eq] at ho
    obtain ⟨a1, a2⟩ := h.act _ ho.1
    rw [hx]
    have := isNode_iff.1 a1
    exact ⟨tok_legal h.id (by omega) (Ne.symm ho.2) hl.block g1 g2 g3, rfl⟩
  · have hs := settle_is { n with cache := (n.cache.absorb l.block l.tokens n.cpu.pinned).1 }
    intro x hx
    rcases List.mem_append.1 hx with hx | hx
    · split at hx
      · rename_i hg
        simp only [List.mem_singleton] at hx
        rw [hx]
        have hid := h.id
        rcases absorb_gone n.cache h.ok l.block n.cpu.pinned hg with ⟨e, h1⟩ | ⟨e, h1⟩
        · rw [e]
          exact ⟨tok_legal h.id (by omega) (by omega) hl.block g1 g2 g3, rfl⟩
        · rw [e]
          exact ⟨tok_legal h.id (by omega) (by omega) (h.blocks _ h1) (h.ok.good _) (hT _) (by omega), rfl⟩
      · simp at hx
    · exact hs.legal h.id (fun b hb => (h.act b hb).2) x hx
theorem tokL_legal {c : Config} {src dst b : Int} {t : Bundle} (hs : 0 ≤ src ∧ src < c.nodes) (hd : 0 ≤ dst ∧ dst ≤ c.nodes) (hne : src ≠ dst) (hb : 0 ≤ b ∧ b < c.blocks) (g : t.Good) (hle : t.count ≤ c.tokens) : ∀ x ∈ tokL src dst b t, x.Legal c ∧ x.src = src := by
  unfold tokL
  split
  · intro x hx
    simp only [List.mem_singleton] at hx
    rw [hx]
    exact ⟨tok_legal hs hd hne hb g hle (by omega), rfl⟩
  · simp
theorem split_le {h : Bundle} (g : h.Good) (k : Int) (o d : Bool) : (h.split k o d).1.count ≤ h.count := by
  have := Bundle.split_count g k o d
  have := (Bundle.split_good g k o d).2.pos
  omega
theorem take_legal {n : Node} (h : n.Held) (hT : ∀ b, (n.cache.tok b).count ≤ n.c.tokens) (l : Letter) (d : Draws) : ∀ x ∈ (n.take l d).2.1, x.Legal n.c ∧ x.src = n.id := by
  unfold Node.take
  split
  · simp
  rename_i hn
  have hl' : l.legal n.c = true := by
    cases e : l.legal n.c with
    | true => rfl
    | false => exact absurd (.inl e) hn
  have hl := Letter.legal_iff.1 hl'
  have hd : l.dst = n.id := Decidable.byContradiction fun e => hn (.inr e)
  have he := hl.ends
  have hid := h.id
  simp only [Letter.ends, Bool.and_eq_true, decide_eq_true_eq] at he
  split
  · rename_i hk
    exact tokens_legal h hT hl hk
  split
  · rename_i hk1 hk
    rw [if_neg hk1, if_pos hk] at he
    simp only [Bool.and_eq_true] at he
    have h1 := isNode_iff.1 he.2.1
    unfold Node.asks
    split
    · simp
    · have := split_le (h.ok.good l.block) (reply n.c.policy (n.cache.tok l.block) l.write d).1 (reply n.c.policy (n.cache.tok l.block) l.write d).2.1 (reply n.c.policy (n.cache.tok l.block) l.write d).2.2
      have h3 := hT l.block
      exact tokL_legal h.id (by omega) (by omega) hl.block (Bundle.split_good (h.ok.good _) _ _ _).1 (by show (Bundle.split _ _ _ _).1.count ≤ _; omega)
  split
  · rename_i hk
    have hw := hl.who
    rw [if_pos hk] at hw
    have hw := isNode_iff.1 hw
    unfold Node.activate
    split
    · simp
    simp only
    split
    · split
      · simp
      · refine endL_legal (n := { n with table := (n.table.activate ⟨l.block, l.who, l.seq⟩).1 }) h.id (fun b hb => ?_) l.block
        rcases Table.activate_act n.table ⟨l.block, l.who, l.seq⟩ b with e | ⟨e, _, _⟩
        · simp only [Table.on, e] at hb
          exact (h.act b (by simpa [Table.on] using hb)).2
        · rw [e]; exact hl.block
    · rename_i hne
      have := split_le (h.ok.good l.block) (n.cache.tok l.block).count true true
      have h3 := hT l.block
      exact tokL_legal h.id (by omega) (by omega) hl.block (Bundle.split_good (h.ok.good _) _ _ _).1 (by show (Bundle.split _ _ _ _).1.count ≤ _; omega)
  split
  · rename_i hk
    have hq := hl.seq
    rw [if_pos (by omega)] at hq
    intro x hx
    simp only [Node.deactivate, List.mem_singleton] at hx
    rw [hx]
    exact ⟨home_legal h.id hl.block (.inr ⟨.inr rfl, hq⟩), rfl⟩
  · simp
theorem step_legal {n : Node} (h : n.Held) (hT : ∀ b, (n.cache.tok b).count ≤ n.c.tokens) (a : Act15) : ∀ x ∈ (n.step a).2.1, x.Legal n.c ∧ x.src = n.id := by
  unfold Node.step
  split
  · exact issue_legal h a.op a.draws
  split
  · exact take_legal h hT a.letter a.draws
  split
  · exact tick_legal h a.draws
  · simp
/-! ### It stays so -/
theorem step_act {n : Node} (h : n.Held) (a : Act15) : ∀ b, (n.step a).1.table.on b = true → isNode n.c ((n.step a).1.table.act b).node = true ∧ 0 ≤ b ∧ b < n.c.blocks := by
  have htake : ∀ (l : Letter) (d : Draws) b, (n.take l d).1.table.on b = true → isNode n.c ((n.take l d).1.table.act b).node = true ∧ 0 ≤ b ∧ b < n.c.blocks := by
    intro l d
    unfold Node.take
    split
    · exact h.act
    rename_i hn
    have hl' : l.legal n.c = true := by
      cases e : l.legal n.c with
      | true => rfl
      | false => exact absurd (.inl e) hn
    have hl := Letter.legal_iff.1 hl'
    split
    · unfold Node.tokens
      split
      · exact h.act
      · simp only
        rw [(settle_is { n with cache := (n.cache.absorb l.block l.tokens n.cpu.pinned).1 }).table]
        exact h.act
    split
    · unfold Node.asks
      split <;> exact h.act
    split
    · rename_i hk
      have hw := hl.who
      rw [if_pos hk] at hw
      have key : ∀ b, (n.table.activate ⟨l.block, l.who, l.seq⟩).1.on b = true → isNode n.c ((n.table.activate ⟨l.block, l.who, l.seq⟩).1.act b).node = true ∧ 0 ≤ b ∧ b < n.c.blocks := by
        intro b hb
        rcases Table.activate_act n.table ⟨l.block, l.who, l.seq⟩ b with e | ⟨e, e2, _⟩
        · simp only [Table.on, e] at hb
          rw [e]
          exact h.act b (by simpa [Table.on] using hb)
        · rw [e2, e]
          exact ⟨hw, hl.block⟩
      unfold Node.activate
      split
      · exact h.act
      simp only
      split
      · split
        · exact key
        · rw [(endL_same { n with table := (n.table.activate ⟨l.block, l.who, l.seq⟩).1 } l.block).2.2.2.1]
          exact key
      · exact key
    split
    · intro b hb
      have hq : (n.table.deactivate l.block l.seq).act b = if b = l.block ∧ (n.table.act l.block).seq ≤ l.seq then Active.zero else n.table.act b := rfl
      have hb' : 0 < ((n.table.deactivate l.block l.seq).act b).seq := of_decide_eq_true hb
      show isNode n.c ((n.table.deactivate l.block l.seq).act b).node = true ∧ _
      by_cases e : b = l.block ∧ (n.table.act l.block).seq ≤ l.seq
      · rw [hq, if_pos e] at hb'
        simp [Active.zero] at hb'
      · rw [hq, if_neg e] at hb'
        rw [hq, if_neg e]
        exact h.act b (by simpa [Table.on] using hb')
    · exact h.act
  unfold Node.step
  split
  · unfold Node.issue
    split
    · exact h.act
    · simp only
      rw [(settle_is { n with cpu := (n.cpu.issue a.op).1 }).table]
      exact h.act
  split
  · exact htake a.letter a.draws
  split
  · unfold Node.tick
    simp only
    split
    · exact h.act
    split
    · exact h.act
    · exact h.act
  · exact h.act
theorem step_op {n : Node} (h : n.Held) (a : Act15) : (n.step a).1.cpu.busy = true → 0 ≤ (n.step a).1.cpu.op.block ∧ (n.step a).1.cpu.op.block < n.c.blocks := by
  unfold Node.step
  split
  · unfold Node.issue
    split
    · exact h.op
    · rename_i hn
      simp only
      intro hb
      obtain ⟨h1, h2⟩ := (settle_is { n with cpu := (n.cpu.issue a.op).1 }).busy hb
      rw [h2]
      simp only [Proc.issue]
      rw [if_neg (by simp only [not_or] at hn; exact hn.2.2)]
      show 0 ≤ a.op.block ∧ a.op.block < n.c.blocks
      omega
  split
  · unfold Node.take
    split
    · exact h.op
    split
    · unfold Node.tokens
      split
      · exact h.op
      · simp only
        intro hb
        obtain ⟨h1, h2⟩ := (settle_is { n with cache := (n.cache.absorb a.letter.block a.letter.tokens n.cpu.pinned).1 }).busy hb
        rw [h2]
        exact h.op h1
    split
    · unfold Node.asks
      split <;> exact h.op
    split
    · unfold Node.activate
      split
      · exact h.op
      simp only
      split
      · split
        · exact h.op
        · rw [(endL_same { n with table := (n.table.activate ⟨a.letter.block, a.letter.who, a.letter.seq⟩).1 } a.letter.block).2.2.2.2]
          exact h.op
      · exact h.op
    split <;> exact h.op
  split
  · have ht : n.cpu.tick.1.busy = n.cpu.busy ∧ n.cpu.tick.1.op = n.cpu.op := by unfold Proc.tick; split <;> exact ⟨rfl, rfl⟩
    have hg : n.cpu.tick.1.busy = true → 0 ≤ n.cpu.tick.1.op.block ∧ n.cpu.tick.1.op.block < n.c.blocks := by rw [ht.1, ht.2]; exact h.op
    unfold Node.tick
    simp only
    split
    · exact hg
    split
    · exact hg
    · exact hg
  · exact h.op
theorem Node.Held.step {n : Node} (h : n.Held) (a : Act15) : (n.step a).1.Held := by
  have g := step_goes n h.ok a
  refine ⟨by rw [g.c]; exact h.c, by rw [g.c, g.id]; exact h.id, g.ok, fun b hb => ?_, by rw [g.c]; exact step_act h a, by rw [g.c]; exact step_op h a⟩
  have h1 := g.le b
  rw [g.c]
  by_cases h0 : 0 < (n.cache.tok b).count
  · exact h.blocks b h0
  · have h2 : 0 < come Bundle.count b (n.comes a) := by omega
    unfold Node.comes at h2
    split at h2
    · rename_i hq
      simp only [come] at h2
      split at h2
      · rename_i e
        rw [← e]
        exact (Letter.legal_iff.1 hq.2.1).block
      · omega
    · simp [come] at h2
end Go.Proofs.YtchlioikkhnidaaGreat

/-
  A node, plainly: the ends that it tells, each once, and what it acknowledges. No program is named.
-/
set_option linter.unusedVariables false
set_option linter.unusedSimpArgs false
namespace Go.Proofs.YtchlioikkhnidaaGreat
open Go.RowKit
def kinds (k : Int) (L : List Letter) : Nat := L.countP fun x => decide (x.kind = k)
theorem kinds_append (k : Int) (A B : List Letter) : kinds k (A ++ B) = kinds k A + kinds k B := by simp [kinds]
theorem kinds_none {k : Int} {L : List Letter} (h : ∀ x ∈ L, x.kind ≠ k) : kinds k L = 0 := by
  unfold kinds
  rw [List.countP_eq_zero]
  intro x hx
  simpa using h x hx
structure Ends (n n' : Node) (L : List Letter) (acks : Nat) : Prop where
  told : ∀ b, n.told b ≤ n'.told b
  done : ∀ x ∈ L, x.kind = 5 → n.told x.block < x.seq ∧ x.seq ≤ n'.told x.block
  one : kinds 5 L ≤ 1
  acks : kinds 7 L = acks
theorem Ends.nothing {n n' : Node} {L : List Letter} (h : n'.told = n.told) (h5 : ∀ x ∈ L, x.kind ≠ 5) (h7 : ∀ x ∈ L, x.kind ≠ 7) : Ends n n' L 0 :=
  ⟨fun b => by rw [h]; exact Int.le_refl _, fun x hx hk => absurd hk (h5 x hx), by rw [kinds_none h5]; omega, kinds_none h7⟩
theorem Ends.of {n n1 n' : Node} {L : List Letter} {k : Nat} (h : Ends n1 n' L k) (e : n1.told = n.told) : Ends n n' L k := ⟨fun b => by rw [← e]; exact h.told b, fun x hx hk => by rw [← e]; exact h.done x hx hk, h.one, h.acks⟩
theorem Ends.snoc {n n' : Node} {L B : List Letter} {k : Nat} (h : Ends n n' L k) (h5 : ∀ x ∈ B, x.kind ≠ 5) (h7 : ∀ x ∈ B, x.kind ≠ 7) : Ends n n' (L ++ B) k :=
  ⟨h.told, fun x hx hk => (List.mem_append.1 hx).elim (fun hx => h.done x hx hk) (fun hx => absurd hk (h5 x hx)), by rw [kinds_append, kinds_none h5]; exact h.one, by rw [kinds_append, kinds_none h7]; exact h.acks⟩
theorem Ends.cons {n n' : Node} {L B : List Letter} {k : Nat} (h : Ends n n' L k) (h5 : ∀ x ∈ B, x.kind ≠ 5) (h7 : ∀ x ∈ B, x.kind ≠ 7) : Ends n n' (B ++ L) k :=
  ⟨h.told, fun x hx hk => (List.mem_append.1 hx).elim (fun hx => absurd hk (h5 x hx)) (fun hx => h.done x hx hk), by rw [kinds_append, kinds_none h5, Nat.zero_add]; exact h.one, by rw [kinds_append, kinds_none h7, Nat.zero_add]; exact h.acks⟩
theorem endL_ends (n : Node) (b : Int) : Ends n (n.endL b).1 (n.endL b).2 0 := by
  unfold Node.endL
  split
  · exact Ends.nothing rfl (by simp) (by simp)
  · rename_i h
    refine ⟨fun j => ?_, fun x hx _ => ?_, by simp [kinds, Node.home, Letter.plain], by simp [kinds, Node.home, Letter.plain]⟩
    · show _ ≤ if j = b then (n.table.act b).seq else n.told j
      split
      · rename_i e; subst e; omega
      · exact Int.le_refl _
    · simp only [List.mem_singleton] at hx
      subst hx
      show n.told b < (n.table.act b).seq ∧ (n.table.act b).seq ≤ if b = b then (n.table.act b).seq else n.told b
      rw [if_pos rfl]
      omega
theorem settle_ends (n : Node) : Ends n n.settle.1 n.settle.2.1 0 := by
  unfold Node.settle
  split
  · exact Ends.nothing rfl (by simp) (by simp)
  split
  · exact Ends.nothing rfl (by simp) (by simp)
  · exact (endL_ends { n with cache := (n.cache.does n.cpu.op n.c.tokens).1, cpu := n.cpu.finish.1 } n.cpu.op.block).of rfl
theorem ask_kind {n : Node} {op : Op} {d : Draws} : ∀ x ∈ n.ask op d, x.kind = 2 := fun x hx => by
  unfold Node.ask at hx
  obtain ⟨y, _, rfl⟩ := List.mem_map.1 hx
  rfl
theorem tokL_kind {src dst b : Int} {t : Bundle} : ∀ x ∈ tokL src dst b t, x.kind = 1 := by unfold tokL; split <;> simp [Letter.tok]
def Node.acks (n : Node) (a : Act15) : Nat := if a.kind = 2 ∧ a.letter.kind = 6 ∧ a.letter.dst = n.id ∧ a.letter.legal n.c = true then 1 else 0
theorem take_ends (n : Node) (l : Letter) (d : Draws) : Ends n (n.take l d).1 (n.take l d).2.1 (if l.kind = 6 ∧ l.dst = n.id ∧ l.legal n.c = true then 1 else 0) := by
  unfold Node.take
  by_cases hn : l.legal n.c = false ∨ l.dst ≠ n.id
  · rw [if_pos hn, if_neg (fun h => hn.elim (fun e => by rw [h.2.2] at e; cases e) (fun e => e h.2.1))]
    exact Ends.nothing rfl (by simp) (by simp)
  have hl : l.legal n.c = true := by
    cases e : l.legal n.c with
    | true => rfl
    | false => exact absurd (.inl e) hn
  have hd : l.dst = n.id := Decidable.byContradiction fun e => hn (.inr e)
  rw [if_neg hn]
  by_cases h1 : l.kind = 1
  · rw [if_pos h1, if_neg (show ¬ (l.kind = 6 ∧ l.dst = n.id ∧ l.legal n.c = true) from fun h => by omega)]
    unfold Node.tokens
    split
    · exact Ends.nothing rfl (by simp [Letter.tok]) (by simp [Letter.tok])
    · refine Ends.cons ((settle_ends { n with cache := (n.cache.absorb l.block l.tokens n.cpu.pinned).1 }).of rfl) ?_ ?_
      · split <;> simp [Letter.tok]
      · split <;> simp [Letter.tok]
  rw [if_neg h1]
  by_cases h2 : l.kind = 2
  · rw [if_pos h2, if_neg (show ¬ (l.kind = 6 ∧ l.dst = n.id ∧ l.legal n.c = true) from fun h => by omega)]
    unfold Node.asks
    split
    · exact Ends.nothing rfl (by simp) (by simp)
    · exact Ends.nothing rfl (fun x hx => by rw [tokL_kind x hx]; decide) (fun x hx => by rw [tokL_kind x hx]; decide)
  rw [if_neg h2]
  by_cases h4 : l.kind = 4
  · rw [if_pos h4, if_neg (show ¬ (l.kind = 6 ∧ l.dst = n.id ∧ l.legal n.c = true) from fun h => by omega)]
    unfold Node.activate
    split
    · exact Ends.nothing rfl (by simp) (by simp)
    simp only
    split
    · split
      · exact Ends.nothing rfl (by simp) (by simp)
      · exact (endL_ends { n with table := (n.table.activate ⟨l.block, l.who, l.seq⟩).1 } l.block).of rfl
    · exact Ends.nothing rfl (fun x hx => by rw [tokL_kind x hx]; decide) (fun x hx => by rw [tokL_kind x hx]; decide)
  rw [if_neg h4]
  by_cases h6 : l.kind = 6
  · rw [if_pos h6, if_pos (show l.kind = 6 ∧ l.dst = n.id ∧ l.legal n.c = true from ⟨h6, hd, hl⟩)]
    exact ⟨fun b => Int.le_refl _, fun x hx hk => by simp only [Node.deactivate, List.mem_singleton] at hx; subst hx; simp [Node.home, Letter.plain] at hk, by simp [kinds, Node.deactivate, Node.home, Letter.plain], by simp [kinds, Node.deactivate, Node.home, Letter.plain]⟩
  · rw [if_neg h6, if_neg (show ¬ (l.kind = 6 ∧ l.dst = n.id ∧ l.legal n.c = true) from fun h => h6 h.1)]
    exact Ends.nothing rfl (by simp) (by simp)
theorem step_ends (n : Node) (a : Act15) : Ends n (n.step a).1 (n.step a).2.1 (n.acks a) := by
  unfold Node.step Node.acks
  by_cases h1 : a.kind = 1
  · rw [if_pos h1, if_neg (show ¬ (a.kind = 2 ∧ a.letter.kind = 6 ∧ a.letter.dst = n.id ∧ a.letter.legal n.c = true) from fun h => by omega)]
    unfold Node.issue
    split
    · exact Ends.nothing rfl (by simp) (by simp)
    · simp only
      have h := (settle_ends { n with cpu := (n.cpu.issue a.op).1 }).of (n := n) rfl
      split
      · exact h.snoc (fun x hx => by rw [ask_kind x hx]; decide) (fun x hx => by rw [ask_kind x hx]; decide)
      · exact h
  rw [if_neg h1]
  by_cases h2 : a.kind = 2
  · rw [if_pos h2]
    have h := take_ends n a.letter a.draws
    simp only [h2, true_and]
    exact h
  rw [if_neg h2, if_neg (show ¬ (a.kind = 2 ∧ a.letter.kind = 6 ∧ a.letter.dst = n.id ∧ a.letter.legal n.c = true) from fun h => h2 h.1)]
  split
  · unfold Node.tick
    simp only
    split
    · exact Ends.nothing rfl (fun x hx => by rw [ask_kind x hx]; decide) (fun x hx => by rw [ask_kind x hx]; decide)
    split
    · exact Ends.nothing rfl (by simp [Node.home, Letter.plain]) (by simp [Node.home, Letter.plain])
    · exact Ends.nothing rfl (by simp) (by simp)
  · exact Ends.nothing rfl (by simp) (by simp)
/-! ### The loop over what was sent -/
/-- What stands while the letters R are still to be seen. -/
structure EndsAt (n' : Node) (T : Int → Int → Bool) (acks : Int) (R : List Letter) : Prop where
  fresh : ∀ x ∈ R, x.kind = 5 → T x.block x.seq = false ∧ x.seq ≤ n'.told x.block
  one : kinds 5 R ≤ 1
  acks : acks = kinds 7 R
  old : ∀ b s, T b s = true → s ≤ n'.told b
theorem Ends.start {n n' : Node} {L : List Letter} {k : Nat} {T : Int → Int → Bool} (h : Ends n n' L k) (hT : ∀ b s, T b s = true → s ≤ n.told b) : EndsAt n' T k L :=
  ⟨fun x hx hk => ⟨by
    obtain ⟨h1, h2⟩ := h.done x hx hk
    cases e : T x.block x.seq with
    | false => rfl
    | true => have := hT _ _ e; omega, (h.done x hx hk).2⟩, h.one, by rw [h.acks], fun b s e => Int.le_trans (hT b s e) (h.told b)⟩
theorem kinds_cons (k : Int) (x : Letter) (R : List Letter) : kinds k (x :: R) = kinds k R + if x.kind = k then 1 else 0 := by
  unfold kinds
  rw [List.countP_cons]
  simp
def toldPut (T : Int → Int → Bool) (b s : Int) : Int → Int → Bool := fun i j => if i = b ∧ j = s then true else T i j
theorem EndsAt.other {n' : Node} {T : Int → Int → Bool} {acks : Int} {x : Letter} {R : List Letter} (h : EndsAt n' T acks (x :: R)) (h5 : x.kind ≠ 5) : EndsAt n' T (if x.kind = 7 then acks - 1 else acks) R := by
  have h1 := h.one
  have h2 := h.acks
  rw [kinds_cons, if_neg h5] at h1
  rw [kinds_cons] at h2
  refine ⟨fun y hy => h.fresh y (by simp [hy]), h1, ?_, h.old⟩
  split
  · rename_i e; rw [if_pos e] at h2; omega
  · rename_i e; rw [if_neg e] at h2; omega
theorem EndsAt.told {n' : Node} {T : Int → Int → Bool} {acks : Int} {x : Letter} {R : List Letter} (h : EndsAt n' T acks (x :: R)) (h5 : x.kind = 5) : T x.block x.seq = false ∧ EndsAt n' (toldPut T x.block x.seq) acks R := by
  obtain ⟨f1, f2⟩ := h.fresh x (by simp) h5
  have h1 := h.one
  have h2 := h.acks
  rw [kinds_cons, if_pos h5] at h1
  rw [kinds_cons, if_neg (by omega)] at h2
  have h0 : kinds 5 R = 0 := by omega
  refine ⟨f1, fun y hy hk => ?_, by omega, by omega, fun b s e => ?_⟩
  · have : 0 < kinds 5 R := by
      unfold kinds
      rw [List.countP_pos_iff]
      exact ⟨y, hy, by simpa using hk⟩
    omega
  · unfold toldPut at e
    split at e
    · rename_i e2; rw [e2.1, e2.2]; exact f2
    · exact h.old b s e
theorem EndsAt.over {n' : Node} {T : Int → Int → Bool} {acks : Int} (h : EndsAt n' T acks []) : acks = 0 := by rw [h.acks]; rfl
/-! ### The loop over sums -/
structure SumsAt (n' : Node) (there : Int → Int) (R : List Letter) : Prop where
  legal : ∀ x ∈ R, x.Legal n'.c ∧ x.src = n'.id
  sum : ∀ b, there b - sentM Bundle.count b R = (n'.cache.tok b).count
theorem SumsAt.next {n' : Node} {there : Int → Int} {x : Letter} {R : List Letter} (h : SumsAt n' there (x :: R)) : SumsAt n' (fun j => if j = x.block then there x.block - x.tokens.count else there j) R :=
  ⟨fun y hy => h.legal y (by simp [hy]), fun b => by
    have := h.sum b
    simp only [sentM] at this
    show (if b = x.block then there x.block - x.tokens.count else there b) - _ = _
    split
    · rename_i e; subst e; rw [if_pos rfl] at this; omega
    · rename_i e; rw [if_neg (Ne.symm e)] at this; omega⟩
theorem SumsAt.over {n' : Node} {there : Int → Int} (h : SumsAt n' there []) : ∀ b, there b = (n'.cache.tok b).count := fun b => by have := h.sum b; simp only [sentM] at this; omega
structure AllAt (n' : Node) (f : Int → Int) (R : List Line) : Prop where
  line : ∀ x ∈ R, x.tokens = n'.cache.tok x.block
  sum : ∀ b, f b = (n'.cache.tok b).count ∨ (f b = 0 ∧ b ∈ R.map Line.block)
theorem AllAt.start {n' : Node} (ok : n'.cache.Ok) : AllAt n' (fun _ => 0) n'.cache.all :=
  ⟨fun x hx => by
    unfold CacheM.all at hx
    obtain ⟨b, _, rfl⟩ := List.mem_map.1 hx
    rfl, fun b => by
    by_cases hb : b ∈ n'.cache.lines.all
    · right
      refine ⟨rfl, ?_⟩
      unfold CacheM.all
      rw [List.map_map, List.mem_map]
      exact ⟨b, (list_mem _ _).2 hb, rfl⟩
    · left
      rw [ok.none hb]
      rfl⟩
theorem AllAt.next {n' : Node} {f : Int → Int} {x : Line} {R : List Line} (h : AllAt n' f (x :: R)) : AllAt n' (fun j => if j = x.block then x.tokens.count else f j) R :=
  ⟨fun y hy => h.line y (by simp [hy]), fun b => by
    show (if b = x.block then x.tokens.count else f b) = _ ∨ ((if b = x.block then x.tokens.count else f b) = 0 ∧ _)
    split
    · rename_i e; left; rw [h.line x (by simp), e]
    · rename_i e
      rcases h.sum b with h1 | ⟨h1, h2⟩
      · exact .inl h1
      · right
        refine ⟨h1, ?_⟩
        simp only [List.map_cons, List.mem_cons] at h2
        exact h2.resolve_left e⟩
theorem AllAt.over {n' : Node} {f : Int → Int} (h : AllAt n' f []) : ∀ b, f b = (n'.cache.tok b).count := fun b => by
  rcases h.sum b with h1 | ⟨_, h2⟩
  · exact h1
  · simp at h2
end Go.Proofs.YtchlioikkhnidaaGreat

/-
  Maps whose keys are pairs of whole numbers. No program is named.
-/
namespace Go.Proofs.YtchlioikkhnidaaGreat
open Go.MapKept Go.ChangeShapes Go.WideShapes
open Go.ChangeMaps (setBlock)
set_option linter.unusedVariables false
set_option linter.unusedSimpArgs false
def pairV (k : Int × Int) : Value := .agg #[.int .i64 k.1, .int .i64 k.2]
theorem pairV_inj {a b : Int × Int} : pairV a = pairV b ↔ a = b := by
  obtain ⟨a1, a2⟩ := a
  obtain ⟨b1, b2⟩ := b
  simp [pairV]
structure PairTy (P : Program) (mty kt it et : TypeId) (z : Value) : Prop where
  map : P.underlying mty = some (.map kt et)
  arr : P.underlying kt = some (.array 2 it)
  int : P.underlying it = some (.int .i64)
  info : ∃ i, P.info? it = some i
  cells : P.cellsOf it = 1
  zero : ∀ w, (zeroValue et).run P w = .ok z w
section
variable {P : Program} {mty kt it et : TypeId} {z : Value} {o : Obj} {f : Int × Int → Option Value}
theorem PairTy.plain (t : PairTy P mty kt it et z) : P.plainKey it = true := by simp [Program.plainKey, t.int]
theorem PairTy.wide (t : PairTy P mty kt it et z) : (match P.underlying kt with | some (.array _ _) | some (.struct _) => true | _ => false) = true := by simp [t.arr]
theorem PairTy.part (t : PairTy P mty kt it et z) (k : Int × Int) (w : World) : (part it #[.int .i64 k.1, .int .i64 k.2] 0).run P w = .ok (.int .i64 k.1) w ∧ (part it #[.int .i64 k.1, .int .i64 k.2] 1).run P w = .ok (.int .i64 k.2) w :=
  ⟨run_part_plain w t.plain rfl, run_part_plain w t.plain rfl⟩
theorem PairTy.eqInt (t : PairTy P mty kt it et z) (d : Nat) (a b : Int) (w : World) : (Op.equalIn (d + 1) it (.int .i64 a) (.int .i64 b)).run P w = .ok (a == b) w := by
  simp [Op.equalIn, run_underlying t.int]
theorem PairTy.equal (t : PairTy P mty kt it et z) (a b : Int × Int) (w : World) : (Op.equal kt (pairV a) (pairV b)).run P w = .ok (decide (a = b)) w := by
  obtain ⟨i, hi⟩ := t.info
  obtain ⟨pa, qa⟩ := t.part a w
  obtain ⟨pb, qb⟩ := t.part b w
  have h0 : Op.equal kt (pairV a) (pairV b) = Op.equalIn (9999 + 1) kt (.agg #[.int .i64 a.1, .int .i64 a.2]) (.agg #[.int .i64 b.1, .int .i64 b.2]) := rfl
  rw [h0, run_equalIn_array w 9999 _ _ t.arr hi, t.cells]
  have hr : List.range 2 = [0, 1] := rfl
  rw [hr]
  simp only [Op.eqItems, Nat.zero_mul, Nat.one_mul, Sem.run_bind, pa, pb, qa, qb, Result.andThen_ok, t.eqInt 9998]
  obtain ⟨a1, a2⟩ := a
  obtain ⟨b1, b2⟩ := b
  simp only at qa qb
  by_cases h1 : a1 = b1
  · subst h1
    by_cases h2 : a2 = b2
    · subst h2; simp [qa, t.eqInt 9998]
    · simp [h2, qa, qb, t.eqInt 9998]
  · simp [h1]
theorem PairTy.check (t : PairTy P mty kt it et z) (k : Int × Int) (e : Bool) (w : World) : (Instr.checkKey e 10000 kt (pairV k)).run P w = .ok () w := by
  obtain ⟨i, hi⟩ := t.info
  obtain ⟨pa, qa⟩ := t.part k w
  have hc : ∀ (v : Int) (w : World), (Instr.checkKey e 9999 it (.int .i64 v)).run P w = .ok () w := fun v w => MapKept.run_checkKey t.int (k := .int .i64 v) rfl e 9998
  show (Instr.checkKey e (9999 + 1) kt (.agg #[.int .i64 k.1, .int .i64 k.2])).run P w = .ok () w
  rw [Instr.checkKey]
  simp only [Sem.run_bind, run_underlying t.arr, Result.andThen_ok]
  simp only [Std.Legacy.Range.forIn_eq_forIn_range', Std.Legacy.Range.size, Nat.sub_zero, Nat.add_one_sub_one, Nat.div_one]
  have hr : List.range' 0 2 = [0, 1] := rfl
  rw [hr]
  simp only [List.forIn_cons, List.forIn_nil, Sem.run_bind, run_sizeOf w hi, Result.andThen_ok, t.cells, Nat.zero_mul, Nat.one_mul, pa, qa, hc, Sem.run_pure]
theorem PairTy.stays (t : PairTy P mty kt it et z) (k : Int × Int) (w : World) : (Instr.keyThatStays (pairV k) (pairV k)).run P w = .ok (pairV k) w := by
  have hs : Instr.sameBits 10000 (pairV k) (pairV k) = true := by
    show Instr.sameBits (9999 + 1) (.agg #[.int .i64 k.1, .int .i64 k.2]) (.agg #[.int .i64 k.1, .int .i64 k.2]) = true
    simp [Instr.sameBits]
  simp [Instr.keyThatStays, hs]
theorem PairTy.asking (t : PairTy P mty kt it et z) (k : Int × Int) : ∀ (es : List MapEntry) (i : Nat), (∀ x ∈ es, ∃ k, x.key = pairV k) →
    ((∀ w, (Instr.findAsking kt (pairV k) es i).run P w = .ok none w) ∧ ∀ x ∈ es, x.key ≠ pairV k) ∨ ∃ j e, (∀ w, (Instr.findAsking kt (pairV k) es i).run P w = .ok (some (i + j, e.val)) w) ∧ es[j]? = some e ∧ e.key = pairV k
  | [], i, _ => .inl ⟨fun w => by simp [Instr.findAsking], by simp⟩
  | e :: es, i, h => by
    obtain ⟨q, hq⟩ := h e (by simp)
    have he := t.equal k q
    by_cases hk : k = q
    · have he' : ∀ w, (Op.equal kt (pairV k) e.key).run P w = .ok true w := fun w => by rw [hq, he, decide_eq_true hk]
      exact .inr ⟨0, e, fun w => by simp [Instr.findAsking, he'], rfl, by rw [hq, hk]⟩
    · rcases t.asking k es (i + 1) (fun y hy => h y (by simp [hy])) with ⟨h1, h2⟩ | ⟨j, e', h1, h2, h3⟩
      · refine .inl ⟨fun w => by simp [Instr.findAsking, hq, he, hk, h1], fun y hy => ?_⟩
        rcases List.mem_cons.1 hy with rfl | hy
        · rw [hq]; exact fun e => hk (pairV_inj.1 e).symm
        · exact h2 y hy
      · exact .inr ⟨j + 1, e', fun w => by simp [Instr.findAsking, hq, he, hk, h1, Nat.add_assoc, Nat.add_comm 1 j], by simpa using h2, h3⟩
def upd2 {α : Type} (f : Int × Int → Option α) (k : Int × Int) (v : α) : Int × Int → Option α := fun j => if j = k then some v else f j
/-- A map's block: what stands at each key. -/
def PairObj (o : Obj) (f : Int × Int → Option Value) : Prop :=
  ∃ es clock, o = .map es clock ∧ Stamped es clock ∧ (∀ x ∈ es.toList, ∃ k, x.key = pairV k) ∧
    ∀ k v, f k = some v ↔ ∃ x ∈ es.toList, x.key = pairV k ∧ x.val = v
theorem PairObj.empty (c : Nat) : PairObj (.map #[] c) (fun _ => none) := ⟨#[], c, rfl, stamped_empty c, by simp, by simp⟩
theorem PairObj.found (t : PairTy P mty kt it et z) {es : Array MapEntry} (hk : ∀ x ∈ es.toList, ∃ k, x.key = pairV k) (hf : ∀ k v, f k = some v ↔ ∃ x ∈ es.toList, x.key = pairV k ∧ x.val = v) (k : Int × Int) :
    ((∀ w, (Instr.findKey kt (pairV k) es.toList).run P w = .ok none w) ∧ f k = none ∧ ∀ x ∈ es.toList, x.key ≠ pairV k) ∨
    ∃ j e, (∀ w, (Instr.findKey kt (pairV k) es.toList).run P w = .ok (some (j, e.val)) w) ∧ es[j]? = some e ∧ e.key = pairV k ∧ f k = some e.val := by
  rcases t.asking k es.toList 0 hk with ⟨h1, h2⟩ | ⟨j, e, h1, h2, h3⟩
  · refine .inl ⟨fun w => by rw [run_findKey_eq w t.wide]; exact h1 w, ?_, h2⟩
    cases hfk : f k with
    | none => rfl
    | some v =>
      obtain ⟨x, hx, e1, _⟩ := (hf k v).1 hfk
      exact absurd e1 (h2 x hx)
  · exact .inr ⟨j, e, fun w => by rw [run_findKey_eq w t.wide]; simpa using h1 w, by simpa using h2, h3, (hf k e.val).2 ⟨e, List.mem_of_getElem? h2, h3, rfl⟩⟩
theorem PairObj.lookup (t : PairTy P mty kt it et z) (h : PairObj o f) (k : Int × Int) (b : Nat) (w : World) (hb : ob w b = some o) :
    (Instr.lookup mty (.map (some b)) (pairV k) false).run P w = .ok ((f k).getD z) w := by
  obtain ⟨es, clock, rfl, hs, hk, hf⟩ := h
  rcases PairObj.found t hk hf k with ⟨h1, h2, _⟩ | ⟨j, e, h1, _, _, h4⟩
  · simp [Instr.lookup, run_underlying t.map, MapKept.run_getObj_map hb, t.check k, h1, t.zero, h2]
  · simp [Instr.lookup, run_underlying t.map, MapKept.run_getObj_map hb, t.check k, h1, h4]
theorem PairObj.pushed {es : Array MapEntry} {clock : Nat} (hs : Stamped es clock) (hk : ∀ x ∈ es.toList, ∃ k, x.key = pairV k) (hf : ∀ k v, f k = some v ↔ ∃ x ∈ es.toList, x.key = pairV k ∧ x.val = v)
    (k : Int × Int) (v : Value) (hn : ∀ x ∈ es.toList, x.key ≠ pairV k) : PairObj (.map (es.push { key := pairV k, val := v, born := clock }) (clock + 1)) (upd2 f k v) := by
  refine ⟨_, _, rfl, stamped_push hs hn, ?_, ?_⟩
  · intro x hx
    simp only [Array.toList_push, List.mem_append, List.mem_singleton] at hx
    rcases hx with hx | rfl
    · exact hk x hx
    · exact ⟨k, rfl⟩
  · intro j u
    simp only [upd2, Array.toList_push, List.mem_append, List.mem_singleton]
    by_cases hj : j = k
    · subst hj
      simp only [if_true, Option.some.injEq]
      constructor
      · rintro rfl; exact ⟨_, .inr rfl, rfl, rfl⟩
      · rintro ⟨x, hx | rfl, e1, e2⟩
        · exact absurd e1 (hn x hx)
        · exact e2
    · rw [if_neg hj, hf]
      constructor
      · rintro ⟨x, hx, e⟩; exact ⟨x, .inl hx, e⟩
      · rintro ⟨x, hx | rfl, e1, e2⟩
        · exact ⟨x, hx, e1, e2⟩
        · have e1 := pairV_inj.1 e1; exact absurd e1.symm hj
theorem PairObj.modified {es : Array MapEntry} {clock : Nat} (hs : Stamped es clock) (hk : ∀ x ∈ es.toList, ∃ k, x.key = pairV k) (hf : ∀ k v, f k = some v ↔ ∃ x ∈ es.toList, x.key = pairV k ∧ x.val = v)
    {j : Nat} {e : MapEntry} (k : Int × Int) (v : Value) (hj : es[j]? = some e) (he : e.key = pairV k) (g : MapEntry → MapEntry) (hg : g e = { e with key := pairV k, val := v }) (hgb : ∀ x, (g x).born = x.born) :
    PairObj (.map (es.modify j g) clock) (upd2 f k v) := by
  refine ⟨_, _, rfl, stamped_modify hs _ _ (fun x _ => hgb x) (fun x _ hx => ?_), ?_, ?_⟩
  · rw [hj] at hx
    cases hx
    rw [hg, he]
  · intro x hx
    rcases (mem_modify hj g x).1 hx with rfl | ⟨i, _, hi⟩
    · rw [hg]; exact ⟨k, rfl⟩
    · exact hk x (by rw [Array.mem_toList_iff]; exact Array.mem_of_getElem? hi)
  · intro i u
    simp only [upd2, mem_modify hj]
    by_cases hi : i = k
    · subst hi
      simp only [if_true, Option.some.injEq]
      constructor
      · rintro rfl; exact ⟨_, .inl rfl, by rw [hg], by rw [hg]⟩
      · rintro ⟨x, rfl | ⟨q, hq, hx⟩, e1, e2⟩
        · rw [hg] at e2; exact e2
        · exact absurd (getElem_inj hs hx hj (by rw [e1, he])) hq
    · rw [if_neg hi, hf]
      constructor
      · rintro ⟨x, hx, e1, e2⟩
        rw [Array.mem_toList_iff, Array.mem_iff_getElem?] at hx
        obtain ⟨q, hq⟩ := hx
        refine ⟨x, .inr ⟨q, fun e' => ?_, hq⟩, e1, e2⟩
        subst e'
        rw [hj] at hq
        cases hq
        rw [he] at e1
        have e1 := pairV_inj.1 e1
        exact hi e1.symm
      · rintro ⟨x, rfl | ⟨q, hq, hx⟩, e1, e2⟩
        · rw [hg] at e1
          have e1 := pairV_inj.1 e1
          exact absurd e1.symm hi
        · exact ⟨x, by rw [Array.mem_toList_iff]; exact Array.mem_of_getElem? hx, e1, e2⟩
theorem PairObj.update (t : PairTy P mty kt it et z) (h : PairObj o f) (k : Int × Int) (v : Value) (b : Nat) :
    ∃ o', PairObj o' (upd2 f k v) ∧ ∀ w : World, ob w b = some o → (Instr.mapUpdate mty (.map (some b)) (pairV k) v).run P w = .ok () (setBlock w b o') := by
  obtain ⟨es, clock, rfl, hs, hk, hf⟩ := h
  rcases PairObj.found t hk hf k with ⟨h1, h2, h3⟩ | ⟨j, e, h1, h2, h3, h4⟩
  · refine ⟨_, PairObj.pushed hs hk hf k v h3, fun w hb => ?_⟩
    simp [Instr.mapUpdate, run_underlying t.map, MapKept.run_getObj_map hb, t.check k, h1, MapKept.run_setObj_map _ hb, setBlock]
  · refine ⟨_, PairObj.modified hs hk hf k v h2 h3 (fun e => { e with key := pairV k, val := v }) rfl (fun _ => rfl), fun w hb => ?_⟩
    have hst := t.stays k w
    simp [Instr.mapUpdate, run_underlying t.map, MapKept.run_getObj_map hb, t.check k, h1, h2, h3, hst, MapKept.run_setObj_map _ hb, setBlock]
end
end Go.Proofs.YtchlioikkhnidaaGreat
