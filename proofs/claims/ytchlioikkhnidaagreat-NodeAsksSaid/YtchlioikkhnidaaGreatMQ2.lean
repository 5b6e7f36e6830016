/-
  A node, plainly: what of its tokens is there and what goes. No program is named.
-/
import Derived.Test.YtchlioikkhnidaaGreatMA
set_option linter.unusedVariables false
set_option linter.unusedSimpArgs false
set_option linter.unusedVariables false
set_option linter.unusedSimpArgs false
namespace Go.Proofs.YtchlioikkhnidaaGreat

theorem absorb_pinned {c : CacheM} (h : c.Ok) (block : Int) {b : Bundle} (g : b.Good) (pinned : Int) (hp : 0 ≤ pinned) :
    ((c.absorb block b pinned).2.2 = true → (c.absorb block b pinned).2.1.block ≠ pinned) ∧
    ((c.absorb block b pinned).1.tok pinned).count = (c.tok pinned).count + (if block = pinned then b.count else 0) := by
  have gp := g.pos
  unfold CacheM.absorb
  by_cases q1 : b.count < 1
  · rw [if_pos q1]
    refine ⟨(fun h => by cases h), ?_⟩
    show (c.tok pinned).count = _
    split <;> omega
  rw [if_neg q1]
  by_cases q2 : c.lines.has block = true
  · rw [if_pos q2]
    refine ⟨(fun h => by cases h), ?_⟩
    show (if pinned = block then (c.tok block).join b else c.tok pinned).count = _
    by_cases e : block = pinned
    · subst e
      rw [if_pos rfl, if_pos rfl]; rfl
    · rw [if_neg (Ne.symm e), if_neg e]; omega
  rw [if_neg q2]
  have q2' : c.lines.has block = false := by simpa using q2
  obtain ⟨f1, f2, f3, f4⟩ := victim_facts h.lines block pinned
  have hno : block = pinned → (c.tok pinned).count = 0 := fun e => by
    have : c.tok pinned = Bundle.none := h.none fun hm => by rw [← e] at hm; exact q2 ((c.lines.has_iff _).2 hm)
    rw [this]; rfl
  by_cases q3 : (c.lines.victim block pinned).2 = false
  · rw [if_pos q3]
    obtain ⟨g1, g2, g3, g4⟩ := f1 q3
    have hne : block ≠ pinned := fun e => by
      subst e
      rcases g4 with g4 | g4
      · omega
      · rw [g4] at g2; cases g2
    refine ⟨fun _ => hne, ?_⟩
    show (c.tok pinned).count = _
    rw [if_neg hne]; omega
  rw [if_neg q3]
  obtain ⟨a1, a2⟩ := absorb_can (pinned := pinned) h q2' (by simpa using q3)
  by_cases q4 : c.lines.has (c.lines.victim block pinned).1 = true
  · rw [if_pos q4]
    obtain ⟨_, hv, _⟩ := a1 q4
    refine ⟨fun _ => hv, ?_⟩
    show (if pinned = block then b else if pinned = (c.lines.victim block pinned).1 then Bundle.none else c.tok pinned).count = _
    by_cases e : block = pinned
    · have := hno e
      rw [if_pos e.symm, if_pos e]; omega
    · rw [if_neg (Ne.symm e), if_neg (Ne.symm hv), if_neg e]; omega
  · rw [if_neg q4]
    refine ⟨(fun h => by cases h), ?_⟩
    show (if pinned = block then b else c.tok pinned).count = _
    by_cases e : block = pinned
    · have := hno e
      rw [if_pos e.symm, if_pos e]; omega
    · rw [if_neg (Ne.symm e), if_neg e]; omega
theorem absorb_bound {c : CacheM} (h : c.Ok) (block : Int) {b : Bundle} (g : b.Good) (pinned j : Int) : ((c.absorb block b pinned).1.tok j).count ≤ (c.tok j).count + b.count := by
  have gp := g.pos
  have hj := (h.good j).pos
  have hn : Bundle.none.count = 0 := rfl
  unfold CacheM.absorb
  split
  · show (c.tok j).count ≤ _; omega
  split
  · show (if j = block then (c.tok block).join b else c.tok j).count ≤ _
    split
    · rename_i e; subst e; exact Int.le_refl _
    · omega
  split
  · show (c.tok j).count ≤ _; omega
  split
  · show (if j = block then b else if j = (c.lines.victim block pinned).1 then Bundle.none else c.tok j).count ≤ _
    split
    · omega
    · split
      · omega
      · omega
  · show (if j = block then b else c.tok j).count ≤ _
    split <;> omega
end Go.Proofs.YtchlioikkhnidaaGreat
set_option linter.unusedVariables false
set_option linter.unusedSimpArgs false
namespace Go.Proofs.YtchlioikkhnidaaGreat

/-- What a number that is told of tokens becomes, of one block, when tokens come. -/
theorem absorb_measure {c : CacheM} (h : c.Ok) (blk : Int) {b : Bundle} (g : b.Good) (pin j : Int) (μ : Bundle → Int) (h0 : μ Bundle.none = 0)
    (hj : blk = j → μ ((c.tok blk).join b) = μ (c.tok blk) + μ b) (hz : b.count < 1 → μ b = 0) :
    μ ((c.absorb blk b pin).1.tok j) = μ (c.tok j) + (if blk = j then μ b else 0) - (if (c.absorb blk b pin).2.2 = true ∧ (c.absorb blk b pin).2.1.block = j then μ (c.absorb blk b pin).2.1.tokens else 0) := by
  unfold CacheM.absorb
  by_cases q1 : b.count < 1
  · rw [if_pos q1]
    have := hz q1
    show μ (c.tok j) = _
    simp only [Bool.false_eq_true, false_and, if_false]
    split <;> omega
  rw [if_neg q1]
  by_cases q2 : c.lines.has blk = true
  · rw [if_pos q2]
    show μ (if j = blk then (c.tok blk).join b else c.tok j) = _
    simp only [Bool.false_eq_true, false_and, if_false]
    by_cases e : blk = j
    · have := hj e
      subst e
      rw [if_pos rfl, if_pos rfl]; omega
    · rw [if_neg (Ne.symm e), if_neg e]; omega
  rw [if_neg q2]
  have hno : blk = j → c.tok j = Bundle.none := fun e => h.none fun hm => by rw [← e] at hm; exact q2 ((c.lines.has_iff _).2 hm)
  by_cases q3 : (c.lines.victim blk pin).2 = false
  · rw [if_pos q3]
    show μ (c.tok j) = μ (c.tok j) + (if blk = j then μ b else 0) - (if true = true ∧ blk = j then μ b else 0)
    by_cases e : blk = j
    · rw [if_pos e, if_pos ⟨rfl, e⟩]; omega
    · rw [if_neg e, if_neg (fun h => e h.2)]; omega
  rw [if_neg q3]
  obtain ⟨a1, a2⟩ := absorb_can (pinned := pin) h (by simpa using q2) (by simpa using q3)
  by_cases q4 : c.lines.has (c.lines.victim blk pin).1 = true
  · rw [if_pos q4]
    obtain ⟨_, _, hv⟩ := a1 q4
    show μ (if j = blk then b else if j = (c.lines.victim blk pin).1 then Bundle.none else c.tok j) = _
    by_cases e : blk = j
    · have hn := hno e
      rw [if_pos e.symm, if_pos e, if_neg (fun h => hv (h.2.trans e.symm)), hn, h0]; omega
    · rw [if_neg (Ne.symm e), if_neg e]
      by_cases e2 : (c.lines.victim blk pin).1 = j
      · rw [if_pos e2.symm, if_pos ⟨rfl, e2⟩, h0]
        show _ = _ + _ - μ (c.tok (c.lines.victim blk pin).1)
        rw [e2]; omega
      · rw [if_neg (Ne.symm e2), if_neg (fun h => e2 h.2)]; omega
  · rw [if_neg q4]
    show μ (if j = blk then b else c.tok j) = _
    simp only [Bool.false_eq_true, false_and, if_false]
    by_cases e : blk = j
    · have hn := hno e
      rw [if_pos e.symm, if_pos e, hn, h0]; omega
    · rw [if_neg (Ne.symm e), if_neg e]; omega
def ownerN (b : Bundle) : Int := if b.owner = true then 1 else 0
theorem split_owner {h : Bundle} (g : h.Good) (count : Int) (owner data : Bool) : ownerN (h.split count owner data).1 + ownerN (h.split count owner data).2 = ownerN h := by
  obtain ⟨l1, l2, l3, l4⟩ := h.given_le g count owner
  unfold Bundle.split
  simp only
  split
  · simp [ownerN, Bundle.none]
  · rename_i hn
    split
    · rename_i hh
      cases ho : h.owner with
      | true =>
        have := l3 hh ho (by omega)
        simp [ownerN, Bundle.valued, Bundle.none, this, ho]
      | false =>
        have : (h.given count owner).2 = false := by
          cases hg : (h.given count owner).2 with
          | false => rfl
          | true => have := (l4 hg).1; rw [ho] at this; cases this
        simp [ownerN, Bundle.valued, Bundle.none, this, ho]
    · cases ho : h.owner with
      | true => cases hg : (h.given count owner).2 <;> simp [ownerN, Bundle.valued, hg, ho]
      | false =>
        have : (h.given count owner).2 = false := by
          cases hg : (h.given count owner).2 with
          | false => rfl
          | true => have := (l4 hg).1; rw [ho] at this; cases this
        simp [ownerN, Bundle.valued, this, ho]
end Go.Proofs.YtchlioikkhnidaaGreat
set_option linter.unusedVariables false
set_option linter.unusedSimpArgs false
namespace Go.Proofs.YtchlioikkhnidaaGreat

theorem rem_sizes (s : Lines) (b : Int) : (s.rem b).sets = s.sets ∧ (s.rem b).ways = s.ways := ⟨rfl, rfl⟩
theorem use_sizes (s : Lines) (b : Int) : (s.use b).sets = s.sets ∧ (s.use b).ways = s.ways := by unfold Lines.use; split <;> exact ⟨rfl, rfl⟩
theorem add_sizes (s : Lines) (b : Int) : (s.add b).sets = s.sets ∧ (s.add b).ways = s.ways := by unfold Lines.add; split <;> exact ⟨rfl, rfl⟩
theorem set_sizes (c : CacheM) (b : Int) (t : Bundle) : (c.set b t).lines.sets = c.lines.sets ∧ (c.set b t).lines.ways = c.lines.ways := by
  unfold CacheM.set; simp only; split <;> exact ⟨rfl, rfl⟩
theorem absorb_sizes (c : CacheM) (b : Int) (t : Bundle) (pin : Int) : (c.absorb b t pin).1.lines.sets = c.lines.sets ∧ (c.absorb b t pin).1.lines.ways = c.lines.ways := by
  unfold CacheM.absorb
  split
  · exact ⟨rfl, rfl⟩
  split
  · have h1 := set_sizes (c.use b) b ((c.tok b).join t)
    have h2 := use_sizes c.lines b
    exact ⟨h1.1.trans h2.1, h1.2.trans h2.2⟩
  split
  · exact ⟨rfl, rfl⟩
  split
  · have h1 := set_sizes c (c.lines.victim b pin).1 Bundle.none
    have h2 := add_sizes (c.set (c.lines.victim b pin).1 Bundle.none).lines b
    exact ⟨h2.1.trans h1.1, h2.2.trans h1.2⟩
  · exact add_sizes c.lines b
theorem take_sizes (c : CacheM) (b count : Int) (o d : Bool) : (c.take b count o d).1.lines.sets = c.lines.sets ∧ (c.take b count o d).1.lines.ways = c.lines.ways := set_sizes c b _
theorem does_sizes (c : CacheM) (op : Op) (t : Int) : (c.does op t).1.lines.sets = c.lines.sets ∧ (c.does op t).1.lines.ways = c.lines.ways := by
  unfold CacheM.does
  split
  · have h1 := set_sizes c op.block ((c.tok op.block).done op)
    have h2 := use_sizes (c.set op.block ((c.tok op.block).done op)).lines op.block
    exact ⟨h2.1.trans h1.1, h2.2.trans h1.2⟩
  · exact ⟨rfl, rfl⟩
theorem take_bound {c : CacheM} (ok : c.Ok) (b count : Int) (o d : Bool) (j : Int) : ((c.take b count o d).1.tok j).count ≤ (c.tok j).count := by
  show (if j = b then ((c.tok b).split count o d).2 else c.tok j).count ≤ _
  have h1 := Bundle.split_count (ok.good b) count o d
  have h2 := (Bundle.split_good (ok.good b) count o d).1.pos
  split
  · rename_i e; subst e; omega
  · omega
theorem does_count (c : CacheM) (op : Op) (t j : Int) : ((c.does op t).1.tok j).count = (c.tok j).count := by
  unfold CacheM.does
  split
  · show (if j = op.block then (c.tok op.block).done op else c.tok j).count = _
    split
    · rename_i e; subst e; exact Bundle.done_count _ _
    · rfl
  · rfl
theorem list_strict {s : Lines} (h : s.Ok) : List.Pairwise (fun a b => a < b) s.list := by
  have h1 := sort_sorted s.all
  have h2 : s.list.Nodup := (List.mergeSort_perm s.all (fun x y => decide (x ≤ y))).nodup_iff.2 h.nodup
  exact h1.imp₂ (fun a b h1 h2 => by omega) h2
theorem list_mem (s : Lines) (x : Int) : x ∈ s.list ↔ x ∈ s.all := (List.mergeSort_perm s.all (fun x y => decide (x ≤ y))).mem_iff
/-- The k-th line of a cache, and those ahead. -/
theorem room_at {c : CacheM} (ok : c.Ok) (k : Nat) (hk : k < c.lines.list.length) :
    (∀ j, j < k → c.lines.list.getD j 0 < c.lines.list.getD k 0) ∧ 0 ≤ c.lines.list.getD k 0 ∧ 1 ≤ (c.tok (c.lines.list.getD k 0)).count ∧ (∀ q, (cntOf c.lines.sets (c.lines.list.take (k + 1)) q : Int) ≤ c.lines.ways) := by
  have e : c.lines.list.getD k 0 = c.lines.list[k] := by simp [List.getD, hk]
  have hm : c.lines.list[k] ∈ c.lines.all := (list_mem _ _).1 (List.getElem_mem hk)
  refine ⟨fun j hj => ?_, by rw [e]; exact ok.lines.pos _ hm, by rw [e]; have := (ok.mem _).1 hm; omega, fun q => ?_⟩
  · have h := List.pairwise_iff_getElem.1 (list_strict ok.lines) j k (by omega) hk hj
    simpa [List.getD, hk, show j < c.lines.list.length by omega] using h
  · have h1 : cntOf c.lines.sets (c.lines.list.take (k + 1)) q ≤ cntOf c.lines.sets c.lines.list q := by
      unfold cntOf
      exact ((List.take_sublist _ _).filter _).length_le
    rw [cntOf_list] at h1
    have := ok.lines.room q
    omega
end Go.Proofs.YtchlioikkhnidaaGreat
set_option linter.unusedVariables false
set_option linter.unusedSimpArgs false
namespace Go.Proofs.YtchlioikkhnidaaGreat
open Go.RowKit
/-- What happens to it. -/
def Node.step (n : Node) (a : Act15) : Node × List Letter × List Done :=
  if a.kind = 1 then ((n.issue a.op a.draws).1, (n.issue a.op a.draws).2.1, (n.issue a.op a.draws).2.2.1)
  else if a.kind = 2 then n.take a.letter a.draws
  else if a.kind = 3 then ((n.tick a.draws).1, (n.tick a.draws).2, [])
  else (n, [], [])
/-- A number that is told of tokens. -/
structure Mu (μ : Bundle → Int) : Prop where
  none : μ Bundle.none = 0
  split : ∀ {h : Bundle}, h.Good → ∀ c o d, μ (h.split c o d).1 + μ (h.split c o d).2 = μ h
  done : ∀ (h : Bundle) op, μ (h.done op) = μ h
theorem Mu.count : Mu Bundle.count := ⟨rfl, fun g c o d => Bundle.split_count g c o d, fun h op => Bundle.done_count h op⟩
theorem Mu.owner : Mu ownerN := ⟨rfl, fun g c o d => split_owner g c o d, fun h op => by unfold Bundle.done ownerN; split <;> rfl⟩
theorem Mu.low {μ : Bundle → Int} (m : Mu μ) {b : Bundle} (g : b.Good) (h : b.count < 1) : μ b = 0 := by
  have := g.pos
  rw [Bundle.eq_none g (by omega), m.none]
def sentM (μ : Bundle → Int) (j : Int) : List Letter → Int
  | [] => 0
  | x :: L => (if x.block = j then μ x.tokens else 0) + sentM μ j L
theorem sentM_append (μ : Bundle → Int) (j : Int) : ∀ (A B : List Letter), sentM μ j (A ++ B) = sentM μ j A + sentM μ j B
  | [], B => by simp [sentM]
  | x :: A, B => by simp only [List.cons_append, sentM, sentM_append μ j A B]; omega
theorem sentM_none {μ : Bundle → Int} (m : Mu μ) (j : Int) : ∀ (L : List Letter), (∀ x ∈ L, x.tokens = Bundle.none) → sentM μ j L = 0
  | [], _ => rfl
  | x :: L, h => by
    simp only [sentM, h x (by simp), m.none, sentM_none m j L fun y hy => h y (by simp [hy])]
    split <;> rfl
theorem sentM_tokL {μ : Bundle → Int} (m : Mu μ) (j src dst block : Int) {b : Bundle} (g : b.Good) : sentM μ j (tokL src dst block b) = if block = j then μ b else 0 := by
  unfold tokL
  split
  · simp only [sentM, Letter.tok]; omega
  · rename_i h
    rw [m.low g (by omega)]
    simp [sentM]
theorem does_mu {μ : Bundle → Int} (m : Mu μ) (c : CacheM) (op : Op) (t j : Int) : μ ((c.does op t).1.tok j) = μ (c.tok j) := by
  unfold CacheM.does
  split
  · show μ (if j = op.block then (c.tok op.block).done op else c.tok j) = _
    split
    · rename_i e; subst e; exact m.done _ _
    · rfl
  · rfl
theorem take_mu {μ : Bundle → Int} (m : Mu μ) {c : CacheM} (ok : c.Ok) (b k : Int) (o d : Bool) (j : Int) : μ ((c.take b k o d).1.tok j) + (if b = j then μ (c.take b k o d).2 else 0) = μ (c.tok j) := by
  show μ (if j = b then ((c.tok b).split k o d).2 else c.tok j) + (if b = j then μ ((c.tok b).split k o d).1 else 0) = _
  have := m.split (ok.good b) k o d
  by_cases e : b = j
  · subst e; rw [if_pos rfl, if_pos rfl]; omega
  · rw [if_neg (Ne.symm e), if_neg e]; omega
/-! ### What stays as it is -/
theorem endL_same (n : Node) (b : Int) : (n.endL b).1.c = n.c ∧ (n.endL b).1.id = n.id ∧ (n.endL b).1.cache = n.cache ∧ (n.endL b).1.table = n.table ∧ (n.endL b).1.cpu = n.cpu := by
  unfold Node.endL; split <;> exact ⟨rfl, rfl, rfl, rfl, rfl⟩
theorem endL_sent (n : Node) (b : Int) : ∀ x ∈ (n.endL b).2, x = n.home 5 b (n.table.act b).seq ∧ n.table.on b = true ∧ n.told b < (n.table.act b).seq := by
  unfold Node.endL
  split
  · simp
  · rename_i h
    intro x hx
    simp only [List.mem_singleton] at hx
    refine ⟨hx, ?_, by omega⟩
    cases ho : n.table.on b with
    | true => rfl
    | false => exact absurd (.inl (by simp [Node.own, ho])) h
structure Settled (n n' : Node) (L : List Letter) : Prop where
  c : n'.c = n.c
  id : n'.id = n.id
  table : n'.table = n.table
  ok : n.cache.Ok → n'.cache.Ok
  tok : ∀ {μ : Bundle → Int}, Mu μ → ∀ j, μ (n'.cache.tok j) = μ (n.cache.tok j)
  busy : n'.cpu.busy = true → n.cpu.busy = true ∧ n'.cpu.op = n.cpu.op
  number : n'.cpu.number = n.cpu.number
  sent : ∀ x ∈ L, x = n.home 5 n.cpu.op.block (n.table.act n.cpu.op.block).seq ∧ n.table.on n.cpu.op.block = true ∧ n.cpu.busy = true
theorem settle_is (n : Node) : Settled n n.settle.1 n.settle.2.1 := by
  unfold Node.settle
  split
  · exact ⟨rfl, rfl, rfl, id, fun _ _ => rfl, fun h => ⟨h, rfl⟩, rfl, by simp⟩
  split
  · exact ⟨rfl, rfl, rfl, id, fun _ _ => rfl, fun h => ⟨h, rfl⟩, rfl, by simp⟩
  · rename_i h1 h2
    have hb : n.cpu.busy = true := by simpa using h1
    simp only
    obtain ⟨e1, e2, e3, e4, e5⟩ := endL_same { n with cache := (n.cache.does n.cpu.op n.c.tokens).1, cpu := n.cpu.finish.1 } n.cpu.op.block
    refine ⟨e1, e2, e4, fun ok => by rw [e3]; exact CacheM.does_ok ok _ _, fun m j => by rw [e3]; exact does_mu m _ _ _ _, fun h => ?_, ?_, fun x hx => ?_⟩
    · rw [e5] at h; simp [Proc.finish, hb] at h
    · rw [e5]; simp [Proc.finish, hb]
    · obtain ⟨g1, g2, g3⟩ := endL_sent _ _ x hx
      exact ⟨g1, g2, hb⟩
theorem Settled.none {n n' : Node} {L : List Letter} (h : Settled n n' L) : ∀ x ∈ L, x.tokens = Bundle.none := fun x hx => by rw [(h.sent x hx).1]; rfl
theorem Table.activate_act (t : Table) (a : Active) (b : Int) : (t.activate a).1.act b = t.act b ∨ (b = a.block ∧ (t.activate a).1.act b = a ∧ 1 ≤ a.seq) := by
  unfold Table.activate
  split
  · exact .inl rfl
  · show (if b = a.block then a else t.act b) = _ ∨ _
    split
    · exact .inr ⟨by assumption, by simp [*], by omega⟩
    · exact .inl rfl
/-! ### What comes, and goes -/
def Node.comes (n : Node) (a : Act15) : Option (Int × Bundle) :=
  if a.kind = 2 ∧ a.letter.legal n.c = true ∧ a.letter.dst = n.id ∧ a.letter.kind = 1 then some (a.letter.block, a.letter.tokens) else none
def come (μ : Bundle → Int) (j : Int) : Option (Int × Bundle) → Int
  | none => 0
  | some (b, t) => if b = j then μ t else 0
/-- What a step does, for all who ask. -/
structure Goes (n n' : Node) (L : List Letter) (o : Option (Int × Bundle)) : Prop where
  c : n'.c = n.c
  id : n'.id = n.id
  ok : n'.cache.Ok
  sum : ∀ {μ : Bundle → Int}, Mu μ → (∀ b t, o = some (b, t) → μ ((n.cache.tok b).join t) = μ (n.cache.tok b) + μ t) → ∀ j, μ (n'.cache.tok j) + sentM μ j L = μ (n.cache.tok j) + come μ j o
  good : ∀ x ∈ L, x.tokens.Good
theorem Settled.good {n n' : Node} {L : List Letter} (h : Settled n n' L) : ∀ x ∈ L, x.tokens.Good := fun x hx => by rw [h.none x hx]; exact Bundle.none_good
theorem ask_none (n : Node) (op : Op) (d : Draws) : ∀ x ∈ n.ask op d, x.tokens = Bundle.none := fun x hx => by
  unfold Node.ask at hx
  obtain ⟨y, _, rfl⟩ := List.mem_map.1 hx
  rfl
theorem none_good' {L : List Letter} (h : ∀ x ∈ L, x.tokens = Bundle.none) : ∀ x ∈ L, x.tokens.Good := fun x hx => by rw [h x hx]; exact Bundle.none_good
theorem issue_goes (n : Node) (ok : n.cache.Ok) (op : Op) (d : Draws) : Goes n (n.issue op d).1 (n.issue op d).2.1 none := by
  unfold Node.issue
  split
  · exact ⟨rfl, rfl, ok, fun m _ j => by simp [sentM, come], by simp⟩
  · have h := settle_is { n with cpu := (n.cpu.issue op).1 }
    refine ⟨h.c, h.id, h.ok ok, fun m _ j => ?_, ?_⟩
    · have h1 := h.tok m j
      have h2 := sentM_none m j _ h.none
      simp only
      rw [h1]
      split
      · rw [sentM_append, h2, sentM_none m j _ (ask_none _ _ _)]; simp [come]
      · rw [h2]; rfl
    · simp only
      split
      · intro x hx
        rcases List.mem_append.1 hx with hx | hx
        · exact h.good x hx
        · exact none_good' (ask_none _ _ _) x hx
      · exact h.good
theorem tick_goes (n : Node) (ok : n.cache.Ok) (d : Draws) : Goes n (n.tick d).1 (n.tick d).2 none := by
  unfold Node.tick
  simp only
  split
  · exact ⟨rfl, rfl, ok, fun m _ j => by rw [sentM_none m j _ (ask_none _ _ _)]; rfl, none_good' (ask_none _ _ _)⟩
  split
  · exact ⟨rfl, rfl, ok, fun m _ j => by rw [sentM_none m j _ (by simp [Node.home, Letter.plain])]; rfl, none_good' (by simp [Node.home, Letter.plain])⟩
  · exact ⟨rfl, rfl, ok, fun m _ j => by simp [sentM, come], by simp⟩
theorem absorb_out (c : CacheM) (ok : c.Ok) (block : Int) {b : Bundle} (g : b.Good) (pin : Int) : (c.absorb block b pin).2.1.tokens.Good := by
  unfold CacheM.absorb
  split
  · exact Bundle.none_good
  split
  · exact Bundle.none_good
  split
  · exact g
  split
  · exact ok.good _
  · exact Bundle.none_good
theorem tokens_goes (n : Node) (ok : n.cache.Ok) (l : Letter) (g : l.tokens.Good) : Goes n (n.tokens l).1 (n.tokens l).2.1 (some (l.block, l.tokens)) := by
  unfold Node.tokens
  split
  · refine ⟨rfl, rfl, ok, fun m _ j => ?_, ?_⟩
    · simp only [sentM, Letter.tok, come]; omega
    · simp [Letter.tok, g]
  · have h := settle_is { n with cache := (n.cache.absorb l.block l.tokens n.cpu.pinned).1 }
    refine ⟨h.c, h.id, h.ok (CacheM.absorb_ok ok _ g _), fun {μ} m hj j => ?_, ?_⟩
    · have h1 := h.tok m j
      have h2 := sentM_none m j _ h.none
      have h3 := absorb_measure ok l.block g n.cpu.pinned j μ m.none (fun e => hj _ _ rfl) (m.low g)
      simp only
      rw [h1, sentM_append, h2, h3]
      by_cases e : (n.cache.absorb l.block l.tokens n.cpu.pinned).2.2 = true
      · rw [if_pos e]
        simp only [e, true_and, sentM, Letter.tok, come]
        omega
      · rw [if_neg e]
        simp only [e, false_and, if_false, sentM, come, Bool.false_eq_true]
        omega
    · intro x hx
      rcases List.mem_append.1 hx with hx | hx
      · split at hx
        · simp only [List.mem_singleton] at hx
          subst hx
          exact absorb_out _ ok _ g _
        · simp at hx
      · exact h.good x hx
theorem tokL_good {src dst block : Int} {b : Bundle} (g : b.Good) : ∀ x ∈ tokL src dst block b, x.tokens.Good := by
  unfold tokL
  split
  · simp [Letter.tok, g]
  · simp
theorem asks_goes (n : Node) (ok : n.cache.Ok) (l : Letter) (d : Draws) : Goes n (n.asks l d).1 (n.asks l d).2 none := by
  unfold Node.asks
  split
  · exact ⟨rfl, rfl, ok, fun m _ j => by simp [sentM, come], by simp⟩
  · refine ⟨rfl, rfl, CacheM.take_ok ok _ _ _ _, fun m _ j => ?_, tokL_good (Bundle.split_good (ok.good _) _ _ _).1⟩
    have := take_mu m ok l.block (reply n.c.policy (n.cache.tok l.block) l.write d).1 (reply n.c.policy (n.cache.tok l.block) l.write d).2.1 (reply n.c.policy (n.cache.tok l.block) l.write d).2.2 j
    have h2 := sentM_tokL m j n.id l.src l.block (b := (n.cache.take l.block (reply n.c.policy (n.cache.tok l.block) l.write d).1 (reply n.c.policy (n.cache.tok l.block) l.write d).2.1 (reply n.c.policy (n.cache.tok l.block) l.write d).2.2).2) (Bundle.split_good (ok.good _) _ _ _).1
    simp only
    rw [h2, come]
    omega
theorem activate_goes (n : Node) (ok : n.cache.Ok) (l : Letter) : Goes n (n.activate l).1 (n.activate l).2 none := by
  unfold Node.activate
  split
  · exact ⟨rfl, rfl, ok, fun m _ j => by simp [sentM, come], by simp⟩
  simp only
  split
  · split
    · exact ⟨rfl, rfl, ok, fun m _ j => by simp [sentM, come], by simp⟩
    · obtain ⟨e1, e2, e3, e4, e5⟩ := endL_same { n with table := (n.table.activate ⟨l.block, l.who, l.seq⟩).1 } l.block
      have hn : ∀ x ∈ (Node.endL { n with table := (n.table.activate ⟨l.block, l.who, l.seq⟩).1 } l.block).2, x.tokens = Bundle.none := fun x hx => by rw [(endL_sent _ _ x hx).1]; rfl
      exact ⟨e1, e2, by rw [e3]; exact ok, fun m _ j => by rw [e3, sentM_none m j _ hn]; rfl, none_good' hn⟩
  · refine ⟨rfl, rfl, CacheM.take_ok ok _ _ _ _, fun m _ j => ?_, tokL_good (Bundle.split_good (ok.good _) _ _ _).1⟩
    have := take_mu m ok l.block (n.cache.tok l.block).count true true j
    have h2 := sentM_tokL m j n.id l.who l.block (b := (n.cache.take l.block (n.cache.tok l.block).count true true).2) (Bundle.split_good (ok.good _) _ _ _).1
    simp only
    rw [h2, come]
    omega
theorem take_goes (n : Node) (ok : n.cache.Ok) (l : Letter) (d : Draws) : Goes n (n.take l d).1 (n.take l d).2.1 (if l.legal n.c = true ∧ l.dst = n.id ∧ l.kind = 1 then some (l.block, l.tokens) else none) := by
  unfold Node.take
  split
  · rename_i h
    rw [if_neg (fun h1 => h.elim (fun e => by rw [h1.1] at e; cases e) (fun e => e h1.2.1))]
    exact ⟨rfl, rfl, ok, fun m _ j => by simp [sentM, come], by simp⟩
  rename_i h
  have hl : l.legal n.c = true := by
    cases e : l.legal n.c with
    | true => rfl
    | false => exact absurd (.inl e) h
  have hd : l.dst = n.id := Decidable.byContradiction fun e => h (.inr e)
  by_cases hk : l.kind = 1
  · rw [if_pos hk, if_pos ⟨hl, hd, hk⟩]
    exact tokens_goes n ok l ((Letter.legal_iff.1 hl).good hk).1
  rw [if_neg hk, if_neg (show ¬ (l.legal n.c = true ∧ l.dst = n.id ∧ l.kind = 1) from fun h1 => hk h1.2.2)]
  split
  · exact asks_goes n ok l d
  split
  · exact activate_goes n ok l
  split
  · exact ⟨rfl, rfl, ok, fun m _ j => by simp only [Node.deactivate]; rw [sentM_none m j _ (by simp [Node.home, Letter.plain])]; rfl, none_good' (by simp [Node.deactivate, Node.home, Letter.plain])⟩
  · exact ⟨rfl, rfl, ok, fun m _ j => by simp [sentM, come], by simp⟩
theorem step_goes (n : Node) (ok : n.cache.Ok) (a : Act15) : Goes n (n.step a).1 (n.step a).2.1 (n.comes a) := by
  unfold Node.step Node.comes
  split
  · rw [if_neg (fun h => by omega)]
    exact issue_goes n ok a.op a.draws
  split
  · rename_i h2
    have h := take_goes n ok a.letter a.draws
    simp only [h2, true_and]
    exact h
  split
  · rw [if_neg (fun h => by omega)]
    exact tick_goes n ok a.draws
  · rw [if_neg (fun h => by omega)]
    exact ⟨rfl, rfl, ok, fun m _ j => by simp [sentM, come], by simp⟩
theorem sentM_pos (j : Int) : ∀ (L : List Letter), (∀ x ∈ L, x.tokens.Good) → 0 ≤ sentM Bundle.count j L
  | [], _ => Int.le_refl _
  | x :: L, h => by
    have h1 := (h x (by simp)).pos
    have h2 := sentM_pos j L fun y hy => h y (by simp [hy])
    simp only [sentM]
    split <;> omega
theorem join_count (h b : Bundle) : (h.join b).count = h.count + b.count := rfl
theorem Goes.count {n n' : Node} {L : List Letter} {o : Option (Int × Bundle)} (h : Goes n n' L o) (j : Int) : (n'.cache.tok j).count + sentM Bundle.count j L = (n.cache.tok j).count + come Bundle.count j o :=
  h.sum Mu.count (fun b t _ => join_count _ _) j
theorem Goes.le {n n' : Node} {L : List Letter} {o : Option (Int × Bundle)} (h : Goes n n' L o) (j : Int) : (n'.cache.tok j).count ≤ (n.cache.tok j).count + come Bundle.count j o := by
  have h1 := h.count j
  have h2 := sentM_pos j L h.good
  omega
theorem come_le (n : Node) (hc : n.c.Fine) (a : Act15) (j : Int) : 0 ≤ come Bundle.count j (n.comes a) ∧ come Bundle.count j (n.comes a) ≤ 65536 := by
  unfold Node.comes
  split
  · rename_i h
    obtain ⟨g1, g2, g3⟩ := (Letter.legal_iff.1 h.2.1).good h.2.2.2
    have := g1.pos
    have := hc.tokens
    simp only [come]
    split <;> omega
  · simp [come]
/-! ### What calls ask of it -/
structure Node.Runs (n : Node) (k : Nat) : Prop where
  ok : n.cache.Ok
  number : n.cpu.number ≤ k
  tok : ∀ b, (n.cache.tok b).count ≤ 65536 * (k : Int)
theorem Node.Runs.new (c : Config) (id : Int) : (Node.new c id).Runs 0 := ⟨CacheM.new_ok _ _, by simp [Node.new, Proc.new], fun b => by simp [Node.new, CacheM.new, Bundle.none]⟩
theorem finish_number (p : Proc) : p.finish.1.number = p.number := by unfold Proc.finish; split <;> rfl
theorem tick_number (p : Proc) : p.tick.1.number = p.number := by unfold Proc.tick; split <;> rfl
theorem issue_number (p : Proc) (op : Op) : (p.issue op).1.number ≤ p.number + 1 := by unfold Proc.issue; split <;> simp <;> omega
theorem take_number (n : Node) (l : Letter) (d : Draws) : (n.take l d).1.cpu.number = n.cpu.number := by
  unfold Node.take
  split
  · rfl
  split
  · unfold Node.tokens
    split
    · rfl
    · exact (settle_is { n with cache := (n.cache.absorb l.block l.tokens n.cpu.pinned).1 }).number
  split
  · unfold Node.asks
    split <;> rfl
  split
  · unfold Node.activate
    split
    · rfl
    simp only
    split
    · split
      · rfl
      · have h := (endL_same { n with table := (n.table.activate ⟨l.block, l.who, l.seq⟩).1 } l.block).2.2.2.2
        rw [h]
    · rfl
  split <;> rfl
theorem issue_number' (n : Node) (op : Op) (d : Draws) : (n.issue op d).1.cpu.number ≤ n.cpu.number + 1 := by
  unfold Node.issue
  split
  · simp; omega
  · have h := (settle_is { n with cpu := (n.cpu.issue op).1 }).number
    have := issue_number n.cpu op
    simp only at h ⊢
    omega
theorem tick_number' (n : Node) (d : Draws) : (n.tick d).1.cpu.number = n.cpu.number := by
  unfold Node.tick
  simp only
  split
  · exact tick_number _
  split
  · exact tick_number _
  · exact tick_number _
theorem step_number (n : Node) (a : Act15) : (n.step a).1.cpu.number ≤ n.cpu.number + 1 := by
  unfold Node.step
  split
  · exact issue_number' n a.op a.draws
  split
  · have := take_number n a.letter a.draws; omega
  split
  · have := tick_number' n a.draws; simp only; omega
  · simp; omega
theorem Node.Runs.step {n : Node} {k : Nat} (h : n.Runs k) (hc : n.c.Fine) (a : Act15) : (n.step a).1.Runs (k + 1) := by
  have g := step_goes n h.ok a
  refine ⟨g.ok, ?_, fun b => ?_⟩
  · have := step_number n a; have := h.number; omega
  · have h1 := g.le b
    have h2 := come_le n hc a b
    have h3 := h.tok b
    omega
theorem Node.Runs.bound {n : Node} {k : Nat} (h : n.Runs k) (hk : k ≤ 1000) : n.cpu.number < 1000000000 ∧ ∀ b, (n.cache.tok b).count ≤ 900000000000 := by
  refine ⟨by have := h.number; omega, fun b => by have := h.tok b; omega⟩
end Go.Proofs.YtchlioikkhnidaaGreat
