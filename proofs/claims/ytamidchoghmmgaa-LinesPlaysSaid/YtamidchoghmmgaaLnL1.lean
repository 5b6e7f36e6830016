/-
  LinesPlays: in every order of calls just the blocks that the document says have a line. No condition.
-/
import Derived.Test.YtamidchoghmmgaaLnL
import Derived.Deep.LoopGhost
import Derived.Deep.CutBlock
namespace Go.Proofs.Ytamidchoghmmgaa
open Go.RowKit Go.Sort Go.ChangeShapes Go.WideShapes Go.ChangeAt
open Go.ChangeMaps (setBlock)
set_option linter.unusedVariables false
set_option linter.unusedSimpArgs false

/-- The program's lines and the document's, apart, where the world began. -/
structure Two (w0 w : World) (p : Nat) (s : Lines) (F : Nat → Prop) (m : Nat) (t : Lines) (G : Nat → Prop) : Prop where
  prog : At0 w0 w p s F
  ref : RefAt w m t G
  low : ∀ j, G j → w0.heap.size ≤ j
  apart : ∀ j, F j → G j → False
theorem Two.toProg {w0 w w' : World} {p m : Nat} {s s' t : Lines} {F F' G : Nat → Prop} (h : Two w0 w p s F m t G) (h1 : LinesAt w' p s' F') (mv : Moves w w' F F') : Two w0 w' p s' F' m t G :=
  ⟨h.prog.moves h1 mv, h.ref.chg mv.chg fun j hj hf => h.apart j hf hj, h.low, fun j hf hg => by
    rcases mv.fresh j hf with h2 | h2
    · exact h.apart j h2 hg
    · have := h.ref.lt hg; omega⟩
theorem Two.toRef {w0 w w' : World} {p m : Nat} {s t t' : Lines} {F G G' : Nat → Prop} (h : Two w0 w p s F m t G) (h1 : RefAt w' m t' G') (mv : Moves w w' G G') : Two w0 w' p s F m t' G' :=
  ⟨⟨h.prog.here.chg mv.chg fun j hj hg => h.apart j hj hg, h.prog.low, mv.below h.prog.below h.low⟩, h1, mv.low h.low h.prog.below.size, fun j hf hg => by
    rcases mv.fresh j hg with h2 | h2
    · exact h.apart j hf h2
    · have := h.prog.here.lt hf; omega⟩
theorem Two.same {w0 w w' : World} {p m : Nat} {s t : Lines} {F G : Nat → Prop} (h : Two w0 w p s F m t G) (h1 : Below w.heap.size w w') : Two w0 w' p s F m t G :=
  ⟨h.prog.same h1, h.ref.below h1, h.low, h.apart⟩
theorem Two.len {w0 w : World} {p m : Nat} {s t : Lines} {F G : Nat → Prop} (h : Two w0 w p s F m t G) : t.all.length ≤ 100000 := by
  have := Lines.few h.ref.ok
  omega

/-- What a call makes of lines. -/
def Act08.on (a : Act08) (s : Lines) : Lines := if a.kind = 1 then s.add a.block else if a.kind = 2 then s.use a.block else if a.kind = 3 then s.rem a.block else s

set_option maxHeartbeats 4000000 in
set_option maxRecDepth 20000 in
theorem linesPlays_walk (sizes : Pair) (hs : sizes.ok) (l : List Act08) (v : Value) (w : World) (hsl : SliceIs w 2 v (l.map Act08.cells)) (hok : ∀ d ∈ l, d.ok) (ask : Pair) (ha : ask.ok) :
    Calls Try.prog 3 #[sizes.val, v, ask.val] w fun e w' => e = .returned (.bool true) ∧ Below w.heap.size w w' := by
  obtain ⟨A, cap, rfl, h1, h2, h3⟩ := hsl
  simp only [List.length_map] at h1 h2 h3 ⊢
  have H3 := Lib.hid h3
  clear h3 hok ha hs
  obtain ⟨s0, s1⟩ := sizes
  obtain ⟨a0, a1⟩ := ask
  simp only [Pair.val, Pair.cells]
  go_enter Try.func3, Try.ntmps3
  go_wp2_with fail
  go_quiet (fail)
  go_wp2_with fail
  refine (lnAwake_calls _).mono ?_
  rintro e w1 ⟨rfl, hb1'⟩
  have hb1 : Below w.heap.size w w1 := below_trans (Chg.below (by repeat (first | with_reducible exact Chg.refl _ _ | with_reducible exact chg0 | with_reducible refine Chg.drewN ?_ _ | with_reducible refine Chg.drew ?_ | with_reducible refine Chg.alloc ?_ _ | with_reducible refine Chg.setCell ?_ _ _ (by first | (simp; done) | omega | (simp; omega)) | with_reducible refine Chg.setBlock ?_ _ _ (by first | (simp; done) | omega | (simp; omega)) | exact Chg.refl _ _))) hb1'
  have sz1 := hb1'.size
  simp [go_sem] at sz1
  have ask0 : w1.cell? ⟨w.heap.size + 1, 0, none⟩ = some (.int .i64 a0) := by rw [hb1'.cell (by simp <;> omega)]; simp [go_sem]
  have ask1 : w1.cell? ⟨w.heap.size + 1, 1, none⟩ = some (.int .i64 a1) := by rw [hb1'.cell (by simp <;> omega)]; simp [go_sem]
  clear hb1'
  by_cases h200 : (200 : Int) < (l.length : Int)
  · have h200' : decide ((200 : Int) < (l.length : Int)) = true := by simpa using h200
    go_wp2_with fail
    refine (lnAwake_calls _).mono ?_
    rintro e w2 ⟨rfl, hb2⟩
    go_wp2_with fail
    go_ret
    exact ⟨rfl, below_trans hb1 hb2⟩
  have h200' : decide ((200 : Int) < (l.length : Int)) = false := by simpa using h200
  go_wp2_with fail
  refine (LinesNew_calls s0 s1 _).mono ?_
  rintro e w2 ⟨p, F1, rfl, hp, hF1, hb2⟩
  go_wp2_with fail
  refine (RefNew_calls s0 s1 _).mono ?_
  rintro e w3 ⟨m, G1, rfl, hm, hG1, hb3⟩
  have T1 : Two w1 w3 p (Lines.new s0 s1) F1 m (Lines.new s0 s1) G1 := ⟨⟨hp.below hb3, hF1, below_trans hb2 hb3⟩, hm, fun j hj => Nat.le_trans hb2.size (hG1 j hj), fun j hf hg => by have := hp.lt hf; have := hG1 j hg; omega⟩
  go_wp2_with fail
  have AA := Lib.hid (And.intro ask0 ask1)
  have HT1 := Lib.hid T1
  have B1 := Lib.hid hb1
  clear ask0 ask1 T1 hp hm hF1 hG1 hb2 hb3 hb1
  go_loopg [40] l.length (fun g i wx => ∃ (wr : World) (k : Nat) (s : Lines) (F G : Nat → Prop), wx = wr ∧ k ≤ l.length ∧ g = l.length - k ∧ i = .int .i64 k ∧ Two w1 wr p s F m s G)
  case atStart => exact ⟨_, 0, _, F1, G1, rfl, Nat.zero_le _, rfl, rfl, HT1.out⟩
  case round =>
    obtain ⟨wr, k, s, F, G, rfl, hk, rfl, rfl, hT⟩ := hrel
    have HT := Lib.hid hT
    have sr := hT.prog.below.size
    have HF0 := Lib.hid (fun j (hj : F j) => hT.prog.here.lt hj)
    have HG0 := Lib.hid (fun j (hj : G j) => hT.ref.lt hj)
    clear hT HT1
    by_cases hlt : k < l.length
    · obtain ⟨q, off, rfl, hrows⟩ := H3.out (by omega)
      have hrow := act08At hrows (below_trans B1.out HT.out.prog.below) hlt
      obtain ⟨⟨kd, b⟩, hd⟩ : ∃ d, d = l[k] := ⟨_, rfl⟩
      rw [← hd] at hrow
      obtain ⟨c0, c1⟩ := Act08.range hrow
      clear hd hrow hrows
      go_upto_block 2 with fail
      go_cut [13] (fun s13 wx => s13 = .bool true ∧ ∃ F' G', Two w1 wx p (Act08.on ⟨kd, b⟩ s) F' m (Act08.on ⟨kd, b⟩ s) G')
      case first =>
        by_cases q1 : kd = 1
        · subst q1
          go_wp2_with fail
          go_region_held3 (fun W => W.cell? ⟨wr.heap.size, 1, none⟩ = some (.int .i64 b)) (first | go_keep | exact cb') (first
            | (go_at_call 10; refine (Add_calls b (HT.out.same (Chg.below (by repeat (first | with_reducible exact Chg.refl _ _ | with_reducible exact chg0 | with_reducible refine Chg.drewN ?_ _ | with_reducible refine Chg.drew ?_ | with_reducible refine Chg.alloc ?_ _ | with_reducible refine Chg.setCell ?_ _ _ (by first | (simp; done) | omega | (simp; omega)) | with_reducible refine Chg.setBlock ?_ _ _ (by first | (simp; done) | omega | (simp; omega)) | exact Chg.refl _ _)))).prog.here).mono ?_; rintro e w' ⟨rfl, F', hh', mm'⟩; (try (have cb' := mm'.chg.cell (a := ⟨wr.heap.size, 1, none⟩) (v := .int .i64 b) (by first | exact cb' | simp [go_sem]) (fun hf => absurd (HF0.out _ hf) (Nat.lt_irrefl _)))); replace HT := Lib.hid ((HT.out.same (Chg.below (by repeat (first | with_reducible exact Chg.refl _ _ | with_reducible exact chg0 | with_reducible refine Chg.drewN ?_ _ | with_reducible refine Chg.drew ?_ | with_reducible refine Chg.alloc ?_ _ | with_reducible refine Chg.setCell ?_ _ _ (by first | (simp; done) | omega | (simp; omega)) | with_reducible refine Chg.setBlock ?_ _ _ (by first | (simp; done) | omega | (simp; omega)) | exact Chg.refl _ _)))).toProg hh' mm'))
            | (go_at_call 11; refine (RefAdd_calls b (HT.out.same (Chg.below (by repeat (first | with_reducible exact Chg.refl _ _ | with_reducible exact chg0 | with_reducible refine Chg.drewN ?_ _ | with_reducible refine Chg.drew ?_ | with_reducible refine Chg.alloc ?_ _ | with_reducible refine Chg.setCell ?_ _ _ (by first | (simp; done) | omega | (simp; omega)) | with_reducible refine Chg.setBlock ?_ _ _ (by first | (simp; done) | omega | (simp; omega)) | exact Chg.refl _ _)))).ref (HT.out.same (Chg.below (by repeat (first | with_reducible exact Chg.refl _ _ | with_reducible exact chg0 | with_reducible refine Chg.drewN ?_ _ | with_reducible refine Chg.drew ?_ | with_reducible refine Chg.alloc ?_ _ | with_reducible refine Chg.setCell ?_ _ _ (by first | (simp; done) | omega | (simp; omega)) | with_reducible refine Chg.setBlock ?_ _ _ (by first | (simp; done) | omega | (simp; omega)) | exact Chg.refl _ _)))).len).mono ?_; rintro e w' ⟨rfl, F', hh', mm'⟩; (try (have cb' := mm'.chg.cell (a := ⟨wr.heap.size, 1, none⟩) (v := .int .i64 b) (by first | exact cb' | simp [go_sem]) (fun hf => absurd (HG0.out _ hf) (Nat.lt_irrefl _)))); replace HT := Lib.hid ((HT.out.same (Chg.below (by repeat (first | with_reducible exact Chg.refl _ _ | with_reducible exact chg0 | with_reducible refine Chg.drewN ?_ _ | with_reducible refine Chg.drew ?_ | with_reducible refine Chg.alloc ?_ _ | with_reducible refine Chg.setCell ?_ _ _ (by first | (simp; done) | omega | (simp; omega)) | with_reducible refine Chg.setBlock ?_ _ _ (by first | (simp; done) | omega | (simp; omega)) | exact Chg.refl _ _)))).toRef hh' mm')))
          all_goals (go_wp2_with fail)
          all_goals go_meet
          all_goals exact ⟨by simp, _, _, by simpa [Act08.on] using HT.out⟩
        by_cases q2 : kd = 2
        · subst q2
          go_wp2_with fail
          go_region_held3 (fun W => W.cell? ⟨wr.heap.size, 1, none⟩ = some (.int .i64 b)) (first | go_keep | exact cb') (first
            | (go_at_call 12; refine (Use_calls b (HT.out.same (Chg.below (by repeat (first | with_reducible exact Chg.refl _ _ | with_reducible exact chg0 | with_reducible refine Chg.drewN ?_ _ | with_reducible refine Chg.drew ?_ | with_reducible refine Chg.alloc ?_ _ | with_reducible refine Chg.setCell ?_ _ _ (by first | (simp; done) | omega | (simp; omega)) | with_reducible refine Chg.setBlock ?_ _ _ (by first | (simp; done) | omega | (simp; omega)) | exact Chg.refl _ _)))).prog.here).mono ?_; rintro e w' ⟨rfl, F', hh', mm'⟩; (try (have cb' := mm'.chg.cell (a := ⟨wr.heap.size, 1, none⟩) (v := .int .i64 b) (by first | exact cb' | simp [go_sem]) (fun hf => absurd (HF0.out _ hf) (Nat.lt_irrefl _)))); replace HT := Lib.hid ((HT.out.same (Chg.below (by repeat (first | with_reducible exact Chg.refl _ _ | with_reducible exact chg0 | with_reducible refine Chg.drewN ?_ _ | with_reducible refine Chg.drew ?_ | with_reducible refine Chg.alloc ?_ _ | with_reducible refine Chg.setCell ?_ _ _ (by first | (simp; done) | omega | (simp; omega)) | with_reducible refine Chg.setBlock ?_ _ _ (by first | (simp; done) | omega | (simp; omega)) | exact Chg.refl _ _)))).toProg hh' mm'))
            | (go_at_call 13; refine (RefUse_calls b (HT.out.same (Chg.below (by repeat (first | with_reducible exact Chg.refl _ _ | with_reducible exact chg0 | with_reducible refine Chg.drewN ?_ _ | with_reducible refine Chg.drew ?_ | with_reducible refine Chg.alloc ?_ _ | with_reducible refine Chg.setCell ?_ _ _ (by first | (simp; done) | omega | (simp; omega)) | with_reducible refine Chg.setBlock ?_ _ _ (by first | (simp; done) | omega | (simp; omega)) | exact Chg.refl _ _)))).ref (HT.out.same (Chg.below (by repeat (first | with_reducible exact Chg.refl _ _ | with_reducible exact chg0 | with_reducible refine Chg.drewN ?_ _ | with_reducible refine Chg.drew ?_ | with_reducible refine Chg.alloc ?_ _ | with_reducible refine Chg.setCell ?_ _ _ (by first | (simp; done) | omega | (simp; omega)) | with_reducible refine Chg.setBlock ?_ _ _ (by first | (simp; done) | omega | (simp; omega)) | exact Chg.refl _ _)))).len).mono ?_; rintro e w' ⟨rfl, F', hh', mm'⟩; (try (have cb' := mm'.chg.cell (a := ⟨wr.heap.size, 1, none⟩) (v := .int .i64 b) (by first | exact cb' | simp [go_sem]) (fun hf => absurd (HG0.out _ hf) (Nat.lt_irrefl _)))); replace HT := Lib.hid ((HT.out.same (Chg.below (by repeat (first | with_reducible exact Chg.refl _ _ | with_reducible exact chg0 | with_reducible refine Chg.drewN ?_ _ | with_reducible refine Chg.drew ?_ | with_reducible refine Chg.alloc ?_ _ | with_reducible refine Chg.setCell ?_ _ _ (by first | (simp; done) | omega | (simp; omega)) | with_reducible refine Chg.setBlock ?_ _ _ (by first | (simp; done) | omega | (simp; omega)) | exact Chg.refl _ _)))).toRef hh' mm')))
          all_goals (go_wp2_with fail)
          all_goals go_meet
          all_goals exact ⟨by simp, _, _, by simpa [Act08.on] using HT.out⟩
        by_cases q3 : kd = 3
        · subst q3
          go_wp2_with fail
          go_region_held3 (fun W => W.cell? ⟨wr.heap.size, 1, none⟩ = some (.int .i64 b)) (first | go_keep | exact cb') (first
            | (go_at_call 14; refine (Remove_calls b (HT.out.same (Chg.below (by repeat (first | with_reducible exact Chg.refl _ _ | with_reducible exact chg0 | with_reducible refine Chg.drewN ?_ _ | with_reducible refine Chg.drew ?_ | with_reducible refine Chg.alloc ?_ _ | with_reducible refine Chg.setCell ?_ _ _ (by first | (simp; done) | omega | (simp; omega)) | with_reducible refine Chg.setBlock ?_ _ _ (by first | (simp; done) | omega | (simp; omega)) | exact Chg.refl _ _)))).prog.here).mono ?_; rintro e w' ⟨rfl, F', hh', mm'⟩; (try (have cb' := mm'.chg.cell (a := ⟨wr.heap.size, 1, none⟩) (v := .int .i64 b) (by first | exact cb' | simp [go_sem]) (fun hf => absurd (HF0.out _ hf) (Nat.lt_irrefl _)))); replace HT := Lib.hid ((HT.out.same (Chg.below (by repeat (first | with_reducible exact Chg.refl _ _ | with_reducible exact chg0 | with_reducible refine Chg.drewN ?_ _ | with_reducible refine Chg.drew ?_ | with_reducible refine Chg.alloc ?_ _ | with_reducible refine Chg.setCell ?_ _ _ (by first | (simp; done) | omega | (simp; omega)) | with_reducible refine Chg.setBlock ?_ _ _ (by first | (simp; done) | omega | (simp; omega)) | exact Chg.refl _ _)))).toProg hh' mm'))
            | (go_at_call 15; refine (RefRemove_calls b (HT.out.same (Chg.below (by repeat (first | with_reducible exact Chg.refl _ _ | with_reducible exact chg0 | with_reducible refine Chg.drewN ?_ _ | with_reducible refine Chg.drew ?_ | with_reducible refine Chg.alloc ?_ _ | with_reducible refine Chg.setCell ?_ _ _ (by first | (simp; done) | omega | (simp; omega)) | with_reducible refine Chg.setBlock ?_ _ _ (by first | (simp; done) | omega | (simp; omega)) | exact Chg.refl _ _)))).ref (HT.out.same (Chg.below (by repeat (first | with_reducible exact Chg.refl _ _ | with_reducible exact chg0 | with_reducible refine Chg.drewN ?_ _ | with_reducible refine Chg.drew ?_ | with_reducible refine Chg.alloc ?_ _ | with_reducible refine Chg.setCell ?_ _ _ (by first | (simp; done) | omega | (simp; omega)) | with_reducible refine Chg.setBlock ?_ _ _ (by first | (simp; done) | omega | (simp; omega)) | exact Chg.refl _ _)))).len).mono ?_; rintro e w' ⟨rfl, F', hh', mm'⟩; (try (have cb' := mm'.chg.cell (a := ⟨wr.heap.size, 1, none⟩) (v := .int .i64 b) (by first | exact cb' | simp [go_sem]) (fun hf => absurd (HG0.out _ hf) (Nat.lt_irrefl _)))); replace HT := Lib.hid ((HT.out.same (Chg.below (by repeat (first | with_reducible exact Chg.refl _ _ | with_reducible exact chg0 | with_reducible refine Chg.drewN ?_ _ | with_reducible refine Chg.drew ?_ | with_reducible refine Chg.alloc ?_ _ | with_reducible refine Chg.setCell ?_ _ _ (by first | (simp; done) | omega | (simp; omega)) | with_reducible refine Chg.setBlock ?_ _ _ (by first | (simp; done) | omega | (simp; omega)) | exact Chg.refl _ _)))).toRef hh' mm')))
          all_goals (go_wp2_with fail)
          all_goals go_meet
          all_goals exact ⟨by simp, _, _, by simpa [Act08.on] using HT.out⟩
        go_wp2_with fail
        go_meet
        exact ⟨rfl, F, G, by rw [Act08.on, if_neg q1, if_neg q2, if_neg q3]; exact HT.out.same (Chg.below (by repeat (first | with_reducible exact Chg.refl _ _ | with_reducible exact chg0 | with_reducible refine Chg.drewN ?_ _ | with_reducible refine Chg.drew ?_ | with_reducible refine Chg.alloc ?_ _ | with_reducible refine Chg.setCell ?_ _ _ (by first | (simp; done) | omega | (simp; omega)) | with_reducible refine Chg.setBlock ?_ _ _ (by first | (simp; done) | omega | (simp; omega)) | exact Chg.refl _ _)))⟩
      case rest =>
        obtain ⟨rfl, F', G', hT⟩ := hcut
        replace HT := Lib.hid hT
        clear hT
        generalize Act08.on ⟨kd, b⟩ s = t at *
        have ask0 : wc.cell? ⟨w.heap.size + 1, 0, none⟩ = some (.int .i64 a0) := by rw [HT.out.prog.below.cell (by simp; omega)]; exact AA.out.1
        have ask1 : wc.cell? ⟨w.heap.size + 1, 1, none⟩ = some (.int .i64 a1) := by rw [HT.out.prog.below.cell (by simp; omega)]; exact AA.out.2
        have ltc : w.heap.size + 1 < wc.heap.size := World.block_lt_of_cell? wc _ ask0
        clear c0 c1
        go_wp2_with fail
        refine (Victim_calls a0 a1 HT.out.prog.here).mono ?_
        rintro e w5 ⟨rfl, n5, rfl⟩
        go_wp2_with fail
        refine (RefVictim_calls a0 a1 (HT.out.same (Chg.below (by repeat (first | with_reducible exact Chg.refl _ _ | with_reducible exact chg0 | with_reducible refine Chg.drewN ?_ _ | with_reducible refine Chg.drew ?_ | with_reducible refine Chg.alloc ?_ _ | with_reducible refine Chg.setCell ?_ _ _ (by first | (simp; done) | omega | (simp; omega)) | with_reducible refine Chg.setBlock ?_ _ _ (by first | (simp; done) | omega | (simp; omega)) | exact Chg.refl _ _)))).ref (HT.out.same (Chg.below (by repeat (first | with_reducible exact Chg.refl _ _ | with_reducible exact chg0 | with_reducible refine Chg.drewN ?_ _ | with_reducible refine Chg.drew ?_ | with_reducible refine Chg.alloc ?_ _ | with_reducible refine Chg.setCell ?_ _ _ (by first | (simp; done) | omega | (simp; omega)) | with_reducible refine Chg.setBlock ?_ _ _ (by first | (simp; done) | omega | (simp; omega)) | exact Chg.refl _ _)))).len).mono ?_
        rintro e w5 ⟨rfl, hb5⟩
        have ask5 : w5.cell? ⟨w.heap.size + 1, 0, none⟩ = some (.int .i64 a0) := by rw [hb5.cell (by simp [go_sem]; omega)]; simp [go_sem, ask0]
        have lt5 : w.heap.size + 1 < w5.heap.size := World.block_lt_of_cell? w5 _ ask5
        replace HT := Lib.hid ((HT.out.same (Chg.below (by repeat (first | with_reducible exact Chg.refl _ _ | with_reducible exact chg0 | with_reducible refine Chg.drewN ?_ _ | with_reducible refine Chg.drew ?_ | with_reducible refine Chg.alloc ?_ _ | with_reducible refine Chg.setCell ?_ _ _ (by first | (simp; done) | omega | (simp; omega)) | with_reducible refine Chg.setBlock ?_ _ _ (by first | (simp; done) | omega | (simp; omega)) | exact Chg.refl _ _)))).same hb5)
        clear ask0 ask1 hb5
        obtain ⟨x1, e1⟩ : ∃ x, x = (t.victim a0 a1).1 := ⟨_, rfl⟩
        obtain ⟨x2, e2⟩ : ∃ x, x = (t.victim a0 a1).2 := ⟨_, rfl⟩
        rw [← e1, ← e2]
        clear e1 e2
        obtain ⟨x3, e3⟩ : ∃ x, x = t.has a0 := ⟨_, rfl⟩
        have E3 := Lib.hid e3
        clear e3
        have b1 : (x1 != x1) = false := by simp
        have b2 : (x2 != x2) = false := by simp
        have b3 : (x3 != x3) = false := by simp
        have ltl := Lines.few HT.out.prog.here.ok
        go_wp2_with fail
        go_region_held3 (fun W => W.cell? ⟨w.heap.size + 1, 0, none⟩ = some (.int .i64 a0)) (first | go_keep | exact ask6) (first
          | (go_at_call 18; refine (Has_calls a0 (HT.out.same (Chg.below (by repeat (first | with_reducible exact Chg.refl _ _ | with_reducible exact chg0 | with_reducible refine Chg.drewN ?_ _ | with_reducible refine Chg.drew ?_ | with_reducible refine Chg.alloc ?_ _ | with_reducible refine Chg.setCell ?_ _ _ (by first | (simp; done) | omega | (simp; omega)) | with_reducible refine Chg.setBlock ?_ _ _ (by first | (simp; done) | omega | (simp; omega)) | exact Chg.refl _ _)))).prog.here).mono ?_; rintro e w' ⟨rfl, n, rfl⟩; rw [← E3.out])
          | (go_at_call 19; refine (RefHas_calls a0 (HT.out.same (Chg.below (by repeat (first | with_reducible exact Chg.refl _ _ | with_reducible exact chg0 | with_reducible refine Chg.drewN ?_ _ | with_reducible refine Chg.drew ?_ | with_reducible refine Chg.alloc ?_ _ | with_reducible refine Chg.setCell ?_ _ _ (by first | (simp; done) | omega | (simp; omega)) | with_reducible refine Chg.setBlock ?_ _ _ (by first | (simp; done) | omega | (simp; omega)) | exact Chg.refl _ _)))).ref).mono ?_; rintro e w' ⟨rfl, n, rfl⟩; rw [← E3.out])
          | (go_at_call 21; refine (List_calls (HT.out.same (Chg.below (by repeat (first | with_reducible exact Chg.refl _ _ | with_reducible exact chg0 | with_reducible refine Chg.drewN ?_ _ | with_reducible refine Chg.drew ?_ | with_reducible refine Chg.alloc ?_ _ | with_reducible refine Chg.setCell ?_ _ _ (by first | (simp; done) | omega | (simp; omega)) | with_reducible refine Chg.setBlock ?_ _ _ (by first | (simp; done) | omega | (simp; omega)) | exact Chg.refl _ _)))).prog.here).mono ?_; rintro e w6 ⟨u, rfl, hu, _, hb⟩; (try (replace HV := Lib.hid (HV.out.below (below_trans (Chg.below (by repeat (first | with_reducible exact Chg.refl _ _ | with_reducible exact chg0 | with_reducible refine Chg.drewN ?_ _ | with_reducible refine Chg.drew ?_ | with_reducible refine Chg.alloc ?_ _ | with_reducible refine Chg.setCell ?_ _ _ (by first | (simp; done) | omega | (simp; omega)) | with_reducible refine Chg.setBlock ?_ _ _ (by first | (simp; done) | omega | (simp; omega)) | exact Chg.refl _ _))) hb)))); replace HT := Lib.hid ((HT.out.same (Chg.below (by repeat (first | with_reducible exact Chg.refl _ _ | with_reducible exact chg0 | with_reducible refine Chg.drewN ?_ _ | with_reducible refine Chg.drew ?_ | with_reducible refine Chg.alloc ?_ _ | with_reducible refine Chg.setCell ?_ _ _ (by first | (simp; done) | omega | (simp; omega)) | with_reducible refine Chg.setBlock ?_ _ _ (by first | (simp; done) | omega | (simp; omega)) | exact Chg.refl _ _)))).same hb); have HU := Lib.hid hu.slice; have ask6 : w6.cell? ⟨w.heap.size + 1, 0, none⟩ = some (.int .i64 a0) := (by rw [HT.out.prog.below.cell (by simp; omega)]; exact AA.out.1))
          | (go_at_call 22; refine (RefList_calls (HT.out.same (Chg.below (by repeat (first | with_reducible exact Chg.refl _ _ | with_reducible exact chg0 | with_reducible refine Chg.drewN ?_ _ | with_reducible refine Chg.drew ?_ | with_reducible refine Chg.alloc ?_ _ | with_reducible refine Chg.setCell ?_ _ _ (by first | (simp; done) | omega | (simp; omega)) | with_reducible refine Chg.setBlock ?_ _ _ (by first | (simp; done) | omega | (simp; omega)) | exact Chg.refl _ _)))).ref (HT.out.same (Chg.below (by repeat (first | with_reducible exact Chg.refl _ _ | with_reducible exact chg0 | with_reducible refine Chg.drewN ?_ _ | with_reducible refine Chg.drew ?_ | with_reducible refine Chg.alloc ?_ _ | with_reducible refine Chg.setCell ?_ _ _ (by first | (simp; done) | omega | (simp; omega)) | with_reducible refine Chg.setBlock ?_ _ _ (by first | (simp; done) | omega | (simp; omega)) | exact Chg.refl _ _)))).len).mono ?_; rintro e w6 ⟨u, rfl, hv, _, hb⟩; (try (replace HU := Lib.hid (HU.out.below (below_trans (Chg.below (by repeat (first | with_reducible exact Chg.refl _ _ | with_reducible exact chg0 | with_reducible refine Chg.drewN ?_ _ | with_reducible refine Chg.drew ?_ | with_reducible refine Chg.alloc ?_ _ | with_reducible refine Chg.setCell ?_ _ _ (by first | (simp; done) | omega | (simp; omega)) | with_reducible refine Chg.setBlock ?_ _ _ (by first | (simp; done) | omega | (simp; omega)) | exact Chg.refl _ _))) hb)))); replace HT := Lib.hid ((HT.out.same (Chg.below (by repeat (first | with_reducible exact Chg.refl _ _ | with_reducible exact chg0 | with_reducible refine Chg.drewN ?_ _ | with_reducible refine Chg.drew ?_ | with_reducible refine Chg.alloc ?_ _ | with_reducible refine Chg.setCell ?_ _ _ (by first | (simp; done) | omega | (simp; omega)) | with_reducible refine Chg.setBlock ?_ _ _ (by first | (simp; done) | omega | (simp; omega)) | exact Chg.refl _ _)))).same hb); have HV := Lib.hid hv.slice; have ask6 : w6.cell? ⟨w.heap.size + 1, 0, none⟩ = some (.int .i64 a0) := (by rw [HT.out.prog.below.cell (by simp; omega)]; exact AA.out.1))
          | (go_at_call 20; refine (Ints_calls t.list t.list _ _ _ (HU.out.below (Chg.below (by repeat (first | with_reducible exact Chg.refl _ _ | with_reducible exact chg0 | with_reducible refine Chg.drewN ?_ _ | with_reducible refine Chg.drew ?_ | with_reducible refine Chg.alloc ?_ _ | with_reducible refine Chg.setCell ?_ _ _ (by first | (simp; done) | omega | (simp; omega)) | with_reducible refine Chg.setBlock ?_ _ _ (by first | (simp; done) | omega | (simp; omega)) | exact Chg.refl _ _)))) (HV.out.below (Chg.below (by repeat (first | with_reducible exact Chg.refl _ _ | with_reducible exact chg0 | with_reducible refine Chg.drewN ?_ _ | with_reducible refine Chg.drew ?_ | with_reducible refine Chg.alloc ?_ _ | with_reducible refine Chg.setCell ?_ _ _ (by first | (simp; done) | omega | (simp; omega)) | with_reducible refine Chg.setBlock ?_ _ _ (by first | (simp; done) | omega | (simp; omega)) | exact Chg.refl _ _))))).mono ?_; rintro e w' ⟨rfl, n, rfl⟩; rw [show decide (t.list = t.list) = true from decide_eq_true rfl]))
        all_goals (go_wp2_with fail)
        all_goals go_roundg (l.length - (k + 1))
        case rel => exact ⟨_, k + 1, t, F', G', rfl, by omega, rfl, by go_num, HT.out.same (Chg.below (by repeat (first | with_reducible exact Chg.refl _ _ | with_reducible exact chg0 | with_reducible refine Chg.drewN ?_ _ | with_reducible refine Chg.drew ?_ | with_reducible refine Chg.alloc ?_ _ | with_reducible refine Chg.setCell ?_ _ _ (by first | (simp; done) | omega | (simp; omega)) | with_reducible refine Chg.setBlock ?_ _ _ (by first | (simp; done) | omega | (simp; omega)) | exact Chg.refl _ _)))⟩
        case measure => omega
    · go_wp2_with fail
      go_ret
      exact ⟨rfl, below_trans B1.out HT.out.prog.below⟩

set_option maxRecDepth 100000 in
theorem linesPlays_lifted (os : Os) (started : os.Started) (H : Type) (enc : TypeId × Value → H) :
    ReturnsInHanded {} Try.checked os 3 .any (Rows.linesPlaysSpec.pre6 enc Try.prog Try.f3 Rows.linesPlaysRow.domain false) (Rows.linesPlaysSpec.post enc Try.prog Try.f3 false true false false) := by
  refine returnsInHanded_of_change (C := Try.checked) law_own started (by kernel_rfl) Try.func3
    (ChangeSpec.witness6 (enc := enc) (C := Try.checked) false ⟨#[], #[.agg #[.int .i64 0, .int .i64 0], .slice none 0 0, .agg #[.int .i64 0, .int .i64 0]], []⟩ 8 (by kernel_rfl) (by kernel_rfl) (by kernel_rfl) (by kernel_rfl)) ?_
  intro W base args ds gs before hval0 hW hcnd _
  have hval : ∀ (j : Nat) t v, Try.f3.params[j]? = some t → args[j]? = some v → Value.okWide Try.prog W .any base t v := hval0
  have hW' := hW
  obtain ⟨p, q, hA0, hV, rfl, hfz, hnd⟩ := hW
  have hA : DataW.TrodAll enc Try.prog W 0 (fun _ => true) true Try.f3.params.toList args.toList ds p := hA0
  rw [Try.params3] at hA hval
  obtain ⟨v0, vs0, d0, ds0, p0, q0, hargs, rfl, rfl, h0, r0⟩ := trodAll_cons hA
  obtain ⟨v1, vs1, d1, ds1, p1, q1, rfl, rfl, rfl, h1, r1⟩ := trodAll_cons r0
  obtain ⟨v2, vs2, d2, ds2, p2, q2, rfl, rfl, rfl, h2, r2⟩ := trodAll_cons r1
  obtain ⟨rfl, rfl, rfl⟩ := trodAll_nil r2
  obtain rfl : args = #[v0, v1, v2] := by cases args; simp_all
  obtain ⟨rfl, rfl⟩ := trodVars_none hV
  have k0 := h0
  have lt0 : ∀ x ∈ p0, x.block < W.heap.size := by obtain ⟨m, hm⟩ := k0; exact DataW.trod_lt m _ _ _ hm
  obtain ⟨f0, g0⟩ := h0
  obtain ⟨cs0, rfl, _⟩ := okWide_array Try.underlying22 (hval 0 22 v0 rfl rfl)
  obtain ⟨x0, e0, o0⟩ := Pair.of_trod g0
  obtain rfl : cs0 = x0.cells.toArray := by simp only [Value.cells] at e0; rw [← e0]
  have k1 := h1
  have lt1 : ∀ x ∈ p1, x.block < W.heap.size := by obtain ⟨m, hm⟩ := k1; exact DataW.trod_lt m _ _ _ hm
  obtain ⟨f1, g1⟩ := h1
  obtain ⟨l1, s1, o1⟩ := slice_of_trod (sz := 2) (cells := Act08.cells) (ok := Act08.ok) Try.underlying23 (by kernel_rfl) (by decide) (fun _ => rfl) Act08.of_trod g1 (okWide_slice Try.underlying23 (hval 1 23 v1 rfl rfl))
  have k2 := h2
  have lt2 : ∀ x ∈ p2, x.block < W.heap.size := by obtain ⟨m, hm⟩ := k2; exact DataW.trod_lt m _ _ _ hm
  obtain ⟨f2, g2⟩ := h2
  obtain ⟨cs2, rfl, _⟩ := okWide_array Try.underlying22 (hval 2 22 v2 rfl rfl)
  obtain ⟨x2, e2, o2⟩ := Pair.of_trod g2
  obtain rfl : cs2 = x2.cells.toArray := by simp only [Value.cells] at e2; rw [← e2]
  clear hA0 hval0
  refine (linesPlays_walk x0 o0 l1 v1 W s1 o1 x2 o2).mono fun e W' ⟨he, bel⟩ => ?_
  subst he
  exact ⟨_, rfl, _, _, _, [], _, [], hW', trodAll_mk1 (shut_bool Try.underlying4 _), (trodAll_cons_mk (Below.trod law_laidOut (by kernel_rfl) (of_decide_eq_true (by kernel_rfl)) k0 bel lt0) (trodAll_cons_mk (Below.trod law_laidOut (by kernel_rfl) (of_decide_eq_true (by kernel_rfl)) k1 bel lt1) (trodAll_cons_mk (Below.trod law_laidOut (by kernel_rfl) (of_decide_eq_true (by kernel_rfl)) k2 bel lt2) trodAll_mk0))), rfl, bel.frame _, fun h => by cases h⟩

theorem linesPlays_holds : Rows.LinesPlaysSaid :=
  OpenClaim.holds_of_wide 3 Try.f3 rfl rfl rfl rfl rfl rfl rfl ⟨rfl, rfl, rfl, rfl, rfl⟩ rfl rfl rfl rfl rfl (by kernel_rfl) Try.func3 (by kernel_rfl)
    (of_decide_eq_true (by kernel_rfl)) (by unfold Func.isWrapper; first | (rw [if_pos (by decide +kernel)]; kernel_rfl) | (rw [if_neg (by decide +kernel)]; exact ⟨rfl, rfl⟩))
    (fun os started H enc _ => linesPlays_lifted os started H enc)
end Go.Proofs.Ytamidchoghmmgaa
