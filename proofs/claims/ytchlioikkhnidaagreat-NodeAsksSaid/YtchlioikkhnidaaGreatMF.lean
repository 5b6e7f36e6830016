/-
  Tokens: what the calls of bundle and perm come to, and the document's.
-/
import Derived.Test.YtchlioikkhnidaaGreatMA
import Derived.Test.YtchlioikkhnidaaGreatMB
import Derived.Test.YtchlioikkhnidaaGreatME
import Derived.BigRegion
import Derived.Deep.RegionLaw
set_option linter.unusedVariables false
set_option linter.unusedSimpArgs false
namespace Go.Proofs.YtchlioikkhnidaaGreat
open Go.RowKit Go.Sort Go.ChangeShapes Go.WideShapes Go.ChangeAt
open Go.ChangeMaps (setBlock)
set_option linter.unusedVariables false
set_option linter.unusedSimpArgs false

/-- What a call of plain data leaves: blocks of its own alone. -/
def Pure (w : World) (v : Value) : Ending → World → Prop := fun e w' => e = .returned v ∧ Below w.heap.size w w'
theorem pure_of {w w' : World} {v v' : Value} (h : v = v') (hc : Chg (fun _ => False) w w') : Pure w v' (.returned v) w' := ⟨by rw [h], hc.below⟩

set_option maxHeartbeats 1000000 in
theorem valued_calls (n : Int) (o h : Bool) (d : Int) (w : World) : Calls Tryz.prog 150 #[.int .i64 n, .bool o, .bool h, .int .i64 d] w (Pure w (Bundle.valued n o h d).val) := by
  cases h
  all_goals
    go_enter Tryz.func150, Tryz.ntmps150
    go_wp2_with fail
    (try simp only [Exit.inBlock, Exit.then])
    refine bodyRet1 _ rfl rfl (ResIs.row Tryz.underlying42 rfl (by kernel_rfl) rfl (by simp [go_sem]; exact ⟨rfl, rfl, rfl⟩)) ?_
    exact pure_of rfl (by repeat (first | with_reducible exact Chg.refl _ _ | with_reducible exact chg0 | with_reducible refine Chg.drewN ?_ _ | with_reducible refine Chg.drew ?_ | with_reducible refine Chg.alloc ?_ _ | with_reducible refine Chg.setCell ?_ _ _ (by first | (simp; done) | omega | (simp; omega)) | with_reducible refine Chg.setBlock ?_ _ _ (by first | (simp; done) | omega | (simp; omega)) | exact Chg.refl _ _))

set_option maxHeartbeats 1000000 in
theorem Join_calls (h b : Bundle) (w : World) (g : h.Good) (h1 : h.count ≤ 1000000000000) (h2 : b.count ≤ 1000000000000) (h3 : 0 ≤ b.count) :
    Calls Tryz.prog 128 #[h.val, b.val] w (Pure w (h.join b).val) := by
  have hpos := g.pos
  have hdat := Lib.hid g.data
  obtain ⟨hc, ho, hh, hd⟩ := h
  obtain ⟨bc, bo, bh, bd⟩ := b
  simp only at h1 h2 h3 hpos
  have e1 : IntKind.i64.wrap (hc + bc) = hc + bc := by rw [IntKind.wrap_i64]; omega
  simp only [Bundle.val, Bundle.cells]
  cases ho <;> cases hh <;> cases bo <;> cases bh
  all_goals
    go_enter Tryz.func128, Tryz.ntmps128
    go_wp2_with fail
    refine (valued_calls _ _ _ _ _).mono ?_
    rintro e w' ⟨rfl, hb⟩
    simp only [Bundle.val, Bundle.cells]
    have obr : ob w' (w.heap.size + 1 + 1) = some (.cells #[.int .i64 0, .bool false, .bool false, .int .i64 0] 42 (0, 0)) := (Chg.of_below (S := fun _ => False) hb).ob (by simp [go_sem]) (fun h => h)
    obtain ⟨u0, u1, u2, u3, ufr⟩ := ob_cells4 obr
    have chg0 : Chg (fun _ => False) w w' := Chg.of_below (below_trans (Chg.below (by repeat (first | with_reducible exact Chg.refl _ _ | with_reducible exact chg0 | with_reducible refine Chg.drewN ?_ _ | with_reducible refine Chg.drew ?_ | with_reducible refine Chg.alloc ?_ _ | with_reducible refine Chg.setCell ?_ _ _ (by first | (simp; done) | omega | (simp; omega)) | with_reducible refine Chg.setBlock ?_ _ _ (by first | (simp; done) | omega | (simp; omega)) | exact Chg.refl _ _))) hb)
    clear hb
    go_wp2_with fail
    (try simp only [Exit.inBlock, Exit.then])
    refine bodyRet1 _ rfl rfl (ResIs.row Tryz.underlying42 rfl (by kernel_rfl) rfl (by simp [go_sem, obr]; exact ⟨rfl, rfl, rfl⟩)) ?_
    refine pure_of ?_ (by repeat (first | with_reducible exact Chg.refl _ _ | with_reducible exact chg0 | with_reducible refine Chg.drewN ?_ _ | with_reducible refine Chg.drew ?_ | with_reducible refine Chg.alloc ?_ _ | with_reducible refine Chg.setCell ?_ _ _ (by first | (simp; done) | omega | (simp; omega)) | with_reducible refine Chg.setBlock ?_ _ _ (by first | (simp; done) | omega | (simp; omega)) | exact Chg.refl _ _))
    simp [Bundle.valued, Bundle.join, Bundle.val, Bundle.cells]
    try exact (hdat.out trivial).symm

set_option maxHeartbeats 1000000 in
theorem RefCheck_calls (b : Bundle) (tokens : Int) (w : World) : Calls Tryz.prog 44 #[b.val, .int .i64 tokens] w (Pure w (.int .i64 (b.check tokens))) := by
  obtain ⟨bc, bo, bh, bd⟩ := b
  simp only [Bundle.val, Bundle.cells]
  by_cases q1 : bc < 0
  · have q1' : decide (bc < 0) = true := by simpa using q1
    go_enter Tryz.func44, Tryz.ntmps44
    go_wp2_with fail
    go_ret
    exact pure_of (by simp [Bundle.check, q1]) (by repeat (first | with_reducible exact Chg.refl _ _ | with_reducible exact chg0 | with_reducible refine Chg.drewN ?_ _ | with_reducible refine Chg.drew ?_ | with_reducible refine Chg.alloc ?_ _ | with_reducible refine Chg.setCell ?_ _ _ (by first | (simp; done) | omega | (simp; omega)) | with_reducible refine Chg.setBlock ?_ _ _ (by first | (simp; done) | omega | (simp; omega)) | exact Chg.refl _ _))
  have q1' : decide (bc < 0) = false := by simpa using q1
  by_cases q2 : tokens < bc
  · have q2' : decide (tokens < bc) = true := by simpa using q2
    go_enter Tryz.func44, Tryz.ntmps44
    go_wp2_with fail
    go_ret
    exact pure_of (by simp [Bundle.check, q2]) (by repeat (first | with_reducible exact Chg.refl _ _ | with_reducible exact chg0 | with_reducible refine Chg.drewN ?_ _ | with_reducible refine Chg.drew ?_ | with_reducible refine Chg.alloc ?_ _ | with_reducible refine Chg.setCell ?_ _ _ (by first | (simp; done) | omega | (simp; omega)) | with_reducible refine Chg.setBlock ?_ _ _ (by first | (simp; done) | omega | (simp; omega)) | exact Chg.refl _ _))
  have q2' : decide (tokens < bc) = false := by simpa using q2
  by_cases q3 : bc = 0
  · subst q3
    cases bo <;> cases bh
    all_goals
      by_cases q4 : bd = 0
      · have q4' : (bd != 0) = false := by simpa using q4
        have Q4 := Lib.hid q4
        clear q4
        go_enter Tryz.func44, Tryz.ntmps44
        go_wp2_with fail
        go_ret
        exact pure_of (by simp [Bundle.check, q2, Q4.out]) (by repeat (first | with_reducible exact Chg.refl _ _ | with_reducible exact chg0 | with_reducible refine Chg.drewN ?_ _ | with_reducible refine Chg.drew ?_ | with_reducible refine Chg.alloc ?_ _ | with_reducible refine Chg.setCell ?_ _ _ (by first | (simp; done) | omega | (simp; omega)) | with_reducible refine Chg.setBlock ?_ _ _ (by first | (simp; done) | omega | (simp; omega)) | exact Chg.refl _ _))
      · have q4' : (bd != 0) = true := by simpa using q4
        go_enter Tryz.func44, Tryz.ntmps44
        go_wp2_with fail
        go_ret
        exact pure_of (by simp [Bundle.check, q2, q4]) (by repeat (first | with_reducible exact Chg.refl _ _ | with_reducible exact chg0 | with_reducible refine Chg.drewN ?_ _ | with_reducible refine Chg.drew ?_ | with_reducible refine Chg.alloc ?_ _ | with_reducible refine Chg.setCell ?_ _ _ (by first | (simp; done) | omega | (simp; omega)) | with_reducible refine Chg.setBlock ?_ _ _ (by first | (simp; done) | omega | (simp; omega)) | exact Chg.refl _ _))
  · have q3' : (bc == 0) = false := by simpa using q3
    cases bo <;> cases bh
    all_goals
      by_cases q4 : bd = 0
      · have q4' : (bd != 0) = false := by simpa using q4
        have Q4 := Lib.hid q4
        clear q4
        go_enter Tryz.func44, Tryz.ntmps44
        go_wp2_with fail
        go_ret
        exact pure_of (by simp [Bundle.check, q1, q2, q3, Q4.out]) (by repeat (first | with_reducible exact Chg.refl _ _ | with_reducible exact chg0 | with_reducible refine Chg.drewN ?_ _ | with_reducible refine Chg.drew ?_ | with_reducible refine Chg.alloc ?_ _ | with_reducible refine Chg.setCell ?_ _ _ (by first | (simp; done) | omega | (simp; omega)) | with_reducible refine Chg.setBlock ?_ _ _ (by first | (simp; done) | omega | (simp; omega)) | exact Chg.refl _ _))
      · have q4' : (bd != 0) = true := by simpa using q4
        go_enter Tryz.func44, Tryz.ntmps44
        go_wp2_with fail
        go_ret
        exact pure_of (by simp [Bundle.check, q1, q2, q3, q4]) (by repeat (first | with_reducible exact Chg.refl _ _ | with_reducible exact chg0 | with_reducible refine Chg.drewN ?_ _ | with_reducible refine Chg.drew ?_ | with_reducible refine Chg.alloc ?_ _ | with_reducible refine Chg.setCell ?_ _ _ (by first | (simp; done) | omega | (simp; omega)) | with_reducible refine Chg.setBlock ?_ _ _ (by first | (simp; done) | omega | (simp; omega)) | exact Chg.refl _ _))


set_option maxHeartbeats 1000000 in
theorem Reads_calls (h : Bundle) (w : World) : Calls Tryz.prog 148 #[h.val] w (Pure w (.bool (decide (1 ≤ h.count) && h.has))) := by
  obtain ⟨hc, ho, hh, hd⟩ := h
  simp only [Bundle.val, Bundle.cells]
  go_enter Tryz.func148, Tryz.ntmps148
  go_wp2_with fail
  all_goals
    go_ret
    refine pure_of ?_ (by repeat (first | with_reducible exact Chg.refl _ _ | with_reducible exact chg0 | with_reducible refine Chg.drewN ?_ _ | with_reducible refine Chg.drew ?_ | with_reducible refine Chg.alloc ?_ _ | with_reducible refine Chg.setCell ?_ _ _ (by first | (simp; done) | omega | (simp; omega)) | with_reducible refine Chg.setBlock ?_ _ _ (by first | (simp; done) | omega | (simp; omega)) | exact Chg.refl _ _))
    simp_all <;> omega
set_option maxHeartbeats 1000000 in
theorem Writes_calls (h : Bundle) (tokens : Int) (w : World) : Calls Tryz.prog 147 #[h.val, .int .i64 tokens] w (Pure w (.bool ((decide (1 ≤ h.count) && h.has) && decide (h.count = tokens)))) := by
  simp only [Bundle.val, Bundle.cells]
  go_enter Tryz.func147, Tryz.ntmps147
  go_wp2_with fail
  refine (Reads_calls h _).mono ?_
  rintro e w' ⟨rfl, hb⟩
  have chg0 : Chg (fun _ => False) w w' := Chg.of_below (below_trans (Chg.below (by repeat (first | with_reducible exact Chg.refl _ _ | with_reducible exact chg0 | with_reducible refine Chg.drewN ?_ _ | with_reducible refine Chg.drew ?_ | with_reducible refine Chg.alloc ?_ _ | with_reducible refine Chg.setCell ?_ _ _ (by first | (simp; done) | omega | (simp; omega)) | with_reducible refine Chg.setBlock ?_ _ _ (by first | (simp; done) | omega | (simp; omega)) | exact Chg.refl _ _))) hb)
  obtain ⟨r, hr⟩ : ∃ r, r = (decide (1 ≤ h.count) && h.has) := ⟨_, rfl⟩
  have c0 : w'.cell? ⟨w.heap.size, 0, none⟩ = some (.int .i64 h.count) := by rw [hb.cell (by simp)]; simp [go_sem]
  rw [← hr]
  have HR := Lib.hid hr
  clear hr hb
  cases r
  all_goals
    go_wp2_with fail
    all_goals go_ret
    all_goals refine pure_of ?_ (by repeat (first | with_reducible exact Chg.refl _ _ | with_reducible exact chg0 | with_reducible refine Chg.drewN ?_ _ | with_reducible refine Chg.drew ?_ | with_reducible refine Chg.alloc ?_ _ | with_reducible refine Chg.setCell ?_ _ _ (by first | (simp; done) | omega | (simp; omega)) | with_reducible refine Chg.setBlock ?_ _ _ (by first | (simp; done) | omega | (simp; omega)) | exact Chg.refl _ _))
    all_goals rw [← HR.out]
    all_goals simp [beq_int]
end Go.Proofs.YtchlioikkhnidaaGreat

/-
  The program's cache: what it is in memory; New, Get, lose.
-/
namespace Go.Proofs.YtchlioikkhnidaaGreat
open Go.RowKit Go.Sort Go.ChangeShapes Go.WideShapes Go.ChangeAt
open Go.ChangeMaps (setBlock)
set_option linter.unusedVariables false
set_option linter.unusedSimpArgs false

theorem tyIB : MapTy Tryz.prog 170 3 42 Bundle.none.val := ⟨Tryz.underlying170, Tryz.underlying3, fun _ => by kernel_rfl⟩

structure CaRaw (w : World) (p lp tb : Nat) (o : Obj) (f : Int → Option Value) (s : Lines) (FL : Nat → Prop) : Prop where
  at_ : ob w p = some (.cells #[.pointer (some ⟨lp, 0, none⟩), .map (some tb)] 172 (0, 0))
  lines : LinesAt w lp s FL
  map : ob w tb = some o
  obj : MapObj o f
  ne1 : ¬ FL p
  ne2 : ¬ FL tb
theorem CaRaw.ne {w : World} {p lp tb : Nat} {o : Obj} {f : Int → Option Value} {s : Lines} {FL : Nat → Prop} (h : CaRaw w p lp tb o f s FL) : p ≠ tb := fun e => by
  have h1 := h.at_
  have h2 := h.map
  obtain ⟨_, _, e1, _⟩ := h.obj
  rw [e, h2, e1] at h1; cases h1
theorem CaRaw.chg {S : Nat → Prop} {w w' : World} {p lp tb : Nat} {o : Obj} {f : Int → Option Value} {s : Lines} {FL : Nat → Prop} (h : CaRaw w p lp tb o f s FL) (hc : Chg S w w') (hn : ∀ j, j = p ∨ j = tb ∨ FL j → ¬ S j) : CaRaw w' p lp tb o f s FL :=
  ⟨hc.ob h.at_ (hn _ (.inl rfl)), h.lines.chg hc fun j hj => hn j (.inr (.inr hj)), hc.ob h.map (hn _ (.inr (.inl rfl))), h.obj, h.ne1, h.ne2⟩
theorem CaRaw.below {w w' : World} {p lp tb : Nat} {o : Obj} {f : Int → Option Value} {s : Lines} {FL : Nat → Prop} (h : CaRaw w p lp tb o f s FL) (hc : Below w.heap.size w w') : CaRaw w' p lp tb o f s FL :=
  h.chg (S := fun _ => False) (Chg.of_below hc) fun _ _ h => h

def TokMap (t : Int → Bundle) (f : Int → Option Value) : Prop := ∀ k, f k = if 0 < (t k).count then some (t k).val else none
theorem TokMap.get {c : CacheM} {f : Int → Option Value} (h : TokMap c.tok f) (ok : c.Ok) (k : Int) : (f k).getD Bundle.none.val = (c.tok k).val := by
  rw [h k]
  split
  · rfl
  · rename_i hn
    have := (ok.good k).pos
    rw [Bundle.eq_none (ok.good k) (by omega)]; rfl
theorem TokMap.upd {t : Int → Bundle} {f : Int → Option Value} (h : TokMap t f) (k : Int) (b : Bundle) (hb : 0 < b.count) : TokMap (fun j => if j = k then b else t j) (upd f k b.val) := by
  intro j
  unfold YtchlioikkhnidaaGreat.upd
  by_cases e : j = k
  · subst e; simp [hb]
  · simp [e]; exact h j
theorem TokMap.del {t : Int → Bundle} {f : Int → Option Value} (h : TokMap t f) (k : Int) (b : Bundle) (hb : ¬ 0 < b.count) : TokMap (fun j => if j = k then b else t j) (del f k) := by
  intro j
  unfold YtchlioikkhnidaaGreat.del
  by_cases e : j = k
  · subst e; simp [hb]
  · simp [e]; exact h j

/-- A cache of the program, at p; F: its blocks. -/
def CacheAt (w : World) (p : Nat) (c : CacheM) (F : Nat → Prop) : Prop :=
  ∃ lp tb o f FL, CaRaw w p lp tb o f c.lines FL ∧ TokMap c.tok f ∧ c.Ok ∧ (∀ j, j = p ∨ j = tb ∨ FL j → F j) ∧ ∀ j, F j → j < w.heap.size
theorem CacheAt.ok {w : World} {p : Nat} {c : CacheM} {F : Nat → Prop} (h : CacheAt w p c F) : c.Ok := by obtain ⟨_, _, _, _, _, _, _, h, _⟩ := h; exact h
theorem CacheAt.lt {w : World} {p : Nat} {c : CacheM} {F : Nat → Prop} (h : CacheAt w p c F) {j : Nat} (hj : F j) : j < w.heap.size := by obtain ⟨_, _, _, _, _, _, _, _, _, h⟩ := h; exact h j hj
theorem CacheAt.chg {S : Nat → Prop} {w w' : World} {p : Nat} {c : CacheM} {F : Nat → Prop} (h : CacheAt w p c F) (hc : Chg S w w') (hn : ∀ j, F j → ¬ S j) : CacheAt w' p c F := by
  obtain ⟨lp, tb, o, f, FL, h1, h2, h3, h4, h5⟩ := h
  exact ⟨lp, tb, o, f, FL, h1.chg hc fun j hj => hn j (h4 j hj), h2, h3, h4, fun j hj => Nat.lt_of_lt_of_le (h5 j hj) hc.size⟩
theorem CacheAt.below {w w' : World} {p : Nat} {c : CacheM} {F : Nat → Prop} (h : CacheAt w p c F) (hb : Below w.heap.size w w') : CacheAt w' p c F :=
  h.chg (S := fun _ => False) (Chg.of_below hb) fun _ _ h => h

/-- On the way through a call: what stands at the world at hand, and what has turned since w. -/
structure CaGo (w w' : World) (p lp tb : Nat) (f : Int → Option Value) (s : Lines) (FL0 FL : Nat → Prop) : Prop where
  raw : ∃ o, CaRaw w' p lp tb o f s FL
  chg : Chg (fun j => j = tb ∨ FL0 j) w w'
  fresh : ∀ j, FL j → FL0 j ∨ w.heap.size ≤ j
section
variable {w w' w'' : World} {p lp tb : Nat} {o : Obj} {f f' : Int → Option Value} {s s' : Lines} {FL0 FL FL' : Nat → Prop}
theorem CaGo.start (h : CaRaw w p lp tb o f s FL) : CaGo w w p lp tb f s FL FL := ⟨⟨o, h⟩, Chg.refl _ _, fun _ h => .inl h⟩
theorem CaGo.same (h : CaGo w w' p lp tb f s FL0 FL) (hb : Below w'.heap.size w' w'') : CaGo w w'' p lp tb f s FL0 FL := by
  obtain ⟨⟨o, h1⟩, h2, h3⟩ := h
  exact ⟨⟨o, h1.below hb⟩, h2.trans (S' := fun _ => False) (Chg.of_below hb) (fun _ _ h => h.elim), h3⟩
theorem CaGo.line (h : CaGo w w' p lp tb f s FL0 FL) (h1 : LinesAt w'' lp s' FL') (mv : Moves w' w'' FL FL') : CaGo w w'' p lp tb f s' FL0 FL' := by
  obtain ⟨⟨o, r⟩, h2, h3⟩ := h
  have lp' := ob_lt r.at_
  have lt' := ob_lt r.map
  refine ⟨⟨o, mv.chg.ob r.at_ r.ne1, h1, mv.chg.ob r.map r.ne2, r.obj, fun hj => ?_, fun hj => ?_⟩, h2.trans mv.chg fun j hj hf => ?_, fun j hj => ?_⟩
  · rcases mv.fresh _ hj with h | h
    · exact r.ne1 h
    · omega
  · rcases mv.fresh _ hj with h | h
    · exact r.ne2 h
    · omega
  · rcases h3 j hf with h | h
    · exact .inr h
    · omega
  · rcases mv.fresh j hj with h | h
    · exact h3 j h
    · exact .inr (Nat.le_trans h2.size h)
theorem CaGo.put (h : CaGo w w' p lp tb f s FL0 FL) (ho : MapObj o f') : CaGo w (setBlock w' tb o) p lp tb f' s FL0 FL := by
  obtain ⟨⟨o0, r⟩, h2, h3⟩ := h
  have hc : Chg (fun j => j = tb) w' (setBlock w' tb o) := (Chg.refl _ _).setBlock _ _ fun _ => rfl
  refine ⟨⟨o, hc.ob r.at_ r.ne, r.lines.chg hc fun j hj e => r.ne2 (by subst e; exact hj), ?_, ho, r.ne1, r.ne2⟩, h2.trans hc fun j _ e => .inl e, h3⟩
  rw [ob_setBlock_lt _ _ _ (ob_lt r.map)]
theorem CaGo.done {F : Nat → Prop} {c : CacheM} (h : CaGo w w' p lp tb f s FL0 FL) (hs : c.lines = s) (ht : TokMap c.tok f) (ok : c.Ok) (hF : ∀ j, j = p ∨ j = tb ∨ FL0 j → F j) (hl : ∀ j, F j → j < w.heap.size) :
    ∃ F', CacheAt w' p c F' ∧ Moves w w' F F' := by
  obtain ⟨⟨o, r⟩, h2, h3⟩ := h
  subst hs
  refine ⟨fun j => j = p ∨ j = tb ∨ FL j, ⟨lp, tb, o, f, FL, r, ht, ok, fun _ h => h, fun j hj => ?_⟩, h2.mono fun j _ hj => hF j (.inr hj), fun j hj => ?_⟩
  · rcases hj with rfl | rfl | hj
    · exact ob_lt r.at_
    · exact ob_lt r.map
    · obtain ⟨_, _, _, _, _, h⟩ := r.lines; exact h j hj
  · rcases hj with rfl | rfl | hj
    · exact .inl (hF _ (.inl rfl))
    · exact .inl (hF _ (.inr (.inl rfl)))
    · rcases h3 j hj with h | h
      · exact .inl (hF _ (.inr (.inr h)))
      · exact .inr h

theorem LinesAt.fin {F : Nat → Prop} (h : LinesAt w p s F) {j : Nat} (hj : F j) : j < w.heap.size := by
  obtain ⟨_, _, _, _, _, h3⟩ := h; exact h3 j hj
theorem CaGo.own {S : Nat → Prop} (h : CaGo w w' p lp tb f s FL0 FL) (hc : Chg S w' w'') (hS : ∀ j, S j → w.heap.size ≤ j) (hn : ∀ j, j = p ∨ j = tb ∨ FL j → ¬ S j) : CaGo w w'' p lp tb f s FL0 FL := by
  obtain ⟨⟨o, r⟩, h2, h3⟩ := h
  exact ⟨⟨o, r.chg hc hn⟩, h2.trans hc (fun k hk hs => absurd hk (Nat.not_lt.2 (hS k hs))), h3⟩
theorem CaGo.trans {w1 w2 : World} {FL2 : Nat → Prop} (h : CaGo w w1 p lp tb f s FL0 FL) (h' : CaGo w1 w2 p lp tb f' s' FL FL2) : CaGo w w2 p lp tb f' s' FL0 FL2 :=
  ⟨h'.raw, h.chg.trans h'.chg fun k hk hf => hf.elim .inl fun hf => (h.fresh k hf).elim .inr fun hh => absurd hk (Nat.not_lt.2 hh), fun j hj => (h'.fresh j hj).elim (h.fresh j) fun hh => .inr (Nat.le_trans h.chg.size hh)⟩
theorem CaGo.lose (b : Int) (t : Bundle) (h : CaGo w w' p lp tb f s FL0 FL) (hf : (f b).getD Bundle.none.val = t.val)
    (lose : ∀ {w : World} {o : Obj} {FL : Nat → Prop} (b : Int) (t : Bundle) (_ : CaRaw w p lp tb o f s FL) (_ : (f b).getD Bundle.none.val = t.val), Calls Tryz.prog 131 #[.pointer (some ⟨p, 0, none⟩), .int .i64 b] w fun e w' => e = .returned t.val ∧ ∃ FL', CaGo w w' p lp tb (del f b) (s.rem b) FL FL') :
    Calls Tryz.prog 131 #[.pointer (some ⟨p, 0, none⟩), .int .i64 b] w' fun e w'' => e = .returned t.val ∧ ∃ FL', CaGo w w'' p lp tb (del f b) (s.rem b) FL0 FL' ∧ Chg (fun j => j = tb ∨ FL j) w' w'' ∧ ∀ j, FL' j → FL j ∨ w'.heap.size ≤ j := by
  obtain ⟨o, r⟩ := h.raw
  exact (lose b t r hf).mono fun _ _ ⟨h1, F', h2⟩ => ⟨h1, F', h.trans h2, h2.chg, h2.fresh⟩
theorem CaGo.lines (h : CaGo w w' p lp tb f s FL0 FL) : LinesAt w' lp s FL := by obtain ⟨⟨o, r⟩, _, _⟩ := h; exact r.lines
theorem CaGo.remove (b : Int) (h : CaGo w w' p lp tb f s FL0 FL) : Calls Tryz.prog 149 #[.pointer (some ⟨lp, 0, none⟩), .int .i64 b] w' fun e w'' => e = .returned (.bool (s.has b)) ∧ ∃ FL', CaGo w w'' p lp tb f (s.rem b) FL0 FL' ∧ Moves w' w'' FL FL' :=
  (Remove_calls b h.lines).mono fun _ _ ⟨h1, F', h2, h3⟩ => ⟨h1, F', h.line h2 h3, h3⟩
theorem CaGo.use (b : Int) (h : CaGo w w' p lp tb f s FL0 FL) : Calls Tryz.prog 125 #[.pointer (some ⟨lp, 0, none⟩), .int .i64 b] w' fun e w'' => e = .returned (.bool (s.has b)) ∧ ∃ FL', CaGo w w'' p lp tb f (s.use b) FL0 FL' ∧ Moves w' w'' FL FL' :=
  (Use_calls b h.lines).mono fun _ _ ⟨h1, F', h2, h3⟩ => ⟨h1, F', h.line h2 h3, h3⟩
theorem CaGo.add (b : Int) (h : CaGo w w' p lp tb f s FL0 FL) : Calls Tryz.prog 132 #[.pointer (some ⟨lp, 0, none⟩), .int .i64 b] w' fun e w'' => e = .returned (.bool (s.can b)) ∧ ∃ FL', CaGo w w'' p lp tb f (s.add b) FL0 FL' ∧ Moves w' w'' FL FL' :=
  (Add_calls b h.lines).mono fun _ _ ⟨h1, F', h2, h3⟩ => ⟨h1, F', h.line h2 h3, h3⟩
/-- The cells that a walk reads. -/
theorem CaGo.cells (h : CaGo w w' p lp tb f s FL0 FL) : w'.cell? ⟨p, 0, none⟩ = some (.pointer (some ⟨lp, 0, none⟩)) ∧ w'.cell? ⟨p, 1, none⟩ = some (.map (some tb)) ∧ ∃ o, ob w' tb = some o ∧ MapObj o f := by
  obtain ⟨⟨o, r⟩, _, _⟩ := h
  exact ⟨cell_ob r.at_ 0, cell_ob r.at_ 1, o, r.map, r.obj⟩

set_option maxHeartbeats 2000000 in
set_option maxRecDepth 20000 in
theorem Get_calls {c : CacheM} {F : Nat → Prop} (b : Int) (h : CacheAt w p c F) : Calls Tryz.prog 92 #[.pointer (some ⟨p, 0, none⟩), .int .i64 b] w (Pure w (c.tok b).val) := by
  obtain ⟨lp, tb, o, f, FL, r, ht, ok, _, _⟩ := h
  have c1 : w.cell? ⟨p, 1, none⟩ = some (.map (some tb)) := cell_ob r.at_ 1
  have hm := r.map
  have lm := ob_lt hm
  have lp' := ob_lt r.at_
  have hlk : ∀ W : World, ob W tb = some o → (Instr.lookup 170 (.map (some tb)) (.int .i64 b) false).run Tryz.prog W = .ok (c.tok b).val W := fun W hW => by
    rw [r.obj.lookup tyIB b _ W hW, ht.get ok]
  simp only [Bundle.val, Bundle.cells] at hlk ⊢
  clear r ht ok
  go_enter Tryz.func92, Tryz.ntmps92
  go_wp2_with fail
  (try simp only [Exit.inBlock, Exit.then])
  refine bodyRet1 _ rfl rfl (ResIs.row Tryz.underlying42 rfl (by kernel_rfl) rfl (by simp [go_sem]; exact ⟨rfl, rfl, rfl⟩)) ?_
  exact pure_of rfl (by repeat (first | with_reducible exact Chg.refl _ _ | with_reducible exact chg0 | with_reducible refine Chg.drewN ?_ _ | with_reducible refine Chg.drew ?_ | with_reducible refine Chg.alloc ?_ _ | with_reducible refine Chg.setCell ?_ _ _ (by first | (simp; done) | omega | (simp; omega)) | with_reducible refine Chg.setBlock ?_ _ _ (by first | (simp; done) | omega | (simp; omega)) | exact Chg.refl _ _))

set_option maxHeartbeats 2000000 in
set_option maxRecDepth 20000 in
theorem lose_calls (b : Int) (t : Bundle) (r : CaRaw w p lp tb o f s FL) (hf : (f b).getD Bundle.none.val = t.val) :
    Calls Tryz.prog 131 #[.pointer (some ⟨p, 0, none⟩), .int .i64 b] w fun e w' => e = .returned t.val ∧ ∃ FL', CaGo w w' p lp tb (del f b) (s.rem b) FL FL' := by
  have c0 : w.cell? ⟨p, 0, none⟩ = some (.pointer (some ⟨lp, 0, none⟩)) := cell_ob r.at_ 0
  have c1 : w.cell? ⟨p, 1, none⟩ = some (.map (some tb)) := cell_ob r.at_ 1
  have hm := r.map
  have lm := ob_lt hm
  have lp' := ob_lt r.at_
  have lm1 : tb < w.heap.size + 1 := Nat.lt_succ_of_lt lm
  have lp1 : p < w.heap.size + 1 := Nat.lt_succ_of_lt lp'
  have hne := r.ne
  have hlk : ∀ W : World, ob W tb = some o → (Instr.lookup 170 (.map (some tb)) (.int .i64 b) false).run Tryz.prog W = .ok t.val W := fun W hW => by
    rw [r.obj.lookup tyIB b _ W hW, hf]
  obtain ⟨o2, ho2, hdel⟩ := r.obj.delete tyIB b tb
  have HO2 := Lib.hid ho2
  have R := Lib.hid r
  simp only [Bundle.val, Bundle.cells] at hlk ⊢
  clear r hf ho2
  go_enter Tryz.func131, Tryz.ntmps131
  go_wp2_with fail
  refine (CaGo.remove b (((CaGo.start R.out).same (Chg.below (by repeat (first | with_reducible exact Chg.refl _ _ | with_reducible exact chg0 | with_reducible refine Chg.drewN ?_ _ | with_reducible refine Chg.drew ?_ | with_reducible refine Chg.alloc ?_ _ | with_reducible refine Chg.setCell ?_ _ _ (by first | (simp; done) | omega | (simp; omega)) | with_reducible refine Chg.setBlock ?_ _ _ (by first | (simp; done) | omega | (simp; omega)) | exact Chg.refl _ _)))).put HO2.out)).mono ?_
  rintro e w2 ⟨rfl, FL', hg, hmv⟩
  have HG := Lib.hid hg
  have hfl : ∀ j, FL j → j < w.heap.size := fun j hj => R.out.lines.fin hj
  have o0 : ob w2 w.heap.size = some (.cells #[.int .i64 0, .bool false, .bool false, .int .i64 0] 42 (0, 0)) := hmv.chg.ob (by simp [go_sem, Nat.ne_of_gt lm]) (fun h => absurd (hfl _ h) (Nat.lt_irrefl _))
  have o1 : ob w2 (w.heap.size + 1) = some (.cells #[.int .i64 t.count, .bool t.owner, .bool t.has, .int .i64 t.data] 42 (0, 0)) := hmv.chg.ob (by simp [go_sem, Nat.ne_of_gt lm1]) (fun h => by have := hfl _ h; omega)
  obtain ⟨a0, a1, a2, a3, af⟩ := ob_cells4 o0
  obtain ⟨b0, b1, b2, b3, bf⟩ := ob_cells4 o1
  have l0 := ob_lt o0
  have l1 := ob_lt o1
  generalize s.has b = r1
  have HM := Lib.hid hmv.fresh
  have HFL := Lib.hid hfl
  clear hg hmv hfl
  go_wp2_with fail
  (try simp only [Exit.inBlock, Exit.then])
  refine bodyRet1 _ rfl rfl (ResIs.row Tryz.underlying42 rfl (by kernel_rfl) rfl (by simp [go_sem, o0, o1, l0, l1]; exact ⟨rfl, rfl, rfl⟩)) ?_
  refine ⟨rfl, FL', HG.out.own (S := fun j => j = w.heap.size) (by repeat (first | with_reducible exact Chg.refl _ _ | with_reducible exact chg0 | with_reducible refine Chg.drewN ?_ _ | with_reducible refine Chg.drew ?_ | with_reducible refine Chg.alloc ?_ _ | with_reducible refine Chg.setCell ?_ _ _ (by first | (simp; done) | omega | (simp; omega)) | with_reducible refine Chg.setBlock ?_ _ _ (by first | (simp; done) | omega | (simp; omega)) | exact Chg.refl _ _)) (fun j e => Nat.le_of_eq e.symm) ?_⟩
  rintro j (rfl | rfl | hj) e
  · omega
  · omega
  · subst e
    rcases HM.out w.heap.size hj with h | h
    · exact absurd (HFL.out _ h) (Nat.lt_irrefl _)
    · simp [go_sem] at h; omega
end
end Go.Proofs.YtchlioikkhnidaaGreat

/-
  The program's cache: New, Absorb.
-/
namespace Go.Proofs.YtchlioikkhnidaaGreat
open Go.RowKit Go.Sort Go.ChangeShapes Go.WideShapes Go.ChangeAt
open Go.ChangeMaps (setBlock)
set_option linter.unusedVariables false
set_option linter.unusedSimpArgs false

theorem CacheNew_calls (a b : Int) (w : World) : Calls Tryz.prog 73 #[.int .i64 a, .int .i64 b] w fun e w' => ∃ p F, e = .returned (.pointer (some ⟨p, 0, none⟩)) ∧ CacheAt w' p (CacheM.new a b) F ∧ (∀ j, F j → w.heap.size ≤ j) ∧ Below w.heap.size w w' := by
  have hmm := @run_makeMap Tryz.prog
  go_enter Tryz.func73, Tryz.ntmps73
  go_wp2_with fail
  refine (LinesNew_calls a b _).mono ?_
  rintro e w1 ⟨lp, FL, rfl, h1, h2, h3⟩
  go_wp2_with fail
  go_ret
  have s1 := h3.size
  have hlt := fun j (hj : FL j) => h1.fin hj
  refine ⟨w1.heap.size + 1, fun j => j = w1.heap.size + 1 ∨ j = w1.heap.size ∨ FL j, rfl, ⟨lp, w1.heap.size, .map #[] 0, fun _ => none, FL, ⟨?_, h1.below (Chg.below (by repeat (first | with_reducible exact Chg.refl _ _ | with_reducible exact chg0 | with_reducible refine Chg.drewN ?_ _ | with_reducible refine Chg.drew ?_ | with_reducible refine Chg.alloc ?_ _ | with_reducible refine Chg.setCell ?_ _ _ (by first | (simp; done) | omega | (simp; omega)) | with_reducible refine Chg.setBlock ?_ _ _ (by first | (simp; done) | omega | (simp; omega)) | exact Chg.refl _ _))), ?_, MapObj.empty 0, ?_, ?_⟩, ?_, CacheM.new_ok a b, fun _ h => h, ?_⟩, ?_, below_trans h3 (Chg.below (by repeat (first | with_reducible exact Chg.refl _ _ | with_reducible exact chg0 | with_reducible refine Chg.drewN ?_ _ | with_reducible refine Chg.drew ?_ | with_reducible refine Chg.alloc ?_ _ | with_reducible refine Chg.setCell ?_ _ _ (by first | (simp; done) | omega | (simp; omega)) | with_reducible refine Chg.setBlock ?_ _ _ (by first | (simp; done) | omega | (simp; omega)) | exact Chg.refl _ _)))⟩
  · simp [go_sem]
  · simp [go_sem]
  · exact fun h => by have := hlt _ h; omega
  · exact fun h => by have := hlt _ h; omega
  · intro k
    show none = if 0 < Bundle.none.count then some Bundle.none.val else none
    rw [if_neg CacheM.none_pos]
  · rintro j (rfl | rfl | hj)
    · simp
    · simp <;> omega
    · have := hlt j hj
      simp <;> omega
  · rintro j (rfl | rfl | hj)
    · omega
    · omega
    · exact h2 j hj

section
variable {w : World} {p : Nat} {c : CacheM} {F : Nat → Prop}
set_option maxHeartbeats 8000000 in
set_option maxRecDepth 20000 in
theorem Absorb_calls (block : Int) (b : Bundle) (pinned : Int) (h : CacheAt w p c F) (g : b.Good) (hb : (c.tok block).count + b.count ≤ 1000000000000) :
    Calls Tryz.prog 88 #[.pointer (some ⟨p, 0, none⟩), .int .i64 block, b.val, .int .i64 pinned] w fun e w' =>
      e = .returned (.tuple #[(c.absorb block b pinned).2.1.val, .bool (c.absorb block b pinned).2.2]) ∧ ∃ F', CacheAt w' p (c.absorb block b pinned).1 F' ∧ Moves w w' F F' := by
  have ok := h.ok
  have HA := Lib.hid h
  have hnone : ∀ w', Chg (fun _ => False) w w' → ∃ F', CacheAt w' p c F' ∧ Moves w w' F F' := fun w' hc => ⟨F, h.chg hc (fun _ _ h => h), Moves.none hc⟩
  have HN := Lib.hid hnone
  have hab : c.absorb block b pinned = if b.count < 1 then (c, Line.none, false) else if c.lines.has block = true then ((c.use block).set block ((c.tok block).join b), Line.none, false)
    else if (c.lines.victim block pinned).2 = false then (c, ⟨block, b⟩, true)
    else if c.lines.has (c.lines.victim block pinned).1 = true then ((c.set (c.lines.victim block pinned).1 Bundle.none).lay block b, ⟨(c.lines.victim block pinned).1, c.tok (c.lines.victim block pinned).1⟩, true)
    else (c.lay block b, Line.none, false) := rfl
  have HAB := Lib.hid hab
  obtain ⟨lp, tb, o, f, FL, r, ht, _, hF, hFl⟩ := h
  have lt' := ob_lt r.map
  have lp' := ob_lt r.at_
  have hne := r.ne
  have c0 : w.cell? ⟨p, 0, none⟩ = some (.pointer (some ⟨lp, 0, none⟩)) := cell_ob r.at_ 0
  have R := Lib.hid r
  have HT := Lib.hid ht
  have HF := Lib.hid hF
  have HFl := Lib.hid hFl
  have OK := Lib.hid ok
  have G := Lib.hid g
  clear r ht ok hF hFl hab hnone
  by_cases q1 : b.count < 1
  · have q1' : decide (b.count < 1) = true := by simpa using q1
    rw [if_pos q1] at HAB
    clear g
    simp only [Bundle.val, Bundle.cells, Line.val, Line.cells]
    go_enter Tryz.func88, Tryz.ntmps88
    go_wp2_with fail
    (try (go_big_region; go_wp2_with fail))
    (try simp only [Exit.inBlock, Exit.then])
    refine bodyRet2 _ _ rfl rfl (ResIs.row Tryz.underlying53 rfl (by kernel_rfl) rfl (by simp [go_sem]; exact ⟨rfl, rfl, rfl⟩)) ResIs.tmp ?_
    rw [HAB.out]
    exact ⟨rfl, HN.out _ (by repeat (first | with_reducible exact Chg.refl _ _ | with_reducible exact chg0 | with_reducible refine Chg.drewN ?_ _ | with_reducible refine Chg.drew ?_ | with_reducible refine Chg.alloc ?_ _ | with_reducible refine Chg.setCell ?_ _ _ (by first | (simp; done) | omega | (simp; omega)) | with_reducible refine Chg.setBlock ?_ _ _ (by first | (simp; done) | omega | (simp; omega)) | exact Chg.refl _ _))⟩
  have q1' : decide (b.count < 1) = false := by simpa using q1
  have Q1 := Lib.hid q1
  rw [if_neg q1] at HAB
  clear q1 g
  simp only [Bundle.val, Bundle.cells, Line.val, Line.cells]
  go_enter Tryz.func88, Tryz.ntmps88
  go_wp2_with fail
  refine (CaGo.use block ((CaGo.start R.out).same (Chg.below (by repeat (first | with_reducible exact Chg.refl _ _ | with_reducible exact chg0 | with_reducible refine Chg.drewN ?_ _ | with_reducible refine Chg.drew ?_ | with_reducible refine Chg.alloc ?_ _ | with_reducible refine Chg.setCell ?_ _ _ (by first | (simp; done) | omega | (simp; omega)) | with_reducible refine Chg.setBlock ?_ _ _ (by first | (simp; done) | omega | (simp; omega)) | exact Chg.refl _ _))))).mono ?_
  rintro e w1 ⟨rfl, FL1, hg, hmv⟩
  have hfl : ∀ j, FL j → j < w.heap.size := fun j hj => R.out.lines.fin hj
  have o0 : ob w1 w.heap.size = some (.cells #[.int .i64 b.count, .bool b.owner, .bool b.has, .int .i64 b.data] 42 (0, 0)) := hmv.chg.ob (by simp [go_sem]) (fun h => absurd (hfl _ h) (Nat.lt_irrefl _))
  have o1 : ob w1 (w.heap.size + 1) = some (.cells #[.int .i64 0, .int .i64 0, .bool false, .bool false, .int .i64 0] 53 (0, 0)) := hmv.chg.ob (by simp [go_sem]) (fun h => by have := hfl _ h; omega)
  obtain ⟨a0, a1, a2, a3, af⟩ := ob_cells4 o0
  obtain ⟨b0, b1, b2, b3, b4, bf⟩ := ob_cells5 o1
  have l0 := ob_lt o0
  have l1 := ob_lt o1
  have chw : Chg F w w1 := (Chg.trans (S' := FL) (by repeat (first | with_reducible exact Chg.refl _ _ | with_reducible exact chg0 | with_reducible refine Chg.drewN ?_ _ | with_reducible refine Chg.drew ?_ | with_reducible refine Chg.alloc ?_ _ | with_reducible refine Chg.setCell ?_ _ _ (by first | (simp; done) | omega | (simp; omega)) | with_reducible refine Chg.setBlock ?_ _ _ (by first | (simp; done) | omega | (simp; omega)) | exact Chg.refl _ _)) hmv.chg (fun _ _ h => h)).mono fun j _ hj => HF.out j (.inr (.inr hj))
  obtain ⟨k0, k1, o2, k2, hmo⟩ := hg.cells
  have HG := Lib.hid hg
  have HM := Lib.hid hmv.fresh
  have HFL := Lib.hid hfl
  have sz1 := hmv.chg.size
  clear hg hmv hfl
  have hne1 : ∀ j, j = p ∨ j = tb ∨ FL1 j → ¬ j = w.heap.size + 1 := by
    rintro j (rfl | rfl | hj) e
    · omega
    · omega
    · rcases HM.out j hj with h | h
      · have := HFL.out j h; omega
      · simp [go_sem] at h; omega
  have HNE := Lib.hid hne1
  have hn1 : w.heap.size + 1 ≠ tb := by omega
  clear hne1
  cases hh : c.lines.has block with
  | true =>
    rw [if_pos hh] at HAB
    have hlk : ∀ W : World, ob W tb = some o2 → (Instr.lookup 170 (.map (some tb)) (.int .i64 block) false).run Tryz.prog W = .ok (c.tok block).val W := fun W hW => by
      rw [hmo.lookup tyIB block _ W hW, HT.out.get OK.out]
    obtain ⟨o3, ho3, hup⟩ := hmo.update tyIB block ((c.tok block).join b).val tb
    have HO3 := Lib.hid ho3
    have hpos : 0 < ((c.tok block).join b).count := by
      have h1 := (OK.out.good block).pos
      have h2 := Q1.out
      show 0 < (c.tok block).count + b.count
      omega
    have oka := CacheM.absorb_ok OK.out block G.out pinned
    rw [HAB.out] at oka
    have OKA := Lib.hid oka
    have HPOS := Lib.hid hpos
    have HLN := Lib.hid (show ((c.use block).set block ((c.tok block).join b)).lines = c.lines.use block from by simp only [CacheM.set]; rw [if_pos hpos]; rfl)
    clear oka hpos
    clear ho3 hmo
    simp only [Bundle.val, Bundle.cells] at hlk hup
    go_wp2_with fail
    have lpw : p < w1.heap.size := Nat.lt_of_lt_of_le lp' (by omega)
    have ltw : tb < w1.heap.size := Nat.lt_of_lt_of_le lt' (by omega)
    go_region_law (first
      | (go_simp; go_at_call 128; refine (Join_calls (c.tok block) b _ (OK.out.good block) (by have := G.out.pos; omega) (by have := (OK.out.good block).pos; omega) G.out.pos).mono ?_; rintro e w2 ⟨rfl, hb2⟩; simp only [Bundle.val, Bundle.cells]; have ch2 := Chg.of_below (S := fun _ => False) hb2; have j1 : w2.cell? ⟨p, 1, none⟩ = some (.map (some tb)) := ch2.cell (by simpa [go_sem] using k1) (fun h => h); have j2 : ob w2 tb = some o2 := ch2.ob (by simpa [go_sem] using k2) (fun h => h); have o1' := ch2.ob (b := w.heap.size + 1) (by simpa [go_sem] using o1) (fun h => h); have ch3 : Chg (fun _ => False) w1 w2 := Chg.trans (S' := fun _ => False) (by repeat (first | with_reducible exact Chg.refl _ _ | with_reducible exact chg0 | with_reducible refine Chg.drewN ?_ _ | with_reducible refine Chg.drew ?_ | with_reducible refine Chg.alloc ?_ _ | with_reducible refine Chg.setCell ?_ _ _ (by first | (simp; done) | omega | (simp; omega)) | with_reducible refine Chg.setBlock ?_ _ _ (by first | (simp; done) | omega | (simp; omega)) | exact Chg.refl _ _)) ch2 (fun _ _ h => h); have sz2 := ch3.size; clear hb2 ch2))
    all_goals
      obtain ⟨e0, e1, e2, e3, e4, ef⟩ := ob_cells5 o1'
      have l3 := ob_lt o1'
      go_wp2_with fail
      (try simp only [Exit.inBlock, Exit.then])
      refine bodyRet2 _ _ rfl rfl (ResIs.row Tryz.underlying53 rfl (by kernel_rfl) rfl (by simp [go_sem, *]; exact ⟨rfl, rfl, rfl⟩)) ResIs.tmp ?_
      rw [HAB.out]
      refine ⟨rfl, CaGo.done (((HG.out.same ch3.below).put HO3.out).own (S := fun j => j = w.heap.size + 1) (by repeat (first | with_reducible exact Chg.refl _ _ | with_reducible exact chg0 | with_reducible refine Chg.drewN ?_ _ | with_reducible refine Chg.drew ?_ | with_reducible refine Chg.alloc ?_ _ | with_reducible refine Chg.setCell ?_ _ _ (by first | (simp; done) | omega | (simp; omega)) | with_reducible refine Chg.setBlock ?_ _ _ (by first | (simp; done) | omega | (simp; omega)) | exact Chg.refl _ _)) (fun j e => by omega) HNE.out) ?_ (HT.out.upd block _ HPOS.out) OKA.out HF.out HFl.out⟩
      exact HLN.out
  | false =>
    have hus : c.lines.use block = c.lines := by rw [Lines.use, if_neg (by simp [hh])]
    rw [hus] at HG
    rw [if_neg (by simp [hh])] at HAB
    go_wp2_with fail
    obtain ⟨v, hv⟩ : ∃ v, v = (c.lines.victim block pinned).1 := ⟨_, rfl⟩
    obtain ⟨vo, hvo⟩ : ∃ v, v = (c.lines.victim block pinned).2 := ⟨_, rfl⟩
    have HVV := Lib.hid hv
    have HVO := Lib.hid hvo
    rw [← hv, ← hvo] at HAB
    refine (Victim_calls block pinned (HG.out.same (Chg.below (by repeat (first | with_reducible exact Chg.refl _ _ | with_reducible exact chg0 | with_reducible refine Chg.drewN ?_ _ | with_reducible refine Chg.drew ?_ | with_reducible refine Chg.alloc ?_ _ | with_reducible refine Chg.setCell ?_ _ _ (by first | (simp; done) | omega | (simp; omega)) | with_reducible refine Chg.setBlock ?_ _ _ (by first | (simp; done) | omega | (simp; omega)) | exact Chg.refl _ _)))).lines).mono ?_
    rintro e w2 ⟨rfl, n2, rfl⟩
    rw [← hv, ← hvo]
    clear hv hvo
    cases vo with
    | false =>
      rw [if_pos rfl] at HAB
      go_wp2_with fail
      (try simp only [Exit.inBlock, Exit.then])
      refine bodyRet2 _ _ rfl rfl (ResIs.row Tryz.underlying53 rfl (by kernel_rfl) rfl (by simp [go_sem, *]; exact ⟨rfl, rfl, rfl⟩)) ResIs.tmp ?_
      rw [HAB.out]
      exact ⟨rfl, CaGo.done ((HG.out.same (Chg.below (by repeat (first | with_reducible exact Chg.refl _ _ | with_reducible exact chg0 | with_reducible refine Chg.drewN ?_ _ | with_reducible refine Chg.drew ?_ | with_reducible refine Chg.alloc ?_ _ | with_reducible refine Chg.setCell ?_ _ _ (by first | (simp; done) | omega | (simp; omega)) | with_reducible refine Chg.setBlock ?_ _ _ (by first | (simp; done) | omega | (simp; omega)) | exact Chg.refl _ _)))).own (w'' := _) (S := fun j => j = w.heap.size + 1) (by repeat (first | with_reducible exact Chg.refl _ _ | with_reducible exact chg0 | with_reducible refine Chg.drewN ?_ _ | with_reducible refine Chg.drew ?_ | with_reducible refine Chg.alloc ?_ _ | with_reducible refine Chg.setCell ?_ _ _ (by first | (simp; done) | omega | (simp; omega)) | with_reducible refine Chg.setBlock ?_ _ _ (by first | (simp; done) | omega | (simp; omega)) | exact Chg.refl _ _)) (fun j e => by omega) HNE.out) rfl HT.out OK.out HF.out HFl.out⟩
    | true =>
      rw [if_neg (by decide)] at HAB
      have lpw : p < w1.heap.size := Nat.lt_of_lt_of_le lp' (by omega)
      have ltw : tb < w1.heap.size := Nat.lt_of_lt_of_le lt' (by omega)
      go_wp2_with fail
      refine (Has_calls v (HG.out.same (Chg.below (by repeat (first | with_reducible exact Chg.refl _ _ | with_reducible exact chg0 | with_reducible refine Chg.drewN ?_ _ | with_reducible refine Chg.drew ?_ | with_reducible refine Chg.alloc ?_ _ | with_reducible refine Chg.setCell ?_ _ _ (by first | (simp; done) | omega | (simp; omega)) | with_reducible refine Chg.setBlock ?_ _ _ (by first | (simp; done) | omega | (simp; omega)) | exact Chg.refl _ _)))).lines).mono ?_
      rintro e w3 ⟨rfl, n3, rfl⟩
      have hac := absorb_can (c := c) OK.out (pinned := pinned) hh HVO.out.symm
      rw [← HVV.out] at hac
      cases hhv : c.lines.has v with
      | true =>
        rw [if_pos hhv] at HAB
        obtain ⟨hcan, _, hvb⟩ := hac.1 hhv
        have HCAN := Lib.hid hcan
        have HVB := Lib.hid hvb
        clear hac hcan hvb
        have fl1 : ∀ j, j = w.heap.size ∨ j = w.heap.size + 1 ∨ j = w1.heap.size → ¬ (j = tb ∨ FL1 j) := by
          rintro j (rfl | rfl | rfl) (e | hj)
          · omega
          · rcases HM.out _ hj with h | h
            · have := HFL.out _ h; omega
            · simp [go_sem] at h; omega
          · omega
          · exact HNE.out _ (.inr (.inr hj)) rfl
          · omega
          · have := HG.out.lines.fin hj; omega
        have FL1N := Lib.hid fl1
        clear fl1
        go_wp2_with fail
        refine (CaGo.lose v (c.tok v) (HG.out.same (Chg.below (by repeat (first | with_reducible exact Chg.refl _ _ | with_reducible exact chg0 | with_reducible refine Chg.drewN ?_ _ | with_reducible refine Chg.drew ?_ | with_reducible refine Chg.alloc ?_ _ | with_reducible refine Chg.setCell ?_ _ _ (by first | (simp; done) | omega | (simp; omega)) | with_reducible refine Chg.setBlock ?_ _ _ (by first | (simp; done) | omega | (simp; omega)) | exact Chg.refl _ _)))) (HT.out.get OK.out v) lose_calls).mono ?_
        rintro e w4 ⟨rfl, FL2, hg2, hch2, hfr2⟩
        have o0' : ob w4 w.heap.size = some (.cells #[.int .i64 b.count, .bool b.owner, .bool b.has, .int .i64 b.data] 42 (0, 0)) := hch2.ob (by simp [go_sem, *]) (FL1N.out _ (.inl rfl))
        have o1' : ob w4 (w.heap.size + 1) = some (.cells #[.int .i64 0, .int .i64 0, .bool false, .bool false, .int .i64 0] 53 (0, 0)) := hch2.ob (by simp [go_sem, *]) (FL1N.out _ (.inr (.inl rfl)))
        have o2' : ob w4 w1.heap.size = some (.cells #[.int .i64 0, .int .i64 0, .bool false, .bool false, .int .i64 0] 53 (0, 0)) := hch2.ob (by simp [go_sem, *]) (FL1N.out _ (.inr (.inr rfl)))
        obtain ⟨a0', a1', a2', a3', af'⟩ := ob_cells4 o0'
        obtain ⟨b0', b1', b2', b3', b4', bf'⟩ := ob_cells5 o1'
        obtain ⟨d0', d1', d2', d3', d4', df'⟩ := ob_cells5 o2'
        have l0' := ob_lt o0'
        have l1' := ob_lt o1'
        have l2' := ob_lt o2'
        have hfl2 : ∀ j, j = p ∨ j = tb ∨ FL2 j → j ≠ w.heap.size ∧ j ≠ w.heap.size + 1 ∧ j ≠ w1.heap.size := by
          rintro j (rfl | rfl | hj)
          · omega
          · omega
          · rcases hfr2 j hj with h | h
            · exact ⟨fun e => FL1N.out j (.inl e) (.inr h), fun e => FL1N.out j (.inr (.inl e)) (.inr h), fun e => FL1N.out j (.inr (.inr e)) (.inr h)⟩
            · simp [go_sem] at h; omega
        have HFL2 := Lib.hid hfl2
        have HG2 := Lib.hid hg2
        obtain ⟨k0', k1', o4, k2', hmo4⟩ := hg2.cells
        clear hg2 hch2 hfr2 hfl2 a0 a1 a2 a3 af b0 b1 b2 b3 b4 bf
        simp only [Bundle.val, Bundle.cells]
        go_wp2_with fail
        refine (CaGo.add block (HG2.out.own (S := fun j => j = w1.heap.size) (by repeat (first | with_reducible exact Chg.refl _ _ | with_reducible exact chg0 | with_reducible refine Chg.drewN ?_ _ | with_reducible refine Chg.drew ?_ | with_reducible refine Chg.alloc ?_ _ | with_reducible refine Chg.setCell ?_ _ _ (by first | (simp; done) | omega | (simp; omega)) | with_reducible refine Chg.setBlock ?_ _ _ (by first | (simp; done) | omega | (simp; omega)) | exact Chg.refl _ _)) (fun j e => by omega) (fun j hj => (HFL2.out j hj).2.2))).mono ?_
        rintro e w5 ⟨rfl, FL3, hg3, hmv3⟩
        have o0'' : ob w5 w.heap.size = some (.cells #[.int .i64 b.count, .bool b.owner, .bool b.has, .int .i64 b.data] 42 (0, 0)) := hmv3.chg.ob (by simp [go_sem, o0', o1', o2', (show w.heap.size ≠ w1.heap.size by omega)]) (fun h => (HFL2.out _ (.inr (.inr h))).1 rfl)
        have o1'' : ob w5 (w.heap.size + 1) = some (.cells #[.int .i64 0, .int .i64 0, .bool false, .bool false, .int .i64 0] 53 (0, 0)) := hmv3.chg.ob (by simp [go_sem, o0', o1', o2', (show w.heap.size + 1 ≠ w1.heap.size by omega)]) (fun h => (HFL2.out _ (.inr (.inr h))).2.1 rfl)
        have o2'' : ob w5 w1.heap.size = some (.cells #[.int .i64 v, .int .i64 (c.tok v).count, .bool (c.tok v).owner, .bool (c.tok v).has, .int .i64 (c.tok v).data] 53 (0, 0)) := hmv3.chg.ob (by simp [go_sem, o0', o1', o2', setAt]) (fun h => (HFL2.out _ (.inr (.inr h))).2.2 rfl)
        obtain ⟨x0, x1, x2, x3, xf⟩ := ob_cells4 o0''
        obtain ⟨y0, y1, y2, y3, y4, yf⟩ := ob_cells5 o1''
        obtain ⟨z0, z1, z2, z3, z4, zf⟩ := ob_cells5 o2''
        have m0 := ob_lt o0''
        have m1 := ob_lt o1''
        have m2 := ob_lt o2''
        have hfl3 : ∀ j, j = p ∨ j = tb ∨ FL3 j → j ≠ w.heap.size + 1 := by
          rintro j (rfl | rfl | hj)
          · omega
          · omega
          · rcases hmv3.fresh j hj with h | h
            · exact (HFL2.out j (.inr (.inr h))).2.1
            · simp [go_sem] at h; omega
        have HFL3 := Lib.hid hfl3
        have HG3 := Lib.hid hg3
        obtain ⟨k0'', k1'', o5, k2'', hmo5⟩ := hg3.cells
        obtain ⟨o6, ho6, hup⟩ := hmo5.update tyIB block b.val tb
        have HO6 := Lib.hid ho6
        simp only [Bundle.val, Bundle.cells] at hup
        have hq1 : w.heap.size ≠ tb := by omega
        have hq2 : w1.heap.size ≠ tb := by omega
        have hq3 : w.heap.size + 1 ≠ w1.heap.size := by omega
        have oka := CacheM.absorb_ok OK.out block G.out pinned
        rw [HAB.out] at oka
        have OKA := Lib.hid oka
        clear hg3 hmv3 hfl3 ho6 hmo5 oka a0' a1' a2' a3' af' b0' b1' b2' b3' b4' bf' d0' d1' d2' d3' d4' df'
        generalize (c.lines.rem v).can block = r3
        go_wp2_with fail
        (try (go_big_region; go_wp2_with fail))
        (try simp only [Exit.inBlock, Exit.then])
        refine bodyRet2 _ _ rfl rfl (ResIs.row Tryz.underlying53 rfl (by kernel_rfl) rfl (by simp [go_sem, *]; exact ⟨rfl, rfl, rfl⟩)) ResIs.tmp ?_
        rw [HAB.out]
        refine ⟨rfl, CaGo.done ((HG3.out.put HO6.out).own (S := fun j => j = w.heap.size + 1) (by repeat (first | with_reducible exact Chg.refl _ _ | with_reducible exact chg0 | with_reducible refine Chg.drewN ?_ _ | with_reducible refine Chg.drew ?_ | with_reducible refine Chg.alloc ?_ _ | with_reducible refine Chg.setCell ?_ _ _ (by first | (simp; done) | omega | (simp; omega)) | with_reducible refine Chg.setBlock ?_ _ _ (by first | (simp; done) | omega | (simp; omega)) | exact Chg.refl _ _)) (fun j e => by omega) HFL3.out) ?_ ((HT.out.del v Bundle.none CacheM.none_pos).upd block b (by have := Q1.out; omega)) OKA.out HF.out HFl.out⟩
        show ((c.set v Bundle.none).lines).add block = _
        rw [CacheM.set_none_lines]
      | false =>
        rw [if_neg (by simp [hhv])] at HAB
        have fl1 : ∀ j, j = w.heap.size ∨ j = w.heap.size + 1 ∨ j = w1.heap.size → ¬ FL1 j := by
          rintro j (rfl | rfl | rfl) hj
          · rcases HM.out _ hj with h | h
            · have := HFL.out _ h; omega
            · simp [go_sem] at h; omega
          · exact HNE.out _ (.inr (.inr hj)) rfl
          · have := HG.out.lines.fin hj; omega
        have FL1N := Lib.hid fl1
        clear fl1 hac
        go_wp2_with fail
        refine (CaGo.add block (HG.out.same (Chg.below (by repeat (first | with_reducible exact Chg.refl _ _ | with_reducible exact chg0 | with_reducible refine Chg.drewN ?_ _ | with_reducible refine Chg.drew ?_ | with_reducible refine Chg.alloc ?_ _ | with_reducible refine Chg.setCell ?_ _ _ (by first | (simp; done) | omega | (simp; omega)) | with_reducible refine Chg.setBlock ?_ _ _ (by first | (simp; done) | omega | (simp; omega)) | exact Chg.refl _ _))))).mono ?_
        rintro e w5 ⟨rfl, FL3, hg3, hmv3⟩
        have o0'' : ob w5 w.heap.size = some (.cells #[.int .i64 b.count, .bool b.owner, .bool b.has, .int .i64 b.data] 42 (0, 0)) := hmv3.chg.ob (by simp [go_sem, *]) (FL1N.out _ (.inl rfl))
        have o1'' : ob w5 (w.heap.size + 1) = some (.cells #[.int .i64 0, .int .i64 0, .bool false, .bool false, .int .i64 0] 53 (0, 0)) := hmv3.chg.ob (by simp [go_sem, *]) (FL1N.out _ (.inr (.inl rfl)))
        have o2'' : ob w5 w1.heap.size = some (.cells #[.int .i64 0, .int .i64 0, .bool false, .bool false, .int .i64 0] 53 (0, 0)) := hmv3.chg.ob (by simp [go_sem, *]) (FL1N.out _ (.inr (.inr rfl)))
        obtain ⟨x0, x1, x2, x3, xf⟩ := ob_cells4 o0''
        obtain ⟨y0, y1, y2, y3, y4, yf⟩ := ob_cells5 o1''
        obtain ⟨z0, z1, z2, z3, z4, zf⟩ := ob_cells5 o2''
        have m0 := ob_lt o0''
        have m1 := ob_lt o1''
        have m2 := ob_lt o2''
        have hfl3 : ∀ j, j = p ∨ j = tb ∨ FL3 j → j ≠ w.heap.size + 1 := by
          rintro j (rfl | rfl | hj) e
          · omega
          · omega
          · rcases hmv3.fresh j hj with h | h
            · exact FL1N.out j (.inr (.inl e)) h
            · simp [go_sem] at h; omega
        have HFL3 := Lib.hid hfl3
        have HG3 := Lib.hid hg3
        obtain ⟨k0'', k1'', o5, k2'', hmo5⟩ := hg3.cells
        obtain ⟨o6, ho6, hup⟩ := hmo5.update tyIB block b.val tb
        have HO6 := Lib.hid ho6
        simp only [Bundle.val, Bundle.cells] at hup
        have hq1 : w.heap.size ≠ tb := by omega
        have hq2 : w1.heap.size ≠ tb := by omega
        have hq3 : w.heap.size + 1 ≠ w1.heap.size := by omega
        have oka := CacheM.absorb_ok OK.out block G.out pinned
        rw [HAB.out] at oka
        have OKA := Lib.hid oka
        clear hg3 hmv3 hfl3 ho6 hmo5 oka a0 a1 a2 a3 af b0 b1 b2 b3 b4 bf
        generalize c.lines.can block = r3
        go_wp2_with fail
        (try (go_big_region; go_wp2_with fail))
        (try simp only [Exit.inBlock, Exit.then])
        refine bodyRet2 _ _ rfl rfl (ResIs.row Tryz.underlying53 rfl (by kernel_rfl) rfl (by simp [go_sem, *]; exact ⟨rfl, rfl, rfl⟩)) ResIs.tmp ?_
        rw [HAB.out]
        refine ⟨rfl, CaGo.done ((HG3.out.put HO6.out).own (S := fun j => j = w.heap.size + 1) (by repeat (first | with_reducible exact Chg.refl _ _ | with_reducible exact chg0 | with_reducible refine Chg.drewN ?_ _ | with_reducible refine Chg.drew ?_ | with_reducible refine Chg.alloc ?_ _ | with_reducible refine Chg.setCell ?_ _ _ (by first | (simp; done) | omega | (simp; omega)) | with_reducible refine Chg.setBlock ?_ _ _ (by first | (simp; done) | omega | (simp; omega)) | exact Chg.refl _ _)) (fun j e => by omega) HFL3.out) rfl (HT.out.upd block b (by have := Q1.out; omega)) OKA.out HF.out HFl.out⟩
end
end Go.Proofs.YtchlioikkhnidaaGreat
