/-
  The program's cache: what it is in memory; New, Get, lose.
-/
import Derived.Test.YtocnhmakgbdbfaaCa1
import Derived.Test.YtocnhmakgbdbfaaLnR
import Derived.BigRegion
namespace Go.Proofs.Ytocnhmakgbdbfaa
open Go.RowKit Go.Sort Go.ChangeShapes Go.WideShapes Go.ChangeAt
open Go.ChangeMaps (setBlock)
set_option linter.unusedVariables false
set_option linter.unusedSimpArgs false

theorem tyIB : MapTy Try.prog 84 3 47 Bundle.none.val := ⟨Try.underlying84, Try.underlying3, fun _ => by kernel_rfl⟩

structure CaRaw (w : World) (p lp tb : Nat) (o : Obj) (f : Int → Option Value) (s : Lines) (FL : Nat → Prop) : Prop where
  at_ : ob w p = some (.cells #[.pointer (some ⟨lp, 0, none⟩), .map (some tb)] 86 (0, 0))
  lines : LinesAt w lp s FL
  map : ob w tb = some o
  obj : MapObj o f
  ne1 : ¬ FL p
  ne2 : ¬ FL tb
theorem CaRaw.ne {w : World} {p lp tb : Nat} {o : Obj} {f : Int → Option Value} {s : Lines} {FL : Nat → Prop} (h : CaRaw w p lp tb o f s FL) : p ≠ tb := fun e => by
  have h1 := h.at_
  have h2 := h.map
  obtain ⟨_, _, e1, _⟩ := h.obj
  rw [e, h2, e1] at h1; cases h1
theorem CaRaw.chg {S : Nat → Prop} {w w' : World} {p lp tb : Nat} {o : Obj} {f : Int → Option Value} {s : Lines} {FL : Nat → Prop} (h : CaRaw w p lp tb o f s FL) (hc : Chg S w w') (hn : ∀ j, j = p ∨ j = tb ∨ FL j → ¬ S j) : CaRaw w' p lp tb o f s FL :=
  ⟨hc.ob h.at_ (hn _ (.inl rfl)), h.lines.chg hc fun j hj => hn j (.inr (.inr hj)), hc.ob h.map (hn _ (.inr (.inl rfl))), h.obj, h.ne1, h.ne2⟩
theorem CaRaw.below {w w' : World} {p lp tb : Nat} {o : Obj} {f : Int → Option Value} {s : Lines} {FL : Nat → Prop} (h : CaRaw w p lp tb o f s FL) (hc : Below w.heap.size w w') : CaRaw w' p lp tb o f s FL :=
  h.chg (S := fun _ => False) (Chg.of_below hc) fun _ _ h => h

def TokMap (t : Int → Bundle) (f : Int → Option Value) : Prop := ∀ k, f k = if 0 < (t k).count then some (t k).val else none
theorem TokMap.get {c : CacheM} {f : Int → Option Value} (h : TokMap c.tok f) (ok : c.Ok) (k : Int) : (f k).getD Bundle.none.val = (c.tok k).val := by
  rw [h k]
  split
  · rfl
  · rename_i hn
    have := (ok.good k).pos
    rw [Bundle.eq_none (ok.good k) (by omega)]; rfl
theorem TokMap.upd {t : Int → Bundle} {f : Int → Option Value} (h : TokMap t f) (k : Int) (b : Bundle) (hb : 0 < b.count) : TokMap (fun j => if j = k then b else t j) (upd f k b.val) := by
  intro j
  unfold Ytocnhmakgbdbfaa.upd
  by_cases e : j = k
  · subst e; simp [hb]
  · simp [e]; exact h j
theorem TokMap.del {t : Int → Bundle} {f : Int → Option Value} (h : TokMap t f) (k : Int) (b : Bundle) (hb : ¬ 0 < b.count) : TokMap (fun j => if j = k then b else t j) (del f k) := by
  intro j
  unfold Ytocnhmakgbdbfaa.del
  by_cases e : j = k
  · subst e; simp [hb]
  · simp [e]; exact h j

/-- A cache of the program, at p; F: its blocks. -/
def CacheAt (w : World) (p : Nat) (c : CacheM) (F : Nat → Prop) : Prop :=
  ∃ lp tb o f FL, CaRaw w p lp tb o f c.lines FL ∧ TokMap c.tok f ∧ c.Ok ∧ (∀ j, j = p ∨ j = tb ∨ FL j → F j) ∧ ∀ j, F j → j < w.heap.size
theorem CacheAt.ok {w : World} {p : Nat} {c : CacheM} {F : Nat → Prop} (h : CacheAt w p c F) : c.Ok := by obtain ⟨_, _, _, _, _, _, _, h, _⟩ := h; exact h
theorem CacheAt.lt {w : World} {p : Nat} {c : CacheM} {F : Nat → Prop} (h : CacheAt w p c F) {j : Nat} (hj : F j) : j < w.heap.size := by obtain ⟨_, _, _, _, _, _, _, _, _, h⟩ := h; exact h j hj
theorem CacheAt.chg {S : Nat → Prop} {w w' : World} {p : Nat} {c : CacheM} {F : Nat → Prop} (h : CacheAt w p c F) (hc : Chg S w w') (hn : ∀ j, F j → ¬ S j) : CacheAt w' p c F := by
  obtain ⟨lp, tb, o, f, FL, h1, h2, h3, h4, h5⟩ := h
  exact ⟨lp, tb, o, f, FL, h1.chg hc fun j hj => hn j (h4 j hj), h2, h3, h4, fun j hj => Nat.lt_of_lt_of_le (h5 j hj) hc.size⟩
theorem CacheAt.below {w w' : World} {p : Nat} {c : CacheM} {F : Nat → Prop} (h : CacheAt w p c F) (hb : Below w.heap.size w w') : CacheAt w' p c F :=
  h.chg (S := fun _ => False) (Chg.of_below hb) fun _ _ h => h

/-- On the way through a call: what stands at the world at hand, and what has turned since w. -/
structure CaGo (w w' : World) (p lp tb : Nat) (f : Int → Option Value) (s : Lines) (FL0 FL : Nat → Prop) : Prop where
  raw : ∃ o, CaRaw w' p lp tb o f s FL
  chg : Chg (fun j => j = tb ∨ FL0 j) w w'
  fresh : ∀ j, FL j → FL0 j ∨ w.heap.size ≤ j
section
variable {w w' w'' : World} {p lp tb : Nat} {o : Obj} {f f' : Int → Option Value} {s s' : Lines} {FL0 FL FL' : Nat → Prop}
theorem CaGo.start (h : CaRaw w p lp tb o f s FL) : CaGo w w p lp tb f s FL FL := ⟨⟨o, h⟩, Chg.refl _ _, fun _ h => .inl h⟩
theorem CaGo.same (h : CaGo w w' p lp tb f s FL0 FL) (hb : Below w'.heap.size w' w'') : CaGo w w'' p lp tb f s FL0 FL := by
  obtain ⟨⟨o, h1⟩, h2, h3⟩ := h
  exact ⟨⟨o, h1.below hb⟩, h2.trans (S' := fun _ => False) (Chg.of_below hb) (fun _ _ h => h.elim), h3⟩
theorem CaGo.line (h : CaGo w w' p lp tb f s FL0 FL) (h1 : LinesAt w'' lp s' FL') (mv : Moves w' w'' FL FL') : CaGo w w'' p lp tb f s' FL0 FL' := by
  obtain ⟨⟨o, r⟩, h2, h3⟩ := h
  have lp' := ob_lt r.at_
  have lt' := ob_lt r.map
  refine ⟨⟨o, mv.chg.ob r.at_ r.ne1, h1, mv.chg.ob r.map r.ne2, r.obj, fun hj => ?_, fun hj => ?_⟩, h2.trans mv.chg fun j hj hf => ?_, fun j hj => ?_⟩
  · rcases mv.fresh _ hj with h | h
    · exact r.ne1 h
    · omega
  · rcases mv.fresh _ hj with h | h
    · exact r.ne2 h
    · omega
  · rcases h3 j hf with h | h
    · exact .inr h
    · omega
  · rcases mv.fresh j hj with h | h
    · exact h3 j h
    · exact .inr (Nat.le_trans h2.size h)
theorem CaGo.put (h : CaGo w w' p lp tb f s FL0 FL) (ho : MapObj o f') : CaGo w (setBlock w' tb o) p lp tb f' s FL0 FL := by
  obtain ⟨⟨o0, r⟩, h2, h3⟩ := h
  have hc : Chg (fun j => j = tb) w' (setBlock w' tb o) := (Chg.refl _ _).setBlock _ _ fun _ => rfl
  refine ⟨⟨o, hc.ob r.at_ r.ne, r.lines.chg hc fun j hj e => r.ne2 (by subst e; exact hj), ?_, ho, r.ne1, r.ne2⟩, h2.trans hc fun j _ e => .inl e, h3⟩
  rw [ob_setBlock_lt _ _ _ (ob_lt r.map)]
theorem CaGo.done {F : Nat → Prop} {c : CacheM} (h : CaGo w w' p lp tb f s FL0 FL) (hs : c.lines = s) (ht : TokMap c.tok f) (ok : c.Ok) (hF : ∀ j, j = p ∨ j = tb ∨ FL0 j → F j) (hl : ∀ j, F j → j < w.heap.size) :
    ∃ F', CacheAt w' p c F' ∧ Moves w w' F F' := by
  obtain ⟨⟨o, r⟩, h2, h3⟩ := h
  subst hs
  refine ⟨fun j => j = p ∨ j = tb ∨ FL j, ⟨lp, tb, o, f, FL, r, ht, ok, fun _ h => h, fun j hj => ?_⟩, h2.mono fun j _ hj => hF j (.inr hj), fun j hj => ?_⟩
  · rcases hj with rfl | rfl | hj
    · exact ob_lt r.at_
    · exact ob_lt r.map
    · obtain ⟨_, _, _, _, _, h⟩ := r.lines; exact h j hj
  · rcases hj with rfl | rfl | hj
    · exact .inl (hF _ (.inl rfl))
    · exact .inl (hF _ (.inr (.inl rfl)))
    · rcases h3 j hj with h | h
      · exact .inl (hF _ (.inr (.inr h)))
      · exact .inr h

theorem LinesAt.fin {F : Nat → Prop} (h : LinesAt w p s F) {j : Nat} (hj : F j) : j < w.heap.size := by
  obtain ⟨_, _, _, _, _, h3⟩ := h; exact h3 j hj
theorem CaGo.own {S : Nat → Prop} (h : CaGo w w' p lp tb f s FL0 FL) (hc : Chg S w' w'') (hS : ∀ j, S j → w.heap.size ≤ j) (hn : ∀ j, j = p ∨ j = tb ∨ FL j → ¬ S j) : CaGo w w'' p lp tb f s FL0 FL := by
  obtain ⟨⟨o, r⟩, h2, h3⟩ := h
  exact ⟨⟨o, r.chg hc hn⟩, h2.trans hc (fun k hk hs => absurd hk (Nat.not_lt.2 (hS k hs))), h3⟩
theorem CaGo.trans {w1 w2 : World} {FL2 : Nat → Prop} (h : CaGo w w1 p lp tb f s FL0 FL) (h' : CaGo w1 w2 p lp tb f' s' FL FL2) : CaGo w w2 p lp tb f' s' FL0 FL2 :=
  ⟨h'.raw, h.chg.trans h'.chg fun k hk hf => hf.elim .inl fun hf => (h.fresh k hf).elim .inr fun hh => absurd hk (Nat.not_lt.2 hh), fun j hj => (h'.fresh j hj).elim (h.fresh j) fun hh => .inr (Nat.le_trans h.chg.size hh)⟩
theorem CaGo.lose (b : Int) (t : Bundle) (h : CaGo w w' p lp tb f s FL0 FL) (hf : (f b).getD Bundle.none.val = t.val)
    (lose : ∀ {w : World} {o : Obj} {FL : Nat → Prop} (b : Int) (t : Bundle) (_ : CaRaw w p lp tb o f s FL) (_ : (f b).getD Bundle.none.val = t.val), Calls Try.prog 52 #[.pointer (some ⟨p, 0, none⟩), .int .i64 b] w fun e w' => e = .returned t.val ∧ ∃ FL', CaGo w w' p lp tb (del f b) (s.rem b) FL FL') :
    Calls Try.prog 52 #[.pointer (some ⟨p, 0, none⟩), .int .i64 b] w' fun e w'' => e = .returned t.val ∧ ∃ FL', CaGo w w'' p lp tb (del f b) (s.rem b) FL0 FL' ∧ Chg (fun j => j = tb ∨ FL j) w' w'' ∧ ∀ j, FL' j → FL j ∨ w'.heap.size ≤ j := by
  obtain ⟨o, r⟩ := h.raw
  exact (lose b t r hf).mono fun _ _ ⟨h1, F', h2⟩ => ⟨h1, F', h.trans h2, h2.chg, h2.fresh⟩
theorem CaGo.lines (h : CaGo w w' p lp tb f s FL0 FL) : LinesAt w' lp s FL := by obtain ⟨⟨o, r⟩, _, _⟩ := h; exact r.lines
theorem CaGo.remove (b : Int) (h : CaGo w w' p lp tb f s FL0 FL) : Calls Try.prog 18 #[.pointer (some ⟨lp, 0, none⟩), .int .i64 b] w' fun e w'' => e = .returned (.bool (s.has b)) ∧ ∃ FL', CaGo w w'' p lp tb f (s.rem b) FL0 FL' ∧ Moves w' w'' FL FL' :=
  (Remove_calls b h.lines).mono fun _ _ ⟨h1, F', h2, h3⟩ => ⟨h1, F', h.line h2 h3, h3⟩
theorem CaGo.use (b : Int) (h : CaGo w w' p lp tb f s FL0 FL) : Calls Try.prog 21 #[.pointer (some ⟨lp, 0, none⟩), .int .i64 b] w' fun e w'' => e = .returned (.bool (s.has b)) ∧ ∃ FL', CaGo w w'' p lp tb f (s.use b) FL0 FL' ∧ Moves w' w'' FL FL' :=
  (Use_calls b h.lines).mono fun _ _ ⟨h1, F', h2, h3⟩ => ⟨h1, F', h.line h2 h3, h3⟩
theorem CaGo.add (b : Int) (h : CaGo w w' p lp tb f s FL0 FL) : Calls Try.prog 19 #[.pointer (some ⟨lp, 0, none⟩), .int .i64 b] w' fun e w'' => e = .returned (.bool (s.can b)) ∧ ∃ FL', CaGo w w'' p lp tb f (s.add b) FL0 FL' ∧ Moves w' w'' FL FL' :=
  (Add_calls b h.lines).mono fun _ _ ⟨h1, F', h2, h3⟩ => ⟨h1, F', h.line h2 h3, h3⟩
/-- The cells that a walk reads. -/
theorem CaGo.cells (h : CaGo w w' p lp tb f s FL0 FL) : w'.cell? ⟨p, 0, none⟩ = some (.pointer (some ⟨lp, 0, none⟩)) ∧ w'.cell? ⟨p, 1, none⟩ = some (.map (some tb)) ∧ ∃ o, ob w' tb = some o ∧ MapObj o f := by
  obtain ⟨⟨o, r⟩, _, _⟩ := h
  exact ⟨cell_ob r.at_ 0, cell_ob r.at_ 1, o, r.map, r.obj⟩

set_option maxHeartbeats 2000000 in
set_option maxRecDepth 20000 in
theorem Get_calls {c : CacheM} {F : Nat → Prop} (b : Int) (h : CacheAt w p c F) : Calls Try.prog 28 #[.pointer (some ⟨p, 0, none⟩), .int .i64 b] w (Pure w (c.tok b).val) := by
  obtain ⟨lp, tb, o, f, FL, r, ht, ok, _, _⟩ := h
  have c1 : w.cell? ⟨p, 1, none⟩ = some (.map (some tb)) := cell_ob r.at_ 1
  have hm := r.map
  have lm := ob_lt hm
  have lp' := ob_lt r.at_
  have hlk : ∀ W : World, ob W tb = some o → (Instr.lookup 84 (.map (some tb)) (.int .i64 b) false).run Try.prog W = .ok (c.tok b).val W := fun W hW => by
    rw [r.obj.lookup tyIB b _ W hW, ht.get ok]
  simp only [Bundle.val, Bundle.cells] at hlk ⊢
  clear r ht ok
  go_enter Try.func28, Try.ntmps28
  go_wp2_with fail
  (try simp only [Exit.inBlock, Exit.then])
  refine bodyRet1 _ rfl rfl (ResIs.row Try.underlying47 rfl (by kernel_rfl) rfl (by simp [go_sem]; exact ⟨rfl, rfl, rfl⟩)) ?_
  exact pure_of rfl (by repeat (first | with_reducible exact Chg.refl _ _ | with_reducible exact chg0 | with_reducible refine Chg.drewN ?_ _ | with_reducible refine Chg.drew ?_ | with_reducible refine Chg.alloc ?_ _ | with_reducible refine Chg.setCell ?_ _ _ (by first | (simp; done) | omega | (simp; omega)) | with_reducible refine Chg.setBlock ?_ _ _ (by first | (simp; done) | omega | (simp; omega)) | exact Chg.refl _ _))

set_option maxHeartbeats 2000000 in
set_option maxRecDepth 20000 in
theorem lose_calls (b : Int) (t : Bundle) (r : CaRaw w p lp tb o f s FL) (hf : (f b).getD Bundle.none.val = t.val) :
    Calls Try.prog 52 #[.pointer (some ⟨p, 0, none⟩), .int .i64 b] w fun e w' => e = .returned t.val ∧ ∃ FL', CaGo w w' p lp tb (del f b) (s.rem b) FL FL' := by
  have c0 : w.cell? ⟨p, 0, none⟩ = some (.pointer (some ⟨lp, 0, none⟩)) := cell_ob r.at_ 0
  have c1 : w.cell? ⟨p, 1, none⟩ = some (.map (some tb)) := cell_ob r.at_ 1
  have hm := r.map
  have lm := ob_lt hm
  have lp' := ob_lt r.at_
  have lm1 : tb < w.heap.size + 1 := Nat.lt_succ_of_lt lm
  have lp1 : p < w.heap.size + 1 := Nat.lt_succ_of_lt lp'
  have hne := r.ne
  have hlk : ∀ W : World, ob W tb = some o → (Instr.lookup 84 (.map (some tb)) (.int .i64 b) false).run Try.prog W = .ok t.val W := fun W hW => by
    rw [r.obj.lookup tyIB b _ W hW, hf]
  obtain ⟨o2, ho2, hdel⟩ := r.obj.delete tyIB b tb
  have HO2 := Lib.hid ho2
  have R := Lib.hid r
  simp only [Bundle.val, Bundle.cells] at hlk ⊢
  clear r hf ho2
  go_enter Try.func52, Try.ntmps52
  go_wp2_with fail
  refine (CaGo.remove b (((CaGo.start R.out).same (Chg.below (by repeat (first | with_reducible exact Chg.refl _ _ | with_reducible exact chg0 | with_reducible refine Chg.drewN ?_ _ | with_reducible refine Chg.drew ?_ | with_reducible refine Chg.alloc ?_ _ | with_reducible refine Chg.setCell ?_ _ _ (by first | (simp; done) | omega | (simp; omega)) | with_reducible refine Chg.setBlock ?_ _ _ (by first | (simp; done) | omega | (simp; omega)) | exact Chg.refl _ _)))).put HO2.out)).mono ?_
  rintro e w2 ⟨rfl, FL', hg, hmv⟩
  have HG := Lib.hid hg
  have hfl : ∀ j, FL j → j < w.heap.size := fun j hj => R.out.lines.fin hj
  have o0 : ob w2 w.heap.size = some (.cells #[.int .i64 0, .bool false, .bool false, .int .i64 0] 47 (0, 0)) := hmv.chg.ob (by simp [go_sem, Nat.ne_of_gt lm]) (fun h => absurd (hfl _ h) (Nat.lt_irrefl _))
  have o1 : ob w2 (w.heap.size + 1) = some (.cells #[.int .i64 t.count, .bool t.owner, .bool t.has, .int .i64 t.data] 47 (0, 0)) := hmv.chg.ob (by simp [go_sem, Nat.ne_of_gt lm1]) (fun h => by have := hfl _ h; omega)
  obtain ⟨a0, a1, a2, a3, af⟩ := ob_cells4 o0
  obtain ⟨b0, b1, b2, b3, bf⟩ := ob_cells4 o1
  have l0 := ob_lt o0
  have l1 := ob_lt o1
  generalize s.has b = r1
  have HM := Lib.hid hmv.fresh
  have HFL := Lib.hid hfl
  clear hg hmv hfl
  go_wp2_with fail
  (try simp only [Exit.inBlock, Exit.then])
  refine bodyRet1 _ rfl rfl (ResIs.row Try.underlying47 rfl (by kernel_rfl) rfl (by simp [go_sem, o0, o1, l0, l1]; exact ⟨rfl, rfl, rfl⟩)) ?_
  refine ⟨rfl, FL', HG.out.own (S := fun j => j = w.heap.size) (by repeat (first | with_reducible exact Chg.refl _ _ | with_reducible exact chg0 | with_reducible refine Chg.drewN ?_ _ | with_reducible refine Chg.drew ?_ | with_reducible refine Chg.alloc ?_ _ | with_reducible refine Chg.setCell ?_ _ _ (by first | (simp; done) | omega | (simp; omega)) | with_reducible refine Chg.setBlock ?_ _ _ (by first | (simp; done) | omega | (simp; omega)) | exact Chg.refl _ _)) (fun j e => Nat.le_of_eq e.symm) ?_⟩
  rintro j (rfl | rfl | hj) e
  · omega
  · omega
  · subst e
    rcases HM.out w.heap.size hj with h | h
    · exact absurd (HFL.out _ h) (Nat.lt_irrefl _)
    · simp [go_sem] at h; omega
end
end Go.Proofs.Ytocnhmakgbdbfaa
