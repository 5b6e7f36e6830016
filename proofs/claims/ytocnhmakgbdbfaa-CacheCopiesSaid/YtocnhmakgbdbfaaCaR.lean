/-
  The document's cache: what it is in memory; New, Get, set.
-/
import Derived.Test.YtocnhmakgbdbfaaCa1
import Derived.Test.YtocnhmakgbdbfaaCaRM
import Derived.Test.YtocnhmakgbdbfaaLnR3
import Derived.Test.YtocnhmakgbdbfaaLnR5
namespace Go.Proofs.Ytocnhmakgbdbfaa
open Go.RowKit Go.Sort Go.ChangeShapes Go.WideShapes Go.ChangeAt
open Go.ChangeMaps (setBlock)
set_option linter.unusedVariables false
set_option linter.unusedSimpArgs false

theorem tyLines : SlTy Try.prog 66 53 5 32 Line.none.val := ⟨Try.underlying66, by kernel_rfl, rfl, by decide, by decide⟩
theorem lines_ok (l : List Line) : RowsOk 5 (l.map Line.cells) := ⟨fun r hr => by obtain ⟨d, _, rfl⟩ := List.mem_map.1 hr; rfl, fun r hr u hu => by
  obtain ⟨d, _, rfl⟩ := List.mem_map.1 hr
  simp only [Line.cells, List.mem_cons, List.not_mem_nil, or_false] at hu
  rcases hu with rfl | rfl | rfl | rfl | rfl <;> rfl⟩

structure RcRaw (w : World) (p lp : Nat) (v : Value) (s : Lines) (D : List Line) (FL : Nat → Prop) : Prop where
  at_ : ob w p = some (.cells #[.pointer (some ⟨lp, 0, none⟩), v] 94 (0, 0))
  lines : RefAt w lp s FL
  own : OwnSl w 53 5 v (D.map Line.cells)
  ne1 : ¬ FL p
  ne2 : ∀ j, v.ownBlock = some j → ¬ FL j
def RcAt (w : World) (p lp : Nat) (s : Lines) (D : List Line) (F : Nat → Prop) : Prop :=
  ∃ v FL, RcRaw w p lp v s D FL ∧ (∀ j, j = p ∨ v.ownBlock = some j ∨ FL j → F j) ∧ ∀ j, F j → j < w.heap.size

section
variable {w w' : World} {p lp : Nat} {v : Value} {s s' : Lines} {D D' : List Line} {FL FL' F : Nat → Prop}
theorem RefAt.fin {w : World} {p : Nat} {s : Lines} {F : Nat → Prop} (h : RefAt w p s F) {j : Nat} (hj : F j) : j < w.heap.size := by
  obtain ⟨_, _, _, h3⟩ := h; exact h3 j hj
theorem RcRaw.ne (h : RcRaw w p lp v s D FL) : ∀ j, v.ownBlock = some j → j ≠ p := by
  rintro j hj rfl
  obtain ⟨c, hc⟩ := h.own.typed hj
  have hp := h.at_
  rw [hp] at hc; injection hc with hc; injection hc with _ hc; revert hc; decide
theorem RcRaw.chg {S : Nat → Prop} (h : RcRaw w p lp v s D FL) (hc : Chg S w w') (hn : ∀ j, j = p ∨ v.ownBlock = some j ∨ FL j → ¬ S j) : RcRaw w' p lp v s D FL :=
  ⟨hc.ob h.at_ (hn _ (.inl rfl)), h.lines.chg hc fun j hj => hn j (.inr (.inr hj)), h.own.chg hc fun j hj => hn j (.inr (.inl hj)), h.ne1, h.ne2⟩
theorem RcAt.chg {S : Nat → Prop} (h : RcAt w p lp s D F) (hc : Chg S w w') (hn : ∀ j, F j → ¬ S j) : RcAt w' p lp s D F := by
  obtain ⟨v, FL, h1, h2, h3⟩ := h
  exact ⟨v, FL, h1.chg hc fun j hj => hn j (h2 j hj), h2, fun j hj => Nat.lt_of_lt_of_le (h3 j hj) hc.size⟩
theorem RcAt.below (h : RcAt w p lp s D F) (hb : Below w.heap.size w w') : RcAt w' p lp s D F := h.chg (S := fun _ => False) (Chg.of_below hb) fun _ _ h => h
theorem RcAt.lt (h : RcAt w p lp s D F) {j : Nat} (hj : F j) : j < w.heap.size := by obtain ⟨_, _, _, _, h⟩ := h; exact h j hj
theorem RcAt.cell (h : RcAt w p lp s D F) : w.cell? ⟨p, 0, none⟩ = some (.pointer (some ⟨lp, 0, none⟩)) ∧ F p := by
  obtain ⟨v, FL, h1, h2, h3⟩ := h
  exact ⟨cell_ob h1.at_ 0, h2 p (.inl rfl)⟩
theorem RcAt.ok (h : RcAt w p lp s D F) : s.Ok := by obtain ⟨v, FL, h1, h2, h3⟩ := h; exact h1.lines.ok
/-- A call on its lines. -/
theorem RcAt.line (h : RcAt w p lp s D F) : ∃ FL, RefAt w lp s FL ∧ ∀ w' s' FL', RefAt w' lp s' FL' → Moves w w' FL FL' → ∃ F', RcAt w' p lp s' D F' ∧ Moves w w' F F' := by
  obtain ⟨v, FL, h1, h2, h3⟩ := h
  refine ⟨FL, h1.lines, fun w' s' FL' h4 mv => ⟨fun j => F j ∨ (FL' j ∧ w.heap.size ≤ j), ⟨v, FL', ⟨mv.chg.ob h1.at_ h1.ne1, h4, h1.own.chg mv.chg h1.ne2, fun hj => ?_, fun j hv hj => ?_⟩, ?_, ?_⟩, ?_, fun j hj => hj.imp id And.right⟩⟩
  · rcases mv.fresh _ hj with h | h
    · exact h1.ne1 h
    · have := ob_lt h1.at_; omega
  · rcases mv.fresh _ hj with h | h
    · exact h1.ne2 j hv h
    · have := h1.own.lt hv; omega
  · rintro j (rfl | hj | hj)
    · exact .inl (h2 _ (.inl rfl))
    · exact .inl (h2 _ (.inr (.inl hj)))
    · rcases mv.fresh j hj with h | h
      · exact .inl (h2 _ (.inr (.inr h)))
      · exact .inr ⟨hj, h⟩
  · rintro j (hj | ⟨hj, _⟩)
    · exact Nat.lt_of_lt_of_le (h3 j hj) mv.chg.size
    · exact h4.fin hj
  · exact mv.chg.mono fun j _ hj => h2 j (.inr (.inr hj))
theorem RcAt.use (b : Int) (h : RcAt w p lp s D F) : Calls Try.prog 56 #[.pointer (some ⟨lp, 0, none⟩), .int .i64 b] w fun e w' => e = .returned (.bool (s.has b)) ∧ ∃ F', RcAt w' p lp (s.use b) D F' ∧ Moves w w' F F' := by
  have := Lines.few h.ok
  obtain ⟨FL, h1, h2⟩ := h.line
  exact (RefUse_calls b h1 (by omega)).mono fun _ _ ⟨e, F', h3, h4⟩ => ⟨e, h2 _ _ _ h3 h4⟩
theorem RcAt.remove (b : Int) (h : RcAt w p lp s D F) : Calls Try.prog 74 #[.pointer (some ⟨lp, 0, none⟩), .int .i64 b] w fun e w' => e = .returned (.bool (s.has b)) ∧ ∃ F', RcAt w' p lp (s.rem b) D F' ∧ Moves w w' F F' := by
  have := Lines.few h.ok
  obtain ⟨FL, h1, h2⟩ := h.line
  exact (RefRemove_calls b h1 (by omega)).mono fun _ _ ⟨e, F', h3, h4⟩ => ⟨e, h2 _ _ _ h3 h4⟩
theorem RcAt.add (b : Int) (h : RcAt w p lp s D F) : Calls Try.prog 61 #[.pointer (some ⟨lp, 0, none⟩), .int .i64 b] w fun e w' => e = .returned (.bool (s.can b)) ∧ ∃ F', RcAt w' p lp (s.add b) D F' ∧ Moves w w' F F' := by
  have := Lines.few h.ok
  obtain ⟨FL, h1, h2⟩ := h.line
  exact (RefAdd_calls b h1 (by omega)).mono fun _ _ ⟨e, F', h3, h4⟩ => ⟨e, h2 _ _ _ h3 h4⟩
theorem RcAt.has (b : Int) (h : RcAt w p lp s D F) : Calls Try.prog 60 #[.pointer (some ⟨lp, 0, none⟩), .int .i64 b] w fun e w' => e = .returned (.bool (s.has b)) ∧ ∃ n, w' = w.drewN n := by
  obtain ⟨FL, h1, h2⟩ := h.line
  exact RefHas_calls b h1
theorem RcAt.victim (b x : Int) (h : RcAt w p lp s D F) : Calls Try.prog 59 #[.pointer (some ⟨lp, 0, none⟩), .int .i64 b, .int .i64 x] w fun e w' => e = .returned (.tuple #[.int .i64 (s.victim b x).1, .bool (s.victim b x).2]) ∧ Below w.heap.size w w' := by
  have := Lines.few h.ok
  obtain ⟨FL, h1, h2⟩ := h.line
  exact RefVictim_calls b x h1 (by omega)

theorem RefCacheNew_calls (a b : Int) (w : World) : Calls Try.prog 31 #[.int .i64 a, .int .i64 b] w fun e w' => ∃ p lp F, e = .returned (.pointer (some ⟨p, 0, none⟩)) ∧ RcAt w' p lp (Lines.new a b) [] F ∧ (∀ j, F j → w.heap.size ≤ j) ∧ Below w.heap.size w w' := by
  go_enter Try.func31, Try.ntmps31
  go_wp2_with fail
  refine (RefNew_calls a b _).mono ?_
  rintro e w1 ⟨lp, FL, rfl, h1, h2, h3⟩
  go_wp2_with fail
  go_ret
  have s1 := h3.size
  have hlt := fun j (hj : FL j) => h1.fin hj
  refine ⟨w1.heap.size, lp, fun j => j = w1.heap.size ∨ FL j, rfl, ⟨.slice none 0 0, FL, ⟨?_, h1.below (Chg.below (by repeat (first | with_reducible exact Chg.refl _ _ | with_reducible exact chg0 | with_reducible refine Chg.drewN ?_ _ | with_reducible refine Chg.drew ?_ | with_reducible refine Chg.alloc ?_ _ | with_reducible refine Chg.setCell ?_ _ _ (by first | (simp; done) | omega | (simp; omega)) | with_reducible refine Chg.setBlock ?_ _ _ (by first | (simp; done) | omega | (simp; omega)) | exact Chg.refl _ _))), OwnSl.nil, ?_, ?_⟩, ?_, ?_⟩, ?_, below_trans h3 (Chg.below (by repeat (first | with_reducible exact Chg.refl _ _ | with_reducible exact chg0 | with_reducible refine Chg.drewN ?_ _ | with_reducible refine Chg.drew ?_ | with_reducible refine Chg.alloc ?_ _ | with_reducible refine Chg.setCell ?_ _ _ (by first | (simp; done) | omega | (simp; omega)) | with_reducible refine Chg.setBlock ?_ _ _ (by first | (simp; done) | omega | (simp; omega)) | exact Chg.refl _ _)))⟩
  · simp [go_sem]
  · exact fun h => by have := hlt _ h; omega
  · intro j hj; simp [Value.ownBlock] at hj
  · rintro j (rfl | hj | hj)
    · exact .inl rfl
    · simp [Value.ownBlock] at hj
    · exact .inr hj
  · rintro j (rfl | hj)
    · simp
    · have := hlt j hj
      simp <;> omega
  · rintro j (rfl | hj)
    · omega
    · exact h2 j hj

/-- What a slice of lines reads as. -/
theorem sliceLines {w : World} {v : Value} {l : List Line} (h : SliceIs w 5 v (l.map Line.cells)) :
    ∃ A cap, v = .slice A l.length cap ∧ l.length ≤ cap ∧ l.length ≤ 9223372036854775807 ∧ (0 < l.length → ∃ b off, A = some ⟨b, off, none⟩ ∧ ∀ j, (hj : j < l.length) → w.rangeAt b (off + j * 5) (l[j]).cells) := by
  obtain ⟨A, cap, rfl, h1, h2, h3⟩ := h
  simp only [List.length_map] at h1 h2 h3 ⊢
  refine ⟨A, cap, rfl, h1, h2, fun hp => ?_⟩
  obtain ⟨b, off, e, hr⟩ := h3 hp
  exact ⟨b, off, e, fun j hj => hr j _ (by simp [hj])⟩

set_option maxHeartbeats 2000000 in
set_option maxRecDepth 20000 in
theorem RefGet_calls (b : Int) (h : RcAt w p lp s D F) : Calls Try.prog 36 #[.pointer (some ⟨p, 0, none⟩), .int .i64 b] w (Pure w (lookD D b).val) := by
  obtain ⟨v, FL, r, _, _⟩ := h
  have c1 : w.cell? ⟨p, 1, none⟩ = some v := cell_ob r.at_ 1
  have lp' := ob_lt r.at_
  obtain ⟨A, cap, rfl, hA1, hA2, hA3⟩ := sliceLines r.own.slice
  have HA := Lib.hid hA3
  simp only [Bundle.val, Bundle.cells]
  clear r hA3
  go_enter Try.func36, Try.ntmps36
  go_wp2_with fail
  go_loop [5] (fun i => ∃ k : Nat, k ≤ D.length ∧ i = .int .i64 k ∧ lookD D b = lookD (D.drop k) b) (fun i => D.length - (intOf i).toNat)
  case atStart => exact ⟨0, Nat.zero_le _, rfl, rfl⟩
  case round =>
    obtain ⟨k, hk, rfl, hf⟩ := hrel
    have Hf := Lib.hid hf
    clear hf
    by_cases hlt : k < D.length
    · obtain ⟨q, off, rfl, hc⟩ := HA.out (by omega)
      have hrow := hc k hlt
      have hd : D.drop k = D[k] :: D.drop (k + 1) := List.drop_eq_getElem_cons hlt
      have Hd := Lib.hid hd
      clear hd hc
      obtain ⟨x, hx⟩ : ∃ x, x = D[k] := ⟨_, rfl⟩
      rw [← hx] at hrow Hd
      clear hx
      obtain ⟨d0, d1, d2, d3, d4⟩ := Line.range hrow
      have lq := World.block_lt_of_cell? w _ d0
      clear hrow
      by_cases hxb : x.block = b
      · have hx' : (x.block == b) = true := by simpa using hxb
        have hx2 : decide (x.block = b) = true := by simpa using hxb
        have HX := Lib.hid hxb
        clear hxb
        go_wp2_with fail
        (try simp only [Exit.inBlock, Exit.then])
        refine bodyRet1 _ rfl rfl (ResIs.row Try.underlying47 rfl (by kernel_rfl) rfl (by simp [go_sem, *]; exact ⟨rfl, rfl, rfl⟩)) ?_
        refine pure_of ?_ (by repeat (first | with_reducible exact Chg.refl _ _ | with_reducible exact chg0 | with_reducible refine Chg.drewN ?_ _ | with_reducible refine Chg.drew ?_ | with_reducible refine Chg.alloc ?_ _ | with_reducible refine Chg.setCell ?_ _ _ (by first | (simp; done) | omega | (simp; omega)) | with_reducible refine Chg.setBlock ?_ _ _ (by first | (simp; done) | omega | (simp; omega)) | exact Chg.refl _ _))
        rw [Hf.out, Hd.out, lookD, if_pos HX.out]
      · have hx' : (x.block == b) = false := by simpa using hxb
        have hx2 : decide (x.block = b) = false := by simpa using hxb
        go_wp2_with fail
        exact ⟨⟨k + 1, by omega, by go_num, by rw [Hf.out, Hd.out, lookD, if_neg hxb]⟩, by simp [intOf]; omega⟩
    · go_wp2_with fail
      (try simp only [Exit.inBlock, Exit.then])
      refine bodyRet1 _ rfl rfl (ResIs.row Try.underlying47 rfl (by kernel_rfl) rfl (by simp [go_sem, *]; exact ⟨rfl, rfl, rfl⟩)) ?_
      refine pure_of ?_ (by repeat (first | with_reducible exact Chg.refl _ _ | with_reducible exact chg0 | with_reducible refine Chg.drewN ?_ _ | with_reducible refine Chg.drew ?_ | with_reducible refine Chg.alloc ?_ _ | with_reducible refine Chg.setCell ?_ _ _ (by first | (simp; done) | omega | (simp; omega)) | with_reducible refine Chg.setBlock ?_ _ _ (by first | (simp; done) | omega | (simp; omega)) | exact Chg.refl _ _))
      rw [Hf.out, List.drop_of_length_le (by omega)]
      rfl

theorem RcAt.put {v3 : Value} (h : RcAt w p lp s D F) (ho : OwnSl w 53 5 v3 (D'.map Line.cells)) (hn : ∀ j, v3.ownBlock = some j → ¬ F j) :
    RcAt (w.setCell ⟨p, 1, none⟩ v3) p lp s D' (fun j => F j ∨ v3.ownBlock = some j) ∧ Chg F w (w.setCell ⟨p, 1, none⟩ v3) := by
  obtain ⟨v, FL, r, hF, hFl⟩ := h
  have hc : Chg (fun j => j = p) w (w.setCell ⟨p, 1, none⟩ v3) := (Chg.refl _ _).setCell _ _ (fun _ => rfl)
  have hs := hc.size
  have hFp := hF p (.inl rfl)
  refine ⟨⟨v3, FL, ⟨?_, r.lines.chg hc fun j hj e => r.ne1 (by rw [← e]; exact hj), ho.chg hc fun j hj e => hn j hj (by rw [e]; exact hFp), r.ne1, fun j hj hf => hn j hj (hF j (.inr (.inr hf)))⟩, ?_, ?_⟩, hc.mono fun j _ e => by rw [e]; exact hFp⟩
  · rw [ob_setCell_same, r.at_]; rfl
  · rintro j (rfl | hj | hj)
    · exact .inl hFp
    · exact .inr hj
    · exact .inl (hF j (.inr (.inr hj)))
  · rintro j (hj | hj)
    · exact Nat.lt_of_lt_of_le (hFl j hj) hs
    · exact Nat.lt_of_lt_of_le (ho.lt hj) hs

theorem behindAppend {u x : Value} {W wr w5 : World} (hW : Chg (fun _ => False) wr W) (hc5 : Chg (fun k => u.ownBlock = some k) W w5) (hpn : ¬ u.ownBlock = some p) (lpw : p < wr.heap.size)
    (c1 : wr.cell? ⟨p, 1, none⟩ = some x) (f1 : wr.frozen? ⟨p, 1, none⟩ = false) : Chg (fun j => u.ownBlock = some j) wr w5 ∧ w5.cell? ⟨p, 1, none⟩ = some x ∧ w5.frozen? ⟨p, 1, none⟩ = false := by
  have hcc : Chg (fun j => u.ownBlock = some j) wr w5 := (hW.mono fun _ _ h => h.elim).trans hc5 fun _ _ h => h
  exact ⟨hcc, hcc.cell c1 hpn, by rw [hcc.frozen lpw hpn]; exact f1⟩

set_option maxHeartbeats 4000000 in
set_option maxRecDepth 20000 in
theorem RefSet_calls (b : Int) (t : Bundle) (h : RcAt w p lp s D F) (hl : D.length ≤ 100000) : Calls Try.prog 57 #[.pointer (some ⟨p, 0, none⟩), .int .i64 b, t.val] w fun e w' =>
    e = .returned (.tuple #[]) ∧ ∃ F', RcAt w' p lp (if 0 < t.count then s else s.rem b) (setD D b t) F' ∧ Moves w w' F F' := by
  obtain ⟨s', hs'⟩ : ∃ s', s' = if 0 < t.count then s else s.rem b := ⟨_, rfl⟩
  rw [← hs']
  have HS' := Lib.hid hs'
  clear hs'
  obtain ⟨v, FL, r, hF, hFl⟩ := h
  have c1 : w.cell? ⟨p, 1, none⟩ = some v := cell_ob r.at_ 1
  have lp' := ob_lt r.at_
  obtain ⟨A, cap, hv, hA1, hA2, hA3⟩ := sliceLines r.own.slice
  have HA := Lib.hid hA3
  have R := Lib.hid r
  have HF := Lib.hid hF
  have HFl := Lib.hid hFl
  rw [hv] at c1
  simp only [Bundle.val, Bundle.cells]
  clear r hA3 hF hFl
  go_enter Try.func57, Try.ntmps57
  go_wp2_with fail
  go_loopw [6, 7] (fun u i wr => ∃ k : Nat, k ≤ D.length ∧ i = .int .i64 k ∧ OwnSl wr 53 5 u (((D.take k).filter fun x => decide (x.block ≠ b)).map Line.cells) ∧ (∀ j, u.ownBlock = some j → w.heap.size + 1 ≤ j) ∧ Below w.heap.size w wr ∧ ob wr w.heap.size = some (.cells #[.int .i64 t.count, .bool t.owner, .bool t.has, .int .i64 t.data] 47 (0, 0))) (fun _ i _ => D.length - (intOf i).toNat)
  case atStart => exact ⟨0, Nat.zero_le _, rfl, OwnSl.made (c := #[]) (ob_alloc_new _ _ _ (by simp)) RowsOk.nil rfl (by decide), fun j hj => by simp only [Value.ownBlock, Option.some.injEq] at hj; omega, Chg.below (by repeat (first | with_reducible exact Chg.refl _ _ | with_reducible exact chg0 | with_reducible refine Chg.drewN ?_ _ | with_reducible refine Chg.drew ?_ | with_reducible refine Chg.alloc ?_ _ | with_reducible refine Chg.setCell ?_ _ _ (by first | (simp; done) | omega | (simp; omega)) | with_reducible refine Chg.setBlock ?_ _ _ (by first | (simp; done) | omega | (simp; omega)) | exact Chg.refl _ _)), by simp [go_sem]⟩
  case round =>
    obtain ⟨k, hk, rfl, hown, hlo, hb, ht⟩ := hrel
    have Hown := Lib.hid hown
    have Hlo := Lib.hid hlo
    have Hb := Lib.hid hb
    have sr := hb.size
    have Ht := Lib.hid ht
    have c1r : wr.cell? ⟨p, 1, none⟩ = some (.slice A D.length cap) := by rw [hb.cell lp']; exact c1
    obtain ⟨a0, a1, a2, a3, af⟩ := ob_cells4 ht
    have lt0 := ob_lt ht
    clear hown hlo c1 ht
    by_cases hlt : k < D.length
    · obtain ⟨q, off, rfl, hc⟩ := HA.out (by omega)
      have hrow := rangeAt_below (hc k hlt) hb
      have htk : D.take (k + 1) = D.take k ++ [D[k]] := List.take_succ_eq_append_getElem hlt
      obtain ⟨x, hx⟩ : ∃ x, x = D[k] := ⟨_, rfl⟩
      rw [← hx] at hrow htk
      have Htk := Lib.hid htk
      have hfl : ((D.take k).filter fun x => decide (x.block ≠ b)).length ≤ k := by
        have := List.length_filter_le (fun x : Line => decide (x.block ≠ b)) (D.take k)
        rw [List.length_take] at this
        exact Nat.le_trans this (Nat.min_le_left _ _)
      clear hx hc htk hb
      obtain ⟨d0, d1, d2, d3, d4⟩ := Line.range hrow
      have lq := World.block_lt_of_cell? wr _ d0
      clear hrow
      by_cases hxb : x.block = b
      · have hx' : (x.block != b) = false := by simpa using hxb
        have hx2 : decide (x.block = b) = true := by simpa using hxb
        have HX := Lib.hid hxb
        clear hxb
        go_wp2_with fail
        exact ⟨⟨k + 1, by omega, by go_num, by rw [Htk.out, List.filter_append, List.filter_cons, if_neg (by simp [HX.out])]; simpa using Hown.out.chg (S := fun _ => False) (by repeat (first | with_reducible exact Chg.refl _ _ | with_reducible exact chg0 | with_reducible refine Chg.drewN ?_ _ | with_reducible refine Chg.drew ?_ | with_reducible refine Chg.alloc ?_ _ | with_reducible refine Chg.setCell ?_ _ _ (by first | (simp; done) | omega | (simp; omega)) | with_reducible refine Chg.setBlock ?_ _ _ (by first | (simp; done) | omega | (simp; omega)) | exact Chg.refl _ _)) (fun _ _ h => h), Hlo.out, below_trans Hb.out (Chg.below (by repeat (first | with_reducible exact Chg.refl _ _ | with_reducible exact chg0 | with_reducible refine Chg.drewN ?_ _ | with_reducible refine Chg.drew ?_ | with_reducible refine Chg.alloc ?_ _ | with_reducible refine Chg.setCell ?_ _ _ (by first | (simp; done) | omega | (simp; omega)) | with_reducible refine Chg.setBlock ?_ _ _ (by first | (simp; done) | omega | (simp; omega)) | exact Chg.refl _ _))), Ht.out⟩, by simp [intOf]; omega⟩
      · have hx' : (x.block != b) = true := by simpa using hxb
        have hx2 : decide (x.block = b) = false := by simpa using hxb
        have HX := Lib.hid hxb
        clear hxb
        go_wp2_with (at_builtin; refine wpList_append_sl (xs := ((D.take k).filter fun x => decide (x.block ≠ b)).map Line.cells) (ys := [x.cells]) rfl _ _ rfl tyLines rfl rfl (Hown.out.chg (S := fun _ => False) (by repeat (first | with_reducible exact Chg.refl _ _ | with_reducible exact chg0 | with_reducible refine Chg.drewN ?_ _ | with_reducible refine Chg.drew ?_ | with_reducible refine Chg.alloc ?_ _ | with_reducible refine Chg.setCell ?_ _ _ (by first | (simp; done) | omega | (simp; omega)) | with_reducible refine Chg.setBlock ?_ _ _ (by first | (simp; done) | omega | (simp; omega)) | exact Chg.refl _ _)) (fun _ _ h => h)) (OwnSl.made (e := 53) (ob_alloc_new _ _ _ rfl) (lines_ok [x]) rfl (by simp)).slice (lines_ok [x]) (by simp only [List.length_map, List.length_singleton]; omega) ?_; intro v5 w5 ho hc5 hloc)
        have hcc : Chg (fun j => u6.ownBlock = some j) wr w5 := Chg.trans (S' := fun j => u6.ownBlock = some j) (by repeat (first | with_reducible exact Chg.refl _ _ | with_reducible exact chg0 | with_reducible refine Chg.drewN ?_ _ | with_reducible refine Chg.drew ?_ | with_reducible refine Chg.alloc ?_ _ | with_reducible refine Chg.setCell ?_ _ _ (by first | (simp; done) | omega | (simp; omega)) | with_reducible refine Chg.setBlock ?_ _ _ (by first | (simp; done) | omega | (simp; omega)) | exact Chg.refl _ _)) hc5 (fun _ _ h => h)
        refine ⟨⟨k + 1, by omega, by go_num, by rw [Htk.out, List.filter_append, List.filter_cons, if_pos (by simpa using HX.out), List.filter_nil, List.map_append]; exact ho, ?_, below_chg Hb.out hcc (fun j hj e => by have := Hlo.out j e; omega), hcc.ob Ht.out (fun e => by have := Hlo.out _ e; omega)⟩, by simp [intOf]; omega⟩
        intro j hj
        rcases hloc with h | h
        · rw [h] at hj; exact Hlo.out j hj
        · rw [h] at hj; injection hj with hj; rw [← hj]; simp; omega
    · have htk : D.take k = D := List.take_of_length_le (by omega)
      rw [htk] at Hown
      have hfl : (D.filter fun x => decide (x.block ≠ b)).length ≤ D.length := List.length_filter_le _ _
      have RA := Lib.hid (show RcAt w p lp s D F from ⟨v, FL, R.out, HF.out, HFl.out⟩)
      have f1r : wr.frozen? ⟨p, 1, none⟩ = false := by rw [hb.frozen lp']; exact frozen_ob R.out.at_ 1
      have c0r : wr.cell? ⟨p, 0, none⟩ = some (.pointer (some ⟨lp, 0, none⟩)) := by rw [hb.cell lp']; exact cell_ob R.out.at_ 0
      by_cases hp : 0 < t.count
      · have hp' : decide (0 < t.count) = true := by simpa using hp
        have HP := Lib.hid hp
        clear hp
        have hpn : ¬ u6.ownBlock = some p := fun e => by have := Hlo.out p e; omega
        have lpw : p < wr.heap.size := by omega
        go_wp2_with (at_builtin; refine wpList_append_sl (xs := (D.filter fun x => decide (x.block ≠ b)).map Line.cells) (ys := [(⟨b, t⟩ : Line).cells]) rfl _ _ rfl tyLines rfl rfl (Hown.out.chg (S := fun _ => False) (by repeat (first | with_reducible exact Chg.refl _ _ | with_reducible exact chg0 | with_reducible refine Chg.drewN ?_ _ | with_reducible refine Chg.drew ?_ | with_reducible refine Chg.alloc ?_ _ | with_reducible refine Chg.setCell ?_ _ _ (by first | (simp; done) | omega | (simp; omega)) | with_reducible refine Chg.setBlock ?_ _ _ (by first | (simp; done) | omega | (simp; omega)) | exact Chg.refl _ _)) (fun _ _ h => h)) (OwnSl.made (e := 53) (ob_alloc_new _ _ _ rfl) (lines_ok [⟨b, t⟩]) rfl (by simp)).slice (lines_ok [⟨b, t⟩]) (by simp only [List.length_map, List.length_singleton]; omega) ?_; intro v5 w5 ho hc5 hloc; obtain ⟨hcc, c1'', f1''⟩ := behindAppend (u := u6) (wr := wr) (by repeat (first | with_reducible exact Chg.refl _ _ | with_reducible exact chg0 | with_reducible refine Chg.drewN ?_ _ | with_reducible refine Chg.drew ?_ | with_reducible refine Chg.alloc ?_ _ | with_reducible refine Chg.setCell ?_ _ _ (by first | (simp; done) | omega | (simp; omega)) | with_reducible refine Chg.setBlock ?_ _ _ (by first | (simp; done) | omega | (simp; omega)) | exact Chg.refl _ _)) hc5 hpn lpw c1r f1r; obtain ⟨A5, n5, cap5, hv5⟩ := ho.shape; subst hv5)
        go_end0
        have hw5 : Chg (fun _ => False) w w5 := Chg.trans (S' := fun j => u6.ownBlock = some j) (Chg.of_below Hb.out) hcc (fun j hj e => by have := Hlo.out j e; omega)
        have hlo5 : ∀ j, (Value.slice A5 n5 cap5).ownBlock = some j → w.heap.size ≤ j := by
          intro j hj
          rcases hloc with h | h
          · rw [h] at hj; have := Hlo.out j hj; omega
          · rw [h] at hj; injection hj with hj; rw [← hj]; simp; omega
        have R5 := RA.out.chg hw5 (fun _ _ h => h)
        rw [HS'.out, if_pos HP.out]
        obtain ⟨g1, g2⟩ := R5.put (D' := setD D b t) (by unfold setD; rw [if_pos HP.out, List.map_append]; exact ho) (fun j hj hf => by have := hlo5 j hj; have := HFl.out j hf; omega)
        exact ⟨rfl, _, g1, (hw5.mono (S' := F) fun _ _ h => h.elim).trans g2 (fun _ _ h => h), fun j hj => hj.imp id (hlo5 j)⟩
      · have hp' : decide (0 < t.count) = false := by simpa using hp
        have HP := Lib.hid hp
        clear hp
        go_wp2_with fail
        refine (RcAt.remove b (RA.out.chg (S := fun _ => False) (Chg.of_below Hb.out) (fun _ _ h => h))).mono ?_
        rintro e w5 ⟨rfl, F5, hr5, hm5⟩
        have hpF : F p := HF.out p (.inl rfl)
        have hsz5 := hm5.chg.size
        obtain ⟨A5, n5, cap5, hv5⟩ := Hown.out.shape
        subst hv5
        have ho5 := Hown.out.chg hm5.chg (fun j hj hf => by have := Hlo.out j hj; have := HFl.out j hf; omega)
        have hw5 : Chg F w w5 := (Chg.of_below Hb.out).trans hm5.chg (fun _ _ h => h)
        obtain ⟨v', FL', r5, hF5, hFl5⟩ := hr5
        have c1'' : w5.cell? ⟨p, 1, none⟩ = some v' := cell_ob r5.at_ 1
        have f1'' : w5.frozen? ⟨p, 1, none⟩ = false := frozen_ob r5.at_ 1
        have R5 := Lib.hid (show RcAt w5 p lp (s.rem b) D F5 from ⟨v', FL', r5, hF5, hFl5⟩)
        clear r5 hF5 hFl5
        generalize s.has b = r1
        go_wp2_with fail
        go_end0
        have hpp : ¬ 0 < t.count := by have := HP.out; omega
        rw [HS'.out, if_neg hpp]
        have hap : ∀ j, (Value.slice A5 n5 cap5).ownBlock = some j → ¬ F5 j := fun j hj hf => by
          have h1 := Hlo.out j hj
          rcases hm5.fresh j hf with h | h
          · have := HFl.out j h; omega
          · have h2 := Hown.out.lt hj
            omega
        obtain ⟨g1, g2⟩ := R5.out.put (D' := setD D b t) (by unfold setD; rw [if_neg hpp, List.append_nil]; exact ho5) hap
        refine ⟨rfl, _, g1, hw5.trans g2 (fun j hj hf => (hm5.fresh j hf).elim id (fun h => by omega)), fun j hj => ?_⟩
        rcases hj with hj | hj
        · rcases hm5.fresh j hj with h | h
          · exact .inl h
          · right; omega
        · right; have := Hlo.out j hj; omega
end
end Go.Proofs.Ytocnhmakgbdbfaa
