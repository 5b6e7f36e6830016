/-
  The document's cache: what it is in memory; New, Get, set.
-/
import Derived.Test.YtchlioikkhnidaaGreatMF
import Derived.Test.YtchlioikkhnidaaGreatMA
import Derived.Test.YtchlioikkhnidaaGreatME
import Derived.Test.YtchlioikkhnidaaGreatMH
import Derived.BigRegion
import Derived.Deep.RegionHeld3
import Derived.Test.YtchlioikkhnidaaGreatMG
import Derived.StillTailTactics
import Derived.Deep.LoopGhost
set_option linter.unusedVariables false
set_option linter.unusedSimpArgs false
namespace Go.Proofs.YtchlioikkhnidaaGreat
open Go.RowKit Go.Sort Go.ChangeShapes Go.WideShapes Go.ChangeAt
open Go.ChangeMaps (setBlock)
set_option linter.unusedVariables false
set_option linter.unusedSimpArgs false

theorem tyLines : SlTy Tryz.prog 47 53 5 32 Line.none.val := ⟨Tryz.underlying47, by kernel_rfl, rfl, by decide, by decide⟩
theorem lines_ok (l : List Line) : RowsOk 5 (l.map Line.cells) := ⟨fun r hr => by obtain ⟨d, _, rfl⟩ := List.mem_map.1 hr; rfl, fun r hr u hu => by
  obtain ⟨d, _, rfl⟩ := List.mem_map.1 hr
  simp only [Line.cells, List.mem_cons, List.not_mem_nil, or_false] at hu
  rcases hu with rfl | rfl | rfl | rfl | rfl <;> rfl⟩

structure RcRaw (w : World) (p lp : Nat) (v : Value) (s : Lines) (D : List Line) (FL : Nat → Prop) : Prop where
  at_ : ob w p = some (.cells #[.pointer (some ⟨lp, 0, none⟩), v] 182 (0, 0))
  lines : RefAt w lp s FL
  own : OwnSl w 53 5 v (D.map Line.cells)
  ne1 : ¬ FL p
  ne2 : ∀ j, v.ownBlock = some j → ¬ FL j
def RcAt (w : World) (p lp : Nat) (s : Lines) (D : List Line) (F : Nat → Prop) : Prop :=
  ∃ v FL, RcRaw w p lp v s D FL ∧ (∀ j, j = p ∨ v.ownBlock = some j ∨ FL j → F j) ∧ ∀ j, F j → j < w.heap.size

section
variable {w w' : World} {p lp : Nat} {v : Value} {s s' : Lines} {D D' : List Line} {FL FL' F : Nat → Prop}
theorem RefAt.fin {w : World} {p : Nat} {s : Lines} {F : Nat → Prop} (h : RefAt w p s F) {j : Nat} (hj : F j) : j < w.heap.size := by
  obtain ⟨_, _, _, h3⟩ := h; exact h3 j hj
theorem RcRaw.ne (h : RcRaw w p lp v s D FL) : ∀ j, v.ownBlock = some j → j ≠ p := by
  rintro j hj rfl
  obtain ⟨c, hc⟩ := h.own.typed hj
  have hp := h.at_
  rw [hp] at hc; injection hc with hc; injection hc with _ hc; revert hc; decide
theorem RcRaw.chg {S : Nat → Prop} (h : RcRaw w p lp v s D FL) (hc : Chg S w w') (hn : ∀ j, j = p ∨ v.ownBlock = some j ∨ FL j → ¬ S j) : RcRaw w' p lp v s D FL :=
  ⟨hc.ob h.at_ (hn _ (.inl rfl)), h.lines.chg hc fun j hj => hn j (.inr (.inr hj)), h.own.chg hc fun j hj => hn j (.inr (.inl hj)), h.ne1, h.ne2⟩
theorem RcAt.chg {S : Nat → Prop} (h : RcAt w p lp s D F) (hc : Chg S w w') (hn : ∀ j, F j → ¬ S j) : RcAt w' p lp s D F := by
  obtain ⟨v, FL, h1, h2, h3⟩ := h
  exact ⟨v, FL, h1.chg hc fun j hj => hn j (h2 j hj), h2, fun j hj => Nat.lt_of_lt_of_le (h3 j hj) hc.size⟩
theorem RcAt.below (h : RcAt w p lp s D F) (hb : Below w.heap.size w w') : RcAt w' p lp s D F := h.chg (S := fun _ => False) (Chg.of_below hb) fun _ _ h => h
theorem RcAt.lt (h : RcAt w p lp s D F) {j : Nat} (hj : F j) : j < w.heap.size := by obtain ⟨_, _, _, _, h⟩ := h; exact h j hj
theorem RcAt.cell (h : RcAt w p lp s D F) : w.cell? ⟨p, 0, none⟩ = some (.pointer (some ⟨lp, 0, none⟩)) ∧ F p := by
  obtain ⟨v, FL, h1, h2, h3⟩ := h
  exact ⟨cell_ob h1.at_ 0, h2 p (.inl rfl)⟩
theorem RcAt.ok (h : RcAt w p lp s D F) : s.Ok := by obtain ⟨v, FL, h1, h2, h3⟩ := h; exact h1.lines.ok
/-- A call on its lines. -/
theorem RcAt.line (h : RcAt w p lp s D F) : ∃ FL, RefAt w lp s FL ∧ ∀ w' s' FL', RefAt w' lp s' FL' → Moves w w' FL FL' → ∃ F', RcAt w' p lp s' D F' ∧ Moves w w' F F' := by
  obtain ⟨v, FL, h1, h2, h3⟩ := h
  refine ⟨FL, h1.lines, fun w' s' FL' h4 mv => ⟨fun j => F j ∨ (FL' j ∧ w.heap.size ≤ j), ⟨v, FL', ⟨mv.chg.ob h1.at_ h1.ne1, h4, h1.own.chg mv.chg h1.ne2, fun hj => ?_, fun j hv hj => ?_⟩, ?_, ?_⟩, ?_, fun j hj => hj.imp id And.right⟩⟩
  · rcases mv.fresh _ hj with h | h
    · exact h1.ne1 h
    · have := ob_lt h1.at_; omega
  · rcases mv.fresh _ hj with h | h
    · exact h1.ne2 j hv h
    · have := h1.own.lt hv; omega
  · rintro j (rfl | hj | hj)
    · exact .inl (h2 _ (.inl rfl))
    · exact .inl (h2 _ (.inr (.inl hj)))
    · rcases mv.fresh j hj with h | h
      · exact .inl (h2 _ (.inr (.inr h)))
      · exact .inr ⟨hj, h⟩
  · rintro j (hj | ⟨hj, _⟩)
    · exact Nat.lt_of_lt_of_le (h3 j hj) mv.chg.size
    · exact h4.fin hj
  · exact mv.chg.mono fun j _ hj => h2 j (.inr (.inr hj))
theorem RcAt.use (b : Int) (h : RcAt w p lp s D F) : Calls Tryz.prog 108 #[.pointer (some ⟨lp, 0, none⟩), .int .i64 b] w fun e w' => e = .returned (.bool (s.has b)) ∧ ∃ F', RcAt w' p lp (s.use b) D F' ∧ Moves w w' F F' := by
  have := Lines.few h.ok
  obtain ⟨FL, h1, h2⟩ := h.line
  exact (RefUse_calls b h1 (by omega)).mono fun _ _ ⟨e, F', h3, h4⟩ => ⟨e, h2 _ _ _ h3 h4⟩
theorem RcAt.remove (b : Int) (h : RcAt w p lp s D F) : Calls Tryz.prog 140 #[.pointer (some ⟨lp, 0, none⟩), .int .i64 b] w fun e w' => e = .returned (.bool (s.has b)) ∧ ∃ F', RcAt w' p lp (s.rem b) D F' ∧ Moves w w' F F' := by
  have := Lines.few h.ok
  obtain ⟨FL, h1, h2⟩ := h.line
  exact (RefRemove_calls b h1 (by omega)).mono fun _ _ ⟨e, F', h3, h4⟩ => ⟨e, h2 _ _ _ h3 h4⟩
theorem RcAt.add (b : Int) (h : RcAt w p lp s D F) : Calls Tryz.prog 113 #[.pointer (some ⟨lp, 0, none⟩), .int .i64 b] w fun e w' => e = .returned (.bool (s.can b)) ∧ ∃ F', RcAt w' p lp (s.add b) D F' ∧ Moves w w' F F' := by
  have := Lines.few h.ok
  obtain ⟨FL, h1, h2⟩ := h.line
  exact (RefAdd_calls b h1 (by omega)).mono fun _ _ ⟨e, F', h3, h4⟩ => ⟨e, h2 _ _ _ h3 h4⟩
theorem RcAt.has (b : Int) (h : RcAt w p lp s D F) : Calls Tryz.prog 112 #[.pointer (some ⟨lp, 0, none⟩), .int .i64 b] w fun e w' => e = .returned (.bool (s.has b)) ∧ ∃ n, w' = w.drewN n := by
  obtain ⟨FL, h1, h2⟩ := h.line
  exact RefHas_calls b h1
theorem RcAt.victim (b x : Int) (h : RcAt w p lp s D F) : Calls Tryz.prog 111 #[.pointer (some ⟨lp, 0, none⟩), .int .i64 b, .int .i64 x] w fun e w' => e = .returned (.tuple #[.int .i64 (s.victim b x).1, .bool (s.victim b x).2]) ∧ Below w.heap.size w w' := by
  have := Lines.few h.ok
  obtain ⟨FL, h1, h2⟩ := h.line
  exact RefVictim_calls b x h1 (by omega)

theorem RefCacheNew_calls (a b : Int) (w : World) : Calls Tryz.prog 76 #[.int .i64 a, .int .i64 b] w fun e w' => ∃ p lp F, e = .returned (.pointer (some ⟨p, 0, none⟩)) ∧ RcAt w' p lp (Lines.new a b) [] F ∧ (∀ j, F j → w.heap.size ≤ j) ∧ Below w.heap.size w w' := by
  go_enter Tryz.func76, Tryz.ntmps76
  go_wp2_with fail
  refine (RefNew_calls a b _).mono ?_
  rintro e w1 ⟨lp, FL, rfl, h1, h2, h3⟩
  go_wp2_with fail
  go_ret
  have s1 := h3.size
  have hlt := fun j (hj : FL j) => h1.fin hj
  refine ⟨w1.heap.size, lp, fun j => j = w1.heap.size ∨ FL j, rfl, ⟨.slice none 0 0, FL, ⟨?_, h1.below (Chg.below (by repeat (first | with_reducible exact Chg.refl _ _ | with_reducible exact chg0 | with_reducible refine Chg.drewN ?_ _ | with_reducible refine Chg.drew ?_ | with_reducible refine Chg.alloc ?_ _ | with_reducible refine Chg.setCell ?_ _ _ (by first | (simp; done) | omega | (simp; omega)) | with_reducible refine Chg.setBlock ?_ _ _ (by first | (simp; done) | omega | (simp; omega)) | exact Chg.refl _ _))), OwnSl.nil, ?_, ?_⟩, ?_, ?_⟩, ?_, below_trans h3 (Chg.below (by repeat (first | with_reducible exact Chg.refl _ _ | with_reducible exact chg0 | with_reducible refine Chg.drewN ?_ _ | with_reducible refine Chg.drew ?_ | with_reducible refine Chg.alloc ?_ _ | with_reducible refine Chg.setCell ?_ _ _ (by first | (simp; done) | omega | (simp; omega)) | with_reducible refine Chg.setBlock ?_ _ _ (by first | (simp; done) | omega | (simp; omega)) | exact Chg.refl _ _)))⟩
  · simp [go_sem]
  · exact fun h => by have := hlt _ h; omega
  · intro j hj; simp [Value.ownBlock] at hj
  · rintro j (rfl | hj | hj)
    · exact .inl rfl
    · simp [Value.ownBlock] at hj
    · exact .inr hj
  · rintro j (rfl | hj)
    · simp
    · have := hlt j hj
      simp <;> omega
  · rintro j (rfl | hj)
    · omega
    · exact h2 j hj

/-- What a slice of lines reads as. -/
theorem sliceLines {w : World} {v : Value} {l : List Line} (h : SliceIs w 5 v (l.map Line.cells)) :
    ∃ A cap, v = .slice A l.length cap ∧ l.length ≤ cap ∧ l.length ≤ 9223372036854775807 ∧ (0 < l.length → ∃ b off, A = some ⟨b, off, none⟩ ∧ ∀ j, (hj : j < l.length) → w.rangeAt b (off + j * 5) (l[j]).cells) := by
  obtain ⟨A, cap, rfl, h1, h2, h3⟩ := h
  simp only [List.length_map] at h1 h2 h3 ⊢
  refine ⟨A, cap, rfl, h1, h2, fun hp => ?_⟩
  obtain ⟨b, off, e, hr⟩ := h3 hp
  exact ⟨b, off, e, fun j hj => hr j _ (by simp [hj])⟩

set_option maxHeartbeats 2000000 in
set_option maxRecDepth 20000 in
theorem RefGet_calls (b : Int) (h : RcAt w p lp s D F) : Calls Tryz.prog 62 #[.pointer (some ⟨p, 0, none⟩), .int .i64 b] w (Pure w (lookD D b).val) := by
  obtain ⟨v, FL, r, _, _⟩ := h
  have c1 : w.cell? ⟨p, 1, none⟩ = some v := cell_ob r.at_ 1
  have lp' := ob_lt r.at_
  obtain ⟨A, cap, rfl, hA1, hA2, hA3⟩ := sliceLines r.own.slice
  have HA := Lib.hid hA3
  simp only [Bundle.val, Bundle.cells]
  clear r hA3
  go_enter Tryz.func62, Tryz.ntmps62
  go_wp2_with fail
  go_loop [5] (fun i => ∃ k : Nat, k ≤ D.length ∧ i = .int .i64 k ∧ lookD D b = lookD (D.drop k) b) (fun i => D.length - (intOf i).toNat)
  case atStart => exact ⟨0, Nat.zero_le _, rfl, rfl⟩
  case round =>
    obtain ⟨k, hk, rfl, hf⟩ := hrel
    have Hf := Lib.hid hf
    clear hf
    by_cases hlt : k < D.length
    · obtain ⟨q, off, rfl, hc⟩ := HA.out (by omega)
      have hrow := hc k hlt
      have hd : D.drop k = D[k] :: D.drop (k + 1) := List.drop_eq_getElem_cons hlt
      have Hd := Lib.hid hd
      clear hd hc
      obtain ⟨x, hx⟩ : ∃ x, x = D[k] := ⟨_, rfl⟩
      rw [← hx] at hrow Hd
      clear hx
      obtain ⟨d0, d1, d2, d3, d4⟩ := Line.range hrow
      have lq := World.block_lt_of_cell? w _ d0
      clear hrow
      by_cases hxb : x.block = b
      · have hx' : (x.block == b) = true := by simpa using hxb
        have hx2 : decide (x.block = b) = true := by simpa using hxb
        have HX := Lib.hid hxb
        clear hxb
        go_wp2_with fail
        (try simp only [Exit.inBlock, Exit.then])
        refine bodyRet1 _ rfl rfl (ResIs.row Tryz.underlying42 rfl (by kernel_rfl) rfl (by simp [go_sem, *]; exact ⟨rfl, rfl, rfl⟩)) ?_
        refine pure_of ?_ (by repeat (first | with_reducible exact Chg.refl _ _ | with_reducible exact chg0 | with_reducible refine Chg.drewN ?_ _ | with_reducible refine Chg.drew ?_ | with_reducible refine Chg.alloc ?_ _ | with_reducible refine Chg.setCell ?_ _ _ (by first | (simp; done) | omega | (simp; omega)) | with_reducible refine Chg.setBlock ?_ _ _ (by first | (simp; done) | omega | (simp; omega)) | exact Chg.refl _ _))
        rw [Hf.out, Hd.out, lookD, if_pos HX.out]
      · have hx' : (x.block == b) = false := by simpa using hxb
        have hx2 : decide (x.block = b) = false := by simpa using hxb
        go_wp2_with fail
        exact ⟨⟨k + 1, by omega, by go_num, by rw [Hf.out, Hd.out, lookD, if_neg hxb]⟩, by simp [intOf]; omega⟩
    · go_wp2_with fail
      (try simp only [Exit.inBlock, Exit.then])
      refine bodyRet1 _ rfl rfl (ResIs.row Tryz.underlying42 rfl (by kernel_rfl) rfl (by simp [go_sem, *]; exact ⟨rfl, rfl, rfl⟩)) ?_
      refine pure_of ?_ (by repeat (first | with_reducible exact Chg.refl _ _ | with_reducible exact chg0 | with_reducible refine Chg.drewN ?_ _ | with_reducible refine Chg.drew ?_ | with_reducible refine Chg.alloc ?_ _ | with_reducible refine Chg.setCell ?_ _ _ (by first | (simp; done) | omega | (simp; omega)) | with_reducible refine Chg.setBlock ?_ _ _ (by first | (simp; done) | omega | (simp; omega)) | exact Chg.refl _ _))
      rw [Hf.out, List.drop_of_length_le (by omega)]
      rfl

theorem RcAt.put {v3 : Value} (h : RcAt w p lp s D F) (ho : OwnSl w 53 5 v3 (D'.map Line.cells)) (hn : ∀ j, v3.ownBlock = some j → ¬ F j) :
    RcAt (w.setCell ⟨p, 1, none⟩ v3) p lp s D' (fun j => F j ∨ v3.ownBlock = some j) ∧ Chg F w (w.setCell ⟨p, 1, none⟩ v3) := by
  obtain ⟨v, FL, r, hF, hFl⟩ := h
  have hc : Chg (fun j => j = p) w (w.setCell ⟨p, 1, none⟩ v3) := (Chg.refl _ _).setCell _ _ (fun _ => rfl)
  have hs := hc.size
  have hFp := hF p (.inl rfl)
  refine ⟨⟨v3, FL, ⟨?_, r.lines.chg hc fun j hj e => r.ne1 (by rw [← e]; exact hj), ho.chg hc fun j hj e => hn j hj (by rw [e]; exact hFp), r.ne1, fun j hj hf => hn j hj (hF j (.inr (.inr hf)))⟩, ?_, ?_⟩, hc.mono fun j _ e => by rw [e]; exact hFp⟩
  · rw [ob_setCell_same, r.at_]; rfl
  · rintro j (rfl | hj | hj)
    · exact .inl hFp
    · exact .inr hj
    · exact .inl (hF j (.inr (.inr hj)))
  · rintro j (hj | hj)
    · exact Nat.lt_of_lt_of_le (hFl j hj) hs
    · exact Nat.lt_of_lt_of_le (ho.lt hj) hs

theorem behindAppend {u x : Value} {W wr w5 : World} (hW : Chg (fun _ => False) wr W) (hc5 : Chg (fun k => u.ownBlock = some k) W w5) (hpn : ¬ u.ownBlock = some p) (lpw : p < wr.heap.size)
    (c1 : wr.cell? ⟨p, 1, none⟩ = some x) (f1 : wr.frozen? ⟨p, 1, none⟩ = false) : Chg (fun j => u.ownBlock = some j) wr w5 ∧ w5.cell? ⟨p, 1, none⟩ = some x ∧ w5.frozen? ⟨p, 1, none⟩ = false := by
  have hcc : Chg (fun j => u.ownBlock = some j) wr w5 := (hW.mono fun _ _ h => h.elim).trans hc5 fun _ _ h => h
  exact ⟨hcc, hcc.cell c1 hpn, by rw [hcc.frozen lpw hpn]; exact f1⟩

set_option maxHeartbeats 4000000 in
set_option maxRecDepth 20000 in
theorem RefSet_calls (b : Int) (t : Bundle) (h : RcAt w p lp s D F) (hl : D.length ≤ 100000) : Calls Tryz.prog 109 #[.pointer (some ⟨p, 0, none⟩), .int .i64 b, t.val] w fun e w' =>
    e = .returned (.tuple #[]) ∧ ∃ F', RcAt w' p lp (if 0 < t.count then s else s.rem b) (setD D b t) F' ∧ Moves w w' F F' := by
  obtain ⟨s', hs'⟩ : ∃ s', s' = if 0 < t.count then s else s.rem b := ⟨_, rfl⟩
  rw [← hs']
  have HS' := Lib.hid hs'
  clear hs'
  obtain ⟨v, FL, r, hF, hFl⟩ := h
  have c1 : w.cell? ⟨p, 1, none⟩ = some v := cell_ob r.at_ 1
  have lp' := ob_lt r.at_
  obtain ⟨A, cap, hv, hA1, hA2, hA3⟩ := sliceLines r.own.slice
  have HA := Lib.hid hA3
  have R := Lib.hid r
  have HF := Lib.hid hF
  have HFl := Lib.hid hFl
  rw [hv] at c1
  simp only [Bundle.val, Bundle.cells]
  clear r hA3 hF hFl
  go_enter Tryz.func109, Tryz.ntmps109
  go_wp2_with fail
  go_loopw [6, 7] (fun u i wr => ∃ k : Nat, k ≤ D.length ∧ i = .int .i64 k ∧ OwnSl wr 53 5 u (((D.take k).filter fun x => decide (x.block ≠ b)).map Line.cells) ∧ (∀ j, u.ownBlock = some j → w.heap.size + 1 ≤ j) ∧ Below w.heap.size w wr ∧ ob wr w.heap.size = some (.cells #[.int .i64 t.count, .bool t.owner, .bool t.has, .int .i64 t.data] 42 (0, 0))) (fun _ i _ => D.length - (intOf i).toNat)
  case atStart => exact ⟨0, Nat.zero_le _, rfl, OwnSl.made (c := #[]) (ob_alloc_new _ _ _ (by simp)) RowsOk.nil rfl (by decide), fun j hj => by simp only [Value.ownBlock, Option.some.injEq] at hj; omega, Chg.below (by repeat (first | with_reducible exact Chg.refl _ _ | with_reducible exact chg0 | with_reducible refine Chg.drewN ?_ _ | with_reducible refine Chg.drew ?_ | with_reducible refine Chg.alloc ?_ _ | with_reducible refine Chg.setCell ?_ _ _ (by first | (simp; done) | omega | (simp; omega)) | with_reducible refine Chg.setBlock ?_ _ _ (by first | (simp; done) | omega | (simp; omega)) | exact Chg.refl _ _)), by simp [go_sem]⟩
  case round =>
    obtain ⟨k, hk, rfl, hown, hlo, hb, ht⟩ := hrel
    have Hown := Lib.hid hown
    have Hlo := Lib.hid hlo
    have Hb := Lib.hid hb
    have sr := hb.size
    have Ht := Lib.hid ht
    have c1r : wr.cell? ⟨p, 1, none⟩ = some (.slice A D.length cap) := by rw [hb.cell lp']; exact c1
    obtain ⟨a0, a1, a2, a3, af⟩ := ob_cells4 ht
    have lt0 := ob_lt ht
    clear hown hlo c1 ht
    by_cases hlt : k < D.length
    · obtain ⟨q, off, rfl, hc⟩ := HA.out (by omega)
      have hrow := rangeAt_below (hc k hlt) hb
      have htk : D.take (k + 1) = D.take k ++ [D[k]] := List.take_succ_eq_append_getElem hlt
      obtain ⟨x, hx⟩ : ∃ x, x = D[k] := ⟨_, rfl⟩
      rw [← hx] at hrow htk
      have Htk := Lib.hid htk
      have hfl : ((D.take k).filter fun x => decide (x.block ≠ b)).length ≤ k := by
        have := List.length_filter_le (fun x : Line => decide (x.block ≠ b)) (D.take k)
        rw [List.length_take] at this
        exact Nat.le_trans this (Nat.min_le_left _ _)
      clear hx hc htk hb
      obtain ⟨d0, d1, d2, d3, d4⟩ := Line.range hrow
      have lq := World.block_lt_of_cell? wr _ d0
      clear hrow
      by_cases hxb : x.block = b
      · have hx' : (x.block != b) = false := by simpa using hxb
        have hx2 : decide (x.block = b) = true := by simpa using hxb
        have HX := Lib.hid hxb
        clear hxb
        go_wp2_with fail
        exact ⟨⟨k + 1, by omega, by go_num, by rw [Htk.out, List.filter_append, List.filter_cons, if_neg (by simp [HX.out])]; simpa using Hown.out.chg (S := fun _ => False) (by repeat (first | with_reducible exact Chg.refl _ _ | with_reducible exact chg0 | with_reducible refine Chg.drewN ?_ _ | with_reducible refine Chg.drew ?_ | with_reducible refine Chg.alloc ?_ _ | with_reducible refine Chg.setCell ?_ _ _ (by first | (simp; done) | omega | (simp; omega)) | with_reducible refine Chg.setBlock ?_ _ _ (by first | (simp; done) | omega | (simp; omega)) | exact Chg.refl _ _)) (fun _ _ h => h), Hlo.out, below_trans Hb.out (Chg.below (by repeat (first | with_reducible exact Chg.refl _ _ | with_reducible exact chg0 | with_reducible refine Chg.drewN ?_ _ | with_reducible refine Chg.drew ?_ | with_reducible refine Chg.alloc ?_ _ | with_reducible refine Chg.setCell ?_ _ _ (by first | (simp; done) | omega | (simp; omega)) | with_reducible refine Chg.setBlock ?_ _ _ (by first | (simp; done) | omega | (simp; omega)) | exact Chg.refl _ _))), Ht.out⟩, by simp [intOf]; omega⟩
      · have hx' : (x.block != b) = true := by simpa using hxb
        have hx2 : decide (x.block = b) = false := by simpa using hxb
        have HX := Lib.hid hxb
        clear hxb
        go_wp2_with (at_builtin; refine wpList_append_sl (xs := ((D.take k).filter fun x => decide (x.block ≠ b)).map Line.cells) (ys := [x.cells]) rfl _ _ rfl tyLines rfl rfl (Hown.out.chg (S := fun _ => False) (by repeat (first | with_reducible exact Chg.refl _ _ | with_reducible exact chg0 | with_reducible refine Chg.drewN ?_ _ | with_reducible refine Chg.drew ?_ | with_reducible refine Chg.alloc ?_ _ | with_reducible refine Chg.setCell ?_ _ _ (by first | (simp; done) | omega | (simp; omega)) | with_reducible refine Chg.setBlock ?_ _ _ (by first | (simp; done) | omega | (simp; omega)) | exact Chg.refl _ _)) (fun _ _ h => h)) (OwnSl.made (e := 53) (ob_alloc_new _ _ _ rfl) (lines_ok [x]) rfl (by simp)).slice (lines_ok [x]) (by simp only [List.length_map, List.length_singleton]; omega) ?_; intro v5 w5 ho hc5 hloc)
        have hcc : Chg (fun j => u6.ownBlock = some j) wr w5 := Chg.trans (S' := fun j => u6.ownBlock = some j) (by repeat (first | with_reducible exact Chg.refl _ _ | with_reducible exact chg0 | with_reducible refine Chg.drewN ?_ _ | with_reducible refine Chg.drew ?_ | with_reducible refine Chg.alloc ?_ _ | with_reducible refine Chg.setCell ?_ _ _ (by first | (simp; done) | omega | (simp; omega)) | with_reducible refine Chg.setBlock ?_ _ _ (by first | (simp; done) | omega | (simp; omega)) | exact Chg.refl _ _)) hc5 (fun _ _ h => h)
        refine ⟨⟨k + 1, by omega, by go_num, by rw [Htk.out, List.filter_append, List.filter_cons, if_pos (by simpa using HX.out), List.filter_nil, List.map_append]; exact ho, ?_, below_chg Hb.out hcc (fun j hj e => by have := Hlo.out j e; omega), hcc.ob Ht.out (fun e => by have := Hlo.out _ e; omega)⟩, by simp [intOf]; omega⟩
        intro j hj
        rcases hloc with h | h
        · rw [h] at hj; exact Hlo.out j hj
        · rw [h] at hj; injection hj with hj; rw [← hj]; simp; omega
    · have htk : D.take k = D := List.take_of_length_le (by omega)
      rw [htk] at Hown
      have hfl : (D.filter fun x => decide (x.block ≠ b)).length ≤ D.length := List.length_filter_le _ _
      have RA := Lib.hid (show RcAt w p lp s D F from ⟨v, FL, R.out, HF.out, HFl.out⟩)
      have f1r : wr.frozen? ⟨p, 1, none⟩ = false := by rw [hb.frozen lp']; exact frozen_ob R.out.at_ 1
      have c0r : wr.cell? ⟨p, 0, none⟩ = some (.pointer (some ⟨lp, 0, none⟩)) := by rw [hb.cell lp']; exact cell_ob R.out.at_ 0
      by_cases hp : 0 < t.count
      · have hp' : decide (0 < t.count) = true := by simpa using hp
        have HP := Lib.hid hp
        clear hp
        have hpn : ¬ u6.ownBlock = some p := fun e => by have := Hlo.out p e; omega
        have lpw : p < wr.heap.size := by omega
        go_wp2_with (at_builtin; refine wpList_append_sl (xs := (D.filter fun x => decide (x.block ≠ b)).map Line.cells) (ys := [(⟨b, t⟩ : Line).cells]) rfl _ _ rfl tyLines rfl rfl (Hown.out.chg (S := fun _ => False) (by repeat (first | with_reducible exact Chg.refl _ _ | with_reducible exact chg0 | with_reducible refine Chg.drewN ?_ _ | with_reducible refine Chg.drew ?_ | with_reducible refine Chg.alloc ?_ _ | with_reducible refine Chg.setCell ?_ _ _ (by first | (simp; done) | omega | (simp; omega)) | with_reducible refine Chg.setBlock ?_ _ _ (by first | (simp; done) | omega | (simp; omega)) | exact Chg.refl _ _)) (fun _ _ h => h)) (OwnSl.made (e := 53) (ob_alloc_new _ _ _ rfl) (lines_ok [⟨b, t⟩]) rfl (by simp)).slice (lines_ok [⟨b, t⟩]) (by simp only [List.length_map, List.length_singleton]; omega) ?_; intro v5 w5 ho hc5 hloc; obtain ⟨hcc, c1'', f1''⟩ := behindAppend (u := u6) (wr := wr) (by repeat (first | with_reducible exact Chg.refl _ _ | with_reducible exact chg0 | with_reducible refine Chg.drewN ?_ _ | with_reducible refine Chg.drew ?_ | with_reducible refine Chg.alloc ?_ _ | with_reducible refine Chg.setCell ?_ _ _ (by first | (simp; done) | omega | (simp; omega)) | with_reducible refine Chg.setBlock ?_ _ _ (by first | (simp; done) | omega | (simp; omega)) | exact Chg.refl _ _)) hc5 hpn lpw c1r f1r; obtain ⟨A5, n5, cap5, hv5⟩ := ho.shape; subst hv5)
        go_end0
        have hw5 : Chg (fun _ => False) w w5 := Chg.trans (S' := fun j => u6.ownBlock = some j) (Chg.of_below Hb.out) hcc (fun j hj e => by have := Hlo.out j e; omega)
        have hlo5 : ∀ j, (Value.slice A5 n5 cap5).ownBlock = some j → w.heap.size ≤ j := by
          intro j hj
          rcases hloc with h | h
          · rw [h] at hj; have := Hlo.out j hj; omega
          · rw [h] at hj; injection hj with hj; rw [← hj]; simp; omega
        have R5 := RA.out.chg hw5 (fun _ _ h => h)
        rw [HS'.out, if_pos HP.out]
        obtain ⟨g1, g2⟩ := R5.put (D' := setD D b t) (by unfold setD; rw [if_pos HP.out, List.map_append]; exact ho) (fun j hj hf => by have := hlo5 j hj; have := HFl.out j hf; omega)
        exact ⟨rfl, _, g1, (hw5.mono (S' := F) fun _ _ h => h.elim).trans g2 (fun _ _ h => h), fun j hj => hj.imp id (hlo5 j)⟩
      · have hp' : decide (0 < t.count) = false := by simpa using hp
        have HP := Lib.hid hp
        clear hp
        go_wp2_with fail
        refine (RcAt.remove b (RA.out.chg (S := fun _ => False) (Chg.of_below Hb.out) (fun _ _ h => h))).mono ?_
        rintro e w5 ⟨rfl, F5, hr5, hm5⟩
        have hpF : F p := HF.out p (.inl rfl)
        have hsz5 := hm5.chg.size
        obtain ⟨A5, n5, cap5, hv5⟩ := Hown.out.shape
        subst hv5
        have ho5 := Hown.out.chg hm5.chg (fun j hj hf => by have := Hlo.out j hj; have := HFl.out j hf; omega)
        have hw5 : Chg F w w5 := (Chg.of_below Hb.out).trans hm5.chg (fun _ _ h => h)
        obtain ⟨v', FL', r5, hF5, hFl5⟩ := hr5
        have c1'' : w5.cell? ⟨p, 1, none⟩ = some v' := cell_ob r5.at_ 1
        have f1'' : w5.frozen? ⟨p, 1, none⟩ = false := frozen_ob r5.at_ 1
        have R5 := Lib.hid (show RcAt w5 p lp (s.rem b) D F5 from ⟨v', FL', r5, hF5, hFl5⟩)
        clear r5 hF5 hFl5
        generalize s.has b = r1
        go_wp2_with fail
        go_end0
        have hpp : ¬ 0 < t.count := by have := HP.out; omega
        rw [HS'.out, if_neg hpp]
        have hap : ∀ j, (Value.slice A5 n5 cap5).ownBlock = some j → ¬ F5 j := fun j hj hf => by
          have h1 := Hlo.out j hj
          rcases hm5.fresh j hf with h | h
          · have := HFl.out j h; omega
          · have h2 := Hown.out.lt hj
            omega
        obtain ⟨g1, g2⟩ := R5.out.put (D' := setD D b t) (by unfold setD; rw [if_neg hpp, List.append_nil]; exact ho5) hap
        refine ⟨rfl, _, g1, hw5.trans g2 (fun j hj hf => (hm5.fresh j hf).elim id (fun h => by omega)), fun j hj => ?_⟩
        rcases hj with hj | hj
        · rcases hm5.fresh j hj with h | h
          · exact .inl h
          · right; omega
        · right; have := Hlo.out j hj; omega
end
end Go.Proofs.YtchlioikkhnidaaGreat

/-
  The document's cache: Absorb.
-/
namespace Go.Proofs.YtchlioikkhnidaaGreat
open Go.RowKit Go.Sort Go.ChangeShapes Go.WideShapes Go.ChangeAt
open Go.ChangeMaps (setBlock)
set_option linter.unusedVariables false
set_option linter.unusedSimpArgs false

theorem keep4 {S : Nat → Prop} {w w' : World} {k : Nat} {a b c d : Value} (hc : Chg S w w') (hn : ¬ S k) (h : w.cell? ⟨k, 0, none⟩ = some a ∧ w.cell? ⟨k, 1, none⟩ = some b ∧ w.cell? ⟨k, 2, none⟩ = some c ∧ w.cell? ⟨k, 3, none⟩ = some d) :
    w'.cell? ⟨k, 0, none⟩ = some a ∧ w'.cell? ⟨k, 1, none⟩ = some b ∧ w'.cell? ⟨k, 2, none⟩ = some c ∧ w'.cell? ⟨k, 3, none⟩ = some d :=
  ⟨hc.cell h.1 hn, hc.cell h.2.1 hn, hc.cell h.2.2.1 hn, hc.cell h.2.2.2 hn⟩
theorem Moves.fin {S : Nat → Prop} {w W0 w4 wf : World} {F F4 : Nat → Prop} (h0 : Chg (fun _ => False) w W0) (m : Moves W0 w4 F F4) (ho : Chg S w4 wf) (hS : ∀ j, S j → w.heap.size ≤ j) : Moves w wf F F4 :=
  ⟨((h0.mono fun _ _ h => h.elim).trans m.chg fun _ _ h => h).trans ho fun j hj hs => absurd hj (Nat.not_lt.2 (hS j hs)), fun j hj => (m.fresh j hj).imp id fun h => Nat.le_trans h0.size h⟩
theorem Moves.own {S : Nat → Prop} {W0 w4 wf : World} {F F4 : Nat → Prop} (m : Moves W0 w4 F F4) (ho : Chg S w4 wf) (hS : ∀ j, S j → W0.heap.size ≤ j) : Moves W0 wf F F4 :=
  Moves.fin (Chg.refl _ _) m ho hS
theorem nf_base {W0 : World} {n k3 : Nat} {F F1 : Nat → Prop} (hf : ∀ j, F1 j → F j ∨ W0.heap.size ≤ j) (h0 : ∀ j, F j → j ≠ n ∧ j ≠ n + 1) (hl : ∀ j, F1 j → j < k3) (hs : n + 1 < W0.heap.size) : ∀ j, j = n ∨ j = n + 1 ∨ j = k3 → ¬ F1 j := by
  rintro j hj h1
  have h2 := hl j h1
  rcases hf j h1 with h | h
  · have := h0 j h
    omega
  · omega
theorem nf_step {W : World} {k1 k2 k3 : Nat} {F F' : Nat → Prop} (h : ∀ j, j = k1 ∨ j = k2 ∨ j = k3 → ¬ F j) (hf : ∀ j, F' j → F j ∨ W.heap.size ≤ j) (h1 : k1 < W.heap.size) (h2 : k2 < W.heap.size) (h3 : k3 < W.heap.size) : ∀ j, j = k1 ∨ j = k2 ∨ j = k3 → ¬ F' j := by
  rintro j hj hf'
  rcases hf j hf' with h' | h'
  · exact h j hj h'
  · omega
def RefCacheAt (w : World) (p : Nat) (c : CacheM) (F : Nat → Prop) : Prop := ∃ lp D, RcAt w p lp c.lines D F ∧ Toks c.tok D ∧ c.Ok
section
variable {w w' : World} {p : Nat} {c : CacheM} {F : Nat → Prop}
theorem RefCacheAt.ok (h : RefCacheAt w p c F) : c.Ok := by obtain ⟨_, _, _, _, h⟩ := h; exact h
theorem RefCacheAt.lt (h : RefCacheAt w p c F) {j : Nat} (hj : F j) : j < w.heap.size := by obtain ⟨_, _, h, _⟩ := h; exact h.lt hj
theorem RefCacheAt.chg {S : Nat → Prop} (h : RefCacheAt w p c F) (hc : Chg S w w') (hn : ∀ j, F j → ¬ S j) : RefCacheAt w' p c F := by
  obtain ⟨lp, D, h1, h2, h3⟩ := h
  exact ⟨lp, D, h1.chg hc hn, h2, h3⟩
theorem RefCacheAt.below (h : RefCacheAt w p c F) (hb : Below w.heap.size w w') : RefCacheAt w' p c F := h.chg (S := fun _ => False) (Chg.of_below hb) fun _ _ h => h

set_option maxHeartbeats 8000000 in
set_option maxRecDepth 20000 in
theorem RefAbsorb_calls (block : Int) (b : Bundle) (pinned : Int) (h : RefCacheAt w p c F) (g : b.Good) (hb : (c.tok block).count + b.count ≤ 1000000000000) :
    Calls Tryz.prog 59 #[.pointer (some ⟨p, 0, none⟩), .int .i64 block, b.val, .int .i64 pinned] w fun e w' =>
      e = .returned (.tuple #[(c.absorb block b pinned).2.1.val, .bool (c.absorb block b pinned).2.2]) ∧ ∃ F', RefCacheAt w' p (c.absorb block b pinned).1 F' ∧ Moves w w' F F' := by
  have ok := h.ok
  have oka := CacheM.absorb_ok ok block g pinned
  have hnone : ∀ w', Chg (fun _ => False) w w' → ∃ F', RefCacheAt w' p c F' ∧ Moves w w' F F' := fun w' hc => ⟨F, h.chg hc (fun _ _ h => h), Moves.none hc⟩
  have HN := Lib.hid hnone
  have hab : c.absorb block b pinned = if b.count < 1 then (c, Line.none, false) else if c.lines.has block = true then ((c.use block).set block ((c.tok block).join b), Line.none, false)
    else if (c.lines.victim block pinned).2 = false then (c, ⟨block, b⟩, true)
    else if c.lines.has (c.lines.victim block pinned).1 = true then ((c.set (c.lines.victim block pinned).1 Bundle.none).lay block b, ⟨(c.lines.victim block pinned).1, c.tok (c.lines.victim block pinned).1⟩, true)
    else (c.lay block b, Line.none, false) := rfl
  obtain ⟨cc, hcc⟩ : ∃ x, x = c.absorb block b pinned := ⟨_, rfl⟩
  rw [← hcc] at hab oka ⊢
  have HAB := Lib.hid hab
  have OKA := Lib.hid oka
  have HFl := Lib.hid (fun j (hj : F j) => h.lt hj)
  obtain ⟨lp, D, r, ht, _⟩ := h
  have c0 := r.cell.1
  have hFp := r.cell.2
  have lp' := r.lt hFp
  have hlen : D.length ≤ 1024 := Toks.few ht ok
  have R := Lib.hid r
  have HT := Lib.hid ht
  have OK := Lib.hid ok
  have G := Lib.hid g
  clear r ht ok hab oka hnone hcc
  by_cases q1 : b.count < 1
  · have q1' : decide (b.count < 1) = true := by simpa using q1
    rw [if_pos q1] at HAB
    clear g
    simp only [Bundle.val, Bundle.cells, Line.val, Line.cells]
    go_enter Tryz.func59, Tryz.ntmps59
    go_wp2_with fail
    (try (go_big_region; go_wp2_with fail))
    (try simp only [Exit.inBlock, Exit.then])
    refine bodyRet2 _ _ rfl rfl (ResIs.row Tryz.underlying53 rfl (by kernel_rfl) rfl (by simp [go_sem]; exact ⟨rfl, rfl, rfl⟩)) ResIs.tmp ?_
    rw [HAB.out]
    exact ⟨rfl, HN.out _ (by repeat (first | with_reducible exact Chg.refl _ _ | with_reducible exact chg0 | with_reducible refine Chg.drewN ?_ _ | with_reducible refine Chg.drew ?_ | with_reducible refine Chg.alloc ?_ _ | with_reducible refine Chg.setCell ?_ _ _ (by first | (simp; done) | omega | (simp; omega)) | with_reducible refine Chg.setBlock ?_ _ _ (by first | (simp; done) | omega | (simp; omega)) | exact Chg.refl _ _))⟩
  have q1' : decide (b.count < 1) = false := by simpa using q1
  have Q1 := Lib.hid q1
  rw [if_neg q1] at HAB
  clear q1 g
  simp only [Bundle.val, Bundle.cells, Line.val, Line.cells]
  go_enter Tryz.func59, Tryz.ntmps59
  go_wp2_with fail
  refine (RcAt.use block (R.out.below (Chg.below (by repeat (first | with_reducible exact Chg.refl _ _ | with_reducible exact chg0 | with_reducible refine Chg.drewN ?_ _ | with_reducible refine Chg.drew ?_ | with_reducible refine Chg.alloc ?_ _ | with_reducible refine Chg.setCell ?_ _ _ (by first | (simp; done) | omega | (simp; omega)) | with_reducible refine Chg.setBlock ?_ _ _ (by first | (simp; done) | omega | (simp; omega)) | exact Chg.refl _ _))))).mono ?_
  rintro e w1 ⟨rfl, F1, hr1, hm1⟩
  have hF0 : ∀ j, F j → j ≠ w.heap.size ∧ j ≠ w.heap.size + 1 := fun j hj => by have := HFl.out j hj; omega
  have o0 : ob w1 w.heap.size = some (.cells #[.int .i64 b.count, .bool b.owner, .bool b.has, .int .i64 b.data] 42 (0, 0)) := hm1.chg.ob (by simp [go_sem]) (fun h => (hF0 _ h).1 rfl)
  have o1 : ob w1 (w.heap.size + 1) = some (.cells #[.int .i64 0, .int .i64 0, .bool false, .bool false, .int .i64 0] 53 (0, 0)) := hm1.chg.ob (by simp [go_sem]) (fun h => (hF0 _ h).2 rfl)
  obtain ⟨a0, a1, a2, a3, af⟩ := ob_cells4 o0
  obtain ⟨b0, b1, b2, b3, b4, bf⟩ := ob_cells5 o1
  have l0 := ob_lt o0
  have l1 := ob_lt o1
  have k0 := hr1.cell.1
  have R1 := Lib.hid hr1
  have M1 := Lib.hid hm1
  have HF0 := Lib.hid hF0
  clear hr1 hm1 hF0
  cases hh : c.lines.has block with
  | true =>
    rw [if_pos hh] at HAB
    have hpos : 0 < ((c.tok block).join b).count := by
      have h1 := (OK.out.good block).pos
      have h2 := Q1.out
      show 0 < (c.tok block).count + b.count
      omega
    have HPOS := Lib.hid hpos
    have hpo2 : (if 0 < ((c.tok block).join b).count then c.lines.use block else (c.lines.use block).rem block) = c.lines.use block := if_pos hpos
    have HP2 := Lib.hid hpo2
    have hlk := HT.out.look OK.out.good block
    have HLK := Lib.hid hlk
    clear hpos hpo2 hlk
    have AA := Lib.hid (And.intro a0 (And.intro a1 (And.intro a2 a3)))
    go_wp2_with fail
    go_region_held3 (fun W => W.cell? ⟨w.heap.size, 0, none⟩ = some (.int .i64 b.count) ∧ W.cell? ⟨w.heap.size, 1, none⟩ = some (.bool b.owner) ∧ W.cell? ⟨w.heap.size, 2, none⟩ = some (.bool b.has) ∧ W.cell? ⟨w.heap.size, 3, none⟩ = some (.int .i64 b.data)) (first | assumption | exact AA.out) (first
      | (go_at_call 62; refine (RefGet_calls block (R1.out.below (Chg.below (by repeat (first | with_reducible exact Chg.refl _ _ | with_reducible exact chg0 | with_reducible refine Chg.drewN ?_ _ | with_reducible refine Chg.drew ?_ | with_reducible refine Chg.alloc ?_ _ | with_reducible refine Chg.setCell ?_ _ _ (by first | (simp; done) | omega | (simp; omega)) | with_reducible refine Chg.setBlock ?_ _ _ (by first | (simp; done) | omega | (simp; omega)) | exact Chg.refl _ _))))).mono ?_; rintro e w2 ⟨rfl, hb2⟩; rw [HLK.out]; simp only [Bundle.val, Bundle.cells]; have hx2 := keep4 (S := fun _ => False) (Chg.of_below hb2) (fun h => h) (by first | assumption | exact AA.out); have chg0 : Chg (fun _ => False) w1 w2 := Chg.of_below (below_trans (Chg.below (by repeat (first | with_reducible exact Chg.refl _ _ | with_reducible exact chg0 | with_reducible refine Chg.drewN ?_ _ | with_reducible refine Chg.drew ?_ | with_reducible refine Chg.alloc ?_ _ | with_reducible refine Chg.setCell ?_ _ _ (by first | (simp; done) | omega | (simp; omega)) | with_reducible refine Chg.setBlock ?_ _ _ (by first | (simp; done) | omega | (simp; omega)) | exact Chg.refl _ _))) hb2); clear hb2)
      | (go_at_call 110; refine (RefJoin_calls (c.tok block) b _ (OK.out.good block) (by have := G.out.pos; omega) (by have := (OK.out.good block).pos; omega) G.out.pos).mono ?_; rintro e w3 ⟨rfl, hb3⟩; simp only [Bundle.val, Bundle.cells]; have hx3 := keep4 (S := fun _ => False) (Chg.of_below hb3) (fun h => h) (by first | assumption | exact AA.out); have chg1 : Chg (fun _ => False) w1 w3 := Chg.of_below (below_trans (Chg.below (by repeat (first | with_reducible exact Chg.refl _ _ | with_reducible exact chg0 | with_reducible refine Chg.drewN ?_ _ | with_reducible refine Chg.drew ?_ | with_reducible refine Chg.alloc ?_ _ | with_reducible refine Chg.setCell ?_ _ _ (by first | (simp; done) | omega | (simp; omega)) | with_reducible refine Chg.setBlock ?_ _ _ (by first | (simp; done) | omega | (simp; omega)) | exact Chg.refl _ _))) hb3); replace chg0 := chg1; clear hb3)
      | (go_at_call 109; refine (RefSet_calls block ((c.tok block).join b) (R1.out.below (Chg.below (by repeat (first | with_reducible exact Chg.refl _ _ | with_reducible exact chg0 | with_reducible refine Chg.drewN ?_ _ | with_reducible refine Chg.drew ?_ | with_reducible refine Chg.alloc ?_ _ | with_reducible refine Chg.setCell ?_ _ _ (by first | (simp; done) | omega | (simp; omega)) | with_reducible refine Chg.setBlock ?_ _ _ (by first | (simp; done) | omega | (simp; omega)) | exact Chg.refl _ _)))) (by omega)).mono ?_; rintro e w4 ⟨rfl, F4, hr4, hm4⟩; have hx4 := keep4 hm4.chg (fun h => by rcases M1.out.fresh _ h with h | h; exact (HF0.out _ h).1 rfl; simp [go_sem] at h; omega) (by first | assumption | exact AA.out); have o1' : ob w4 (w.heap.size + 1) = some (.cells #[.int .i64 0, .int .i64 0, .bool false, .bool false, .int .i64 0] 53 (0, 0)) := hm4.chg.ob (chg0.ob o1 (fun h => h)) (fun h => by rcases M1.out.fresh _ h with h | h; exact (HF0.out _ h).2 rfl; simp [go_sem] at h; omega); have M4 := Lib.hid ((M1.out.trans (Moves.none chg0)).trans hm4)))
    all_goals
      obtain ⟨e0, e1, e2, e3, e4, ef⟩ := ob_cells5 o1'
      have l3 := ob_lt o1'
      have R4 := Lib.hid hr4
      clear hr4 hm4 hx2 hx3 hx4
      go_wp2_with fail
      (try simp only [Exit.inBlock, Exit.then])
      refine bodyRet2 _ _ rfl rfl (ResIs.row Tryz.underlying53 rfl (by kernel_rfl) rfl (by simp [go_sem, *]; exact ⟨rfl, rfl, rfl⟩)) ResIs.tmp ?_
      rw [HP2.out] at R4
      have e1 : cc.1.lines = c.lines.use block := by rw [HAB.out]; simp only [CacheM.set]; rw [if_pos HPOS.out]; rfl
      have e2 : cc.1.tok = fun j => if j = block then (c.tok block).join b else c.tok j := by rw [HAB.out]; rfl
      have hne : ∀ j, F4 j → ¬ j = w.heap.size + 1 := fun j hf e => by
        rcases M4.out.fresh j hf with h | h
        · exact (HF0.out j h).2 e
        · simp [go_sem] at h; omega
      have NE := Lib.hid hne
      refine ⟨by rw [HAB.out]; rfl, F4, ⟨lp, setD D block ((c.tok block).join b), by rw [e1]; exact R4.out.chg (S := fun j => j = w.heap.size + 1) (by repeat (first | with_reducible exact Chg.refl _ _ | with_reducible exact chg0 | with_reducible refine Chg.drewN ?_ _ | with_reducible refine Chg.drew ?_ | with_reducible refine Chg.alloc ?_ _ | with_reducible refine Chg.setCell ?_ _ _ (by first | (simp; done) | omega | (simp; omega)) | with_reducible refine Chg.setBlock ?_ _ _ (by first | (simp; done) | omega | (simp; omega)) | exact Chg.refl _ _)) (fun j hf e => NE.out j hf e), by rw [e2]; exact HT.out.set block _, OKA.out⟩, Moves.fin (by repeat (first | with_reducible exact Chg.refl _ _ | with_reducible exact chg0 | with_reducible refine Chg.drewN ?_ _ | with_reducible refine Chg.drew ?_ | with_reducible refine Chg.alloc ?_ _ | with_reducible refine Chg.setCell ?_ _ _ (by first | (simp; done) | omega | (simp; omega)) | with_reducible refine Chg.setBlock ?_ _ _ (by first | (simp; done) | omega | (simp; omega)) | exact Chg.refl _ _)) M4.out (S := fun j => j = w.heap.size + 1) (by repeat (first | with_reducible exact Chg.refl _ _ | with_reducible exact chg0 | with_reducible refine Chg.drewN ?_ _ | with_reducible refine Chg.drew ?_ | with_reducible refine Chg.alloc ?_ _ | with_reducible refine Chg.setCell ?_ _ _ (by first | (simp; done) | omega | (simp; omega)) | with_reducible refine Chg.setBlock ?_ _ _ (by first | (simp; done) | omega | (simp; omega)) | exact Chg.refl _ _)) (fun j e => by omega)⟩
  | false =>
    have hus : c.lines.use block = c.lines := by rw [Lines.use, if_neg (by simp [hh])]
    rw [hus] at R1
    rw [if_neg (by simp [hh])] at HAB
    obtain ⟨v, hv⟩ : ∃ v, v = (c.lines.victim block pinned).1 := ⟨_, rfl⟩
    obtain ⟨vo, hvo⟩ : ∃ v, v = (c.lines.victim block pinned).2 := ⟨_, rfl⟩
    have HVV := Lib.hid hv
    have HVO := Lib.hid hvo
    rw [← hv, ← hvo] at HAB
    go_wp2_with fail
    refine (RcAt.victim block pinned (R1.out.below (Chg.below (by repeat (first | with_reducible exact Chg.refl _ _ | with_reducible exact chg0 | with_reducible refine Chg.drewN ?_ _ | with_reducible refine Chg.drew ?_ | with_reducible refine Chg.alloc ?_ _ | with_reducible refine Chg.setCell ?_ _ _ (by first | (simp; done) | omega | (simp; omega)) | with_reducible refine Chg.setBlock ?_ _ _ (by first | (simp; done) | omega | (simp; omega)) | exact Chg.refl _ _))))).mono ?_
    rintro e w2 ⟨rfl, hb2⟩
    rw [← hv, ← hvo]
    clear hv hvo
    have ch2 : Chg (fun _ => False) w1 w2 := Chg.of_below (below_trans (Chg.below (by repeat (first | with_reducible exact Chg.refl _ _ | with_reducible exact chg0 | with_reducible refine Chg.drewN ?_ _ | with_reducible refine Chg.drew ?_ | with_reducible refine Chg.alloc ?_ _ | with_reducible refine Chg.setCell ?_ _ _ (by first | (simp; done) | omega | (simp; omega)) | with_reducible refine Chg.setBlock ?_ _ _ (by first | (simp; done) | omega | (simp; omega)) | exact Chg.refl _ _))) hb2)
    have M2 := Lib.hid (M1.out.trans (Moves.none ch2))
    have R2 := Lib.hid (R1.out.chg ch2 (fun _ _ h => h))
    replace o0 := ch2.ob o0 (fun h => h)
    replace o1 := ch2.ob o1 (fun h => h)
    clear a0 a1 a2 a3 af b0 b1 b2 b3 b4 bf l0 l1
    obtain ⟨a0, a1, a2, a3, af⟩ := ob_cells4 o0
    obtain ⟨b0, b1, b2, b3, b4, bf⟩ := ob_cells5 o1
    have l0 := ob_lt o0
    have l1 := ob_lt o1
    replace k0 := R2.out.cell.1
    have lpw := R2.out.lt R2.out.cell.2
    have sz2 := M2.out.chg.size
    simp [go_sem] at sz2
    clear ch2 hb2 M1 R1
    cases vo with
    | false =>
      rw [if_pos rfl] at HAB
      go_wp2_with fail
      (try simp only [Exit.inBlock, Exit.then])
      refine bodyRet2 _ _ rfl rfl (ResIs.row Tryz.underlying53 rfl (by kernel_rfl) rfl (by simp [go_sem, *]; exact ⟨rfl, rfl, rfl⟩)) ResIs.tmp ?_
      have e1 : cc.1 = c := by rw [HAB.out]
      have hne : ∀ j, F1 j → ¬ j = w.heap.size + 1 := fun j hf e => by
        rcases M2.out.fresh j hf with h | h
        · exact (HF0.out j h).2 e
        · simp [go_sem] at h; omega
      have NE := Lib.hid hne
      refine ⟨by rw [HAB.out]; rfl, F1, ⟨lp, D, by rw [e1]; exact R2.out.chg (S := fun j => j = w.heap.size + 1) (by repeat (first | with_reducible exact Chg.refl _ _ | with_reducible exact chg0 | with_reducible refine Chg.drewN ?_ _ | with_reducible refine Chg.drew ?_ | with_reducible refine Chg.alloc ?_ _ | with_reducible refine Chg.setCell ?_ _ _ (by first | (simp; done) | omega | (simp; omega)) | with_reducible refine Chg.setBlock ?_ _ _ (by first | (simp; done) | omega | (simp; omega)) | exact Chg.refl _ _)) (fun j hf e => NE.out j hf e), by rw [e1]; exact HT.out, OKA.out⟩, Moves.fin (by repeat (first | with_reducible exact Chg.refl _ _ | with_reducible exact chg0 | with_reducible refine Chg.drewN ?_ _ | with_reducible refine Chg.drew ?_ | with_reducible refine Chg.alloc ?_ _ | with_reducible refine Chg.setCell ?_ _ _ (by first | (simp; done) | omega | (simp; omega)) | with_reducible refine Chg.setBlock ?_ _ _ (by first | (simp; done) | omega | (simp; omega)) | exact Chg.refl _ _)) M2.out (S := fun j => j = w.heap.size + 1) (by repeat (first | with_reducible exact Chg.refl _ _ | with_reducible exact chg0 | with_reducible refine Chg.drewN ?_ _ | with_reducible refine Chg.drew ?_ | with_reducible refine Chg.alloc ?_ _ | with_reducible refine Chg.setCell ?_ _ _ (by first | (simp; done) | omega | (simp; omega)) | with_reducible refine Chg.setBlock ?_ _ _ (by first | (simp; done) | omega | (simp; omega)) | exact Chg.refl _ _)) (fun j e => by omega)⟩
    | true =>
      rw [if_neg (by decide)] at HAB
      go_wp2_with fail
      refine (RcAt.has v (R2.out.below (Chg.below (by repeat (first | with_reducible exact Chg.refl _ _ | with_reducible exact chg0 | with_reducible refine Chg.drewN ?_ _ | with_reducible refine Chg.drew ?_ | with_reducible refine Chg.alloc ?_ _ | with_reducible refine Chg.setCell ?_ _ _ (by first | (simp; done) | omega | (simp; omega)) | with_reducible refine Chg.setBlock ?_ _ _ (by first | (simp; done) | omega | (simp; omega)) | exact Chg.refl _ _))))).mono ?_
      rintro e w3 ⟨rfl, n3, rfl⟩
      have hac := absorb_can (c := c) OK.out (pinned := pinned) hh HVO.out.symm
      rw [← HVV.out] at hac
      cases hhv : c.lines.has v with
      | true =>
        rw [if_pos hhv] at HAB
        have HLK := Lib.hid (HT.out.look OK.out.good v)
        clear hac
        go_wp2_with fail
        refine (RefGet_calls v (R2.out.below (Chg.below (by repeat (first | with_reducible exact Chg.refl _ _ | with_reducible exact chg0 | with_reducible refine Chg.drewN ?_ _ | with_reducible refine Chg.drew ?_ | with_reducible refine Chg.alloc ?_ _ | with_reducible refine Chg.setCell ?_ _ _ (by first | (simp; done) | omega | (simp; omega)) | with_reducible refine Chg.setBlock ?_ _ _ (by first | (simp; done) | omega | (simp; omega)) | exact Chg.refl _ _))))).mono ?_
        rintro e w4 ⟨rfl, hb4⟩
        rw [HLK.out]
        have o2 : ob w4 w2.heap.size = some (.cells #[.int .i64 0, .int .i64 0, .bool false, .bool false, .int .i64 0] 53 (0, 0)) := (Chg.of_below (S := fun _ => False) hb4).ob (by simp [go_sem]) (fun h => h)
        have ch4 : Chg (fun _ => False) w2 w4 := Chg.of_below (below_trans (Chg.below (by repeat (first | with_reducible exact Chg.refl _ _ | with_reducible exact chg0 | with_reducible refine Chg.drewN ?_ _ | with_reducible refine Chg.drew ?_ | with_reducible refine Chg.alloc ?_ _ | with_reducible refine Chg.setCell ?_ _ _ (by first | (simp; done) | omega | (simp; omega)) | with_reducible refine Chg.setBlock ?_ _ _ (by first | (simp; done) | omega | (simp; omega)) | exact Chg.refl _ _))) hb4)
        have M4 := Lib.hid (M2.out.trans (Moves.none ch4))
        have R4 := Lib.hid (R2.out.chg ch4 (fun _ _ h => h))
        replace o0 := ch4.ob o0 (fun h => h)
        replace o1 := ch4.ob o1 (fun h => h)
        clear a0 a1 a2 a3 af b0 b1 b2 b3 b4 bf l0 l1 lpw
        obtain ⟨a0, a1, a2, a3, af⟩ := ob_cells4 o0
        obtain ⟨b0, b1, b2, b3, b4, bf⟩ := ob_cells5 o1
        obtain ⟨d0, d1, d2, d3, d4, df⟩ := ob_cells5 o2
        have l0 := ob_lt o0
        have l1 := ob_lt o1
        have l2 := ob_lt o2
        replace k0 := R4.out.cell.1
        have lpw := R4.out.lt R4.out.cell.2
        simp only [Bundle.val, Bundle.cells]
        have nf1 : ∀ j, j = w.heap.size ∨ j = w.heap.size + 1 ∨ j = w2.heap.size → ¬ F1 j := nf_base M2.out.fresh HF0.out (fun j hj => R2.out.lt hj) (by simp)
        have NF1 := Lib.hid nf1
        have hlz := R2.out.lt R2.out.cell.2
        have hx1 : w.heap.size ≠ w2.heap.size := by omega
        have hx2 : w.heap.size + 1 ≠ w2.heap.size := by omega
        clear hb4 nf1
        go_wp2_with fail
        refine (RefSet_calls v Bundle.none (R4.out.chg (S := fun j => j = w2.heap.size) (by repeat (first | with_reducible exact Chg.refl _ _ | with_reducible exact chg0 | with_reducible refine Chg.drewN ?_ _ | with_reducible refine Chg.drew ?_ | with_reducible refine Chg.alloc ?_ _ | with_reducible refine Chg.setCell ?_ _ _ (by first | (simp; done) | omega | (simp; omega)) | with_reducible refine Chg.setBlock ?_ _ _ (by first | (simp; done) | omega | (simp; omega)) | exact Chg.refl _ _)) (fun j hf e => NF1.out j (.inr (.inr e)) hf)) (by omega)).mono ?_
        rintro e w6 ⟨rfl, F6, hr6, hm6⟩
        have M6 := Lib.hid ((M4.out.own (S := fun j => j = w2.heap.size) (by repeat (first | with_reducible exact Chg.refl _ _ | with_reducible exact chg0 | with_reducible refine Chg.drewN ?_ _ | with_reducible refine Chg.drew ?_ | with_reducible refine Chg.alloc ?_ _ | with_reducible refine Chg.setCell ?_ _ _ (by first | (simp; done) | omega | (simp; omega)) | with_reducible refine Chg.setBlock ?_ _ _ (by first | (simp; done) | omega | (simp; omega)) | exact Chg.refl _ _)) (fun j e => by first | omega | (simp; omega))).trans hm6)
        rw [if_neg CacheM.none_pos] at hr6
        have R6 := Lib.hid hr6
        have NF6 := Lib.hid (nf_step (k1 := w.heap.size) (k2 := w.heap.size + 1) (k3 := w2.heap.size) NF1.out hm6.fresh (by first | omega | (simp; omega) | simp) (by first | omega | (simp; omega) | simp) (by first | omega | (simp; omega) | simp))
        have o0' : ob w6 w.heap.size = some (.cells #[.int .i64 b.count, .bool b.owner, .bool b.has, .int .i64 b.data] 42 (0, 0)) := hm6.chg.ob (by simp [go_sem, *]) (NF1.out _ (.inl rfl))
        have o1' : ob w6 (w.heap.size + 1) = some (.cells #[.int .i64 0, .int .i64 0, .bool false, .bool false, .int .i64 0] 53 (0, 0)) := hm6.chg.ob (by simp [go_sem, *]) (NF1.out _ (.inr (.inl rfl)))
        have o2' : ob w6 w2.heap.size = some (.cells #[.int .i64 v, .int .i64 (c.tok v).count, .bool (c.tok v).owner, .bool (c.tok v).has, .int .i64 (c.tok v).data] 53 (0, 0)) := hm6.chg.ob (by simp [go_sem, o2, setAt]) (NF1.out _ (.inr (.inr rfl)))
        replace o0 := o0'
        replace o1 := o1'
        replace o2 := o2'
        clear o0' o1' o2'
        clear a0 a1 a2 a3 af b0 b1 b2 b3 b4 bf d0 d1 d2 d3 d4 df l0 l1 l2 lpw
        obtain ⟨a0, a1, a2, a3, af⟩ := ob_cells4 o0
        obtain ⟨b0, b1, b2, b3, b4, bf⟩ := ob_cells5 o1
        obtain ⟨d0, d1, d2, d3, d4, df⟩ := ob_cells5 o2
        have l0 := ob_lt o0
        have l1 := ob_lt o1
        have l2 := ob_lt o2
        replace k0 := R6.out.cell.1
        have lpw := R6.out.lt R6.out.cell.2
        have HDL := Lib.hid (show (setD D v Bundle.none).length ≤ 2000 from by have := setD_len D v Bundle.none; omega)
        clear hr6 hm6
        go_wp2_with fail
        refine (RcAt.add block (R6.out.below (Chg.below (by repeat (first | with_reducible exact Chg.refl _ _ | with_reducible exact chg0 | with_reducible refine Chg.drewN ?_ _ | with_reducible refine Chg.drew ?_ | with_reducible refine Chg.alloc ?_ _ | with_reducible refine Chg.setCell ?_ _ _ (by first | (simp; done) | omega | (simp; omega)) | with_reducible refine Chg.setBlock ?_ _ _ (by first | (simp; done) | omega | (simp; omega)) | exact Chg.refl _ _))))).mono ?_
        rintro e w7 ⟨rfl, F7, hr7, hm7⟩
        have M7 := Lib.hid (M6.out.trans ((Moves.none (by repeat (first | with_reducible exact Chg.refl _ _ | with_reducible exact chg0 | with_reducible refine Chg.drewN ?_ _ | with_reducible refine Chg.drew ?_ | with_reducible refine Chg.alloc ?_ _ | with_reducible refine Chg.setCell ?_ _ _ (by first | (simp; done) | omega | (simp; omega)) | with_reducible refine Chg.setBlock ?_ _ _ (by first | (simp; done) | omega | (simp; omega)) | exact Chg.refl _ _))).trans hm7))
        have R7 := Lib.hid hr7
        have NF7 := Lib.hid (nf_step (k1 := w.heap.size) (k2 := w.heap.size + 1) (k3 := w2.heap.size) NF6.out hm7.fresh (by first | omega | (simp; omega) | simp) (by first | omega | (simp; omega) | simp) (by first | omega | (simp; omega) | simp))
        have o0' : ob w7 w.heap.size = some (.cells #[.int .i64 b.count, .bool b.owner, .bool b.has, .int .i64 b.data] 42 (0, 0)) := hm7.chg.ob (by simp [go_sem, *]) (NF6.out _ (.inl rfl))
        have o1' : ob w7 (w.heap.size + 1) = some (.cells #[.int .i64 0, .int .i64 0, .bool false, .bool false, .int .i64 0] 53 (0, 0)) := hm7.chg.ob (by simp [go_sem, *]) (NF6.out _ (.inr (.inl rfl)))
        have o2' : ob w7 w2.heap.size = some (.cells #[.int .i64 v, .int .i64 (c.tok v).count, .bool (c.tok v).owner, .bool (c.tok v).has, .int .i64 (c.tok v).data] 53 (0, 0)) := hm7.chg.ob (by simp [go_sem, *]) (NF6.out _ (.inr (.inr rfl)))
        replace o0 := o0'
        clear o0'
        replace o1 := o1'
        clear o1'
        replace o2 := o2'
        clear o2'
        clear a0 a1 a2 a3 af b0 b1 b2 b3 b4 bf d0 d1 d2 d3 d4 df l0 l1 l2 lpw
        obtain ⟨a0, a1, a2, a3, af⟩ := ob_cells4 o0
        obtain ⟨b0, b1, b2, b3, b4, bf⟩ := ob_cells5 o1
        obtain ⟨d0, d1, d2, d3, d4, df⟩ := ob_cells5 o2
        have l0 := ob_lt o0
        have l1 := ob_lt o1
        have l2 := ob_lt o2
        replace k0 := R7.out.cell.1
        have lpw := R7.out.lt R7.out.cell.2
        generalize (c.lines.rem v).can block = r7
        clear hr7 hm7
        go_wp2_with fail
        refine (RefSet_calls block b (R7.out.below (Chg.below (by repeat (first | with_reducible exact Chg.refl _ _ | with_reducible exact chg0 | with_reducible refine Chg.drewN ?_ _ | with_reducible refine Chg.drew ?_ | with_reducible refine Chg.alloc ?_ _ | with_reducible refine Chg.setCell ?_ _ _ (by first | (simp; done) | omega | (simp; omega)) | with_reducible refine Chg.setBlock ?_ _ _ (by first | (simp; done) | omega | (simp; omega)) | exact Chg.refl _ _)))) (by have := HDL.out; omega)).mono ?_
        rintro e w8 ⟨rfl, F8, hr8, hm8⟩
        have M8 := Lib.hid (M7.out.trans ((Moves.none (by repeat (first | with_reducible exact Chg.refl _ _ | with_reducible exact chg0 | with_reducible refine Chg.drewN ?_ _ | with_reducible refine Chg.drew ?_ | with_reducible refine Chg.alloc ?_ _ | with_reducible refine Chg.setCell ?_ _ _ (by first | (simp; done) | omega | (simp; omega)) | with_reducible refine Chg.setBlock ?_ _ _ (by first | (simp; done) | omega | (simp; omega)) | exact Chg.refl _ _))).trans hm8))
        rw [if_pos (show 0 < b.count from by have := Q1.out; omega)] at hr8
        have R8 := Lib.hid hr8
        have NF8 := Lib.hid (nf_step (k1 := w.heap.size) (k2 := w.heap.size + 1) (k3 := w2.heap.size) NF7.out hm8.fresh (by first | omega | (simp; omega) | simp) (by first | omega | (simp; omega) | simp) (by first | omega | (simp; omega) | simp))
        have o0' : ob w8 w.heap.size = some (.cells #[.int .i64 b.count, .bool b.owner, .bool b.has, .int .i64 b.data] 42 (0, 0)) := hm8.chg.ob (by simp [go_sem, *]) (NF7.out _ (.inl rfl))
        have o1' : ob w8 (w.heap.size + 1) = some (.cells #[.int .i64 0, .int .i64 0, .bool false, .bool false, .int .i64 0] 53 (0, 0)) := hm8.chg.ob (by simp [go_sem, *]) (NF7.out _ (.inr (.inl rfl)))
        have o2' : ob w8 w2.heap.size = some (.cells #[.int .i64 v, .int .i64 (c.tok v).count, .bool (c.tok v).owner, .bool (c.tok v).has, .int .i64 (c.tok v).data] 53 (0, 0)) := hm8.chg.ob (by simp [go_sem, *]) (NF7.out _ (.inr (.inr rfl)))
        replace o0 := o0'
        clear o0'
        replace o1 := o1'
        clear o1'
        replace o2 := o2'
        clear o2'
        clear a0 a1 a2 a3 af b0 b1 b2 b3 b4 bf d0 d1 d2 d3 d4 df l0 l1 l2 lpw
        obtain ⟨a0, a1, a2, a3, af⟩ := ob_cells4 o0
        obtain ⟨b0, b1, b2, b3, b4, bf⟩ := ob_cells5 o1
        obtain ⟨d0, d1, d2, d3, d4, df⟩ := ob_cells5 o2
        have l0 := ob_lt o0
        have l1 := ob_lt o1
        have l2 := ob_lt o2
        clear hr8 hm8
        go_wp2_with fail
        (try (go_big_region; go_wp2_with fail))
        (try simp only [Exit.inBlock, Exit.then])
        refine bodyRet2 _ _ rfl rfl (ResIs.row Tryz.underlying53 rfl (by kernel_rfl) rfl (by simp [go_sem, *]; exact ⟨rfl, rfl, rfl⟩)) ResIs.tmp ?_
        have e1 : cc.1.lines = (c.lines.rem v).add block := by rw [HAB.out]; show ((c.set v Bundle.none).lines).add block = _; rw [CacheM.set_none_lines]
        have e2 : cc.1.tok = fun j => if j = block then b else (if j = v then Bundle.none else c.tok j) := by rw [HAB.out]; rfl
        refine ⟨by rw [HAB.out]; rfl, F8, ⟨lp, setD (setD D v Bundle.none) block b, by rw [e1]; exact R8.out.chg (S := fun j => j = w.heap.size + 1) (by repeat (first | with_reducible exact Chg.refl _ _ | with_reducible exact chg0 | with_reducible refine Chg.drewN ?_ _ | with_reducible refine Chg.drew ?_ | with_reducible refine Chg.alloc ?_ _ | with_reducible refine Chg.setCell ?_ _ _ (by first | (simp; done) | omega | (simp; omega)) | with_reducible refine Chg.setBlock ?_ _ _ (by first | (simp; done) | omega | (simp; omega)) | exact Chg.refl _ _)) (fun j hf e => NF8.out j (.inr (.inl e)) hf), by rw [e2]; exact (HT.out.set v Bundle.none).set block b, OKA.out⟩, Moves.fin (by repeat (first | with_reducible exact Chg.refl _ _ | with_reducible exact chg0 | with_reducible refine Chg.drewN ?_ _ | with_reducible refine Chg.drew ?_ | with_reducible refine Chg.alloc ?_ _ | with_reducible refine Chg.setCell ?_ _ _ (by first | (simp; done) | omega | (simp; omega)) | with_reducible refine Chg.setBlock ?_ _ _ (by first | (simp; done) | omega | (simp; omega)) | exact Chg.refl _ _)) M8.out (S := fun j => j = w.heap.size + 1) (by repeat (first | with_reducible exact Chg.refl _ _ | with_reducible exact chg0 | with_reducible refine Chg.drewN ?_ _ | with_reducible refine Chg.drew ?_ | with_reducible refine Chg.alloc ?_ _ | with_reducible refine Chg.setCell ?_ _ _ (by first | (simp; done) | omega | (simp; omega)) | with_reducible refine Chg.setBlock ?_ _ _ (by first | (simp; done) | omega | (simp; omega)) | exact Chg.refl _ _)) (fun j e => by omega)⟩
      | false =>
        rw [if_neg (by simp [hhv])] at HAB
        clear hac
        have hlz := R2.out.lt R2.out.cell.2
        have hx1 : w.heap.size ≠ w2.heap.size := by omega
        have hx2 : w.heap.size + 1 ≠ w2.heap.size := by omega
        have nf1 : ∀ j, j = w.heap.size ∨ j = w.heap.size + 1 ∨ j = w2.heap.size → ¬ F1 j := nf_base M2.out.fresh HF0.out (fun j hj => R2.out.lt hj) (by simp)
        have NF1 := Lib.hid nf1
        have HDL := Lib.hid (show D.length ≤ 2000 from by omega)
        clear nf1
        go_wp2_with fail
        refine (RcAt.add block (R2.out.below (Chg.below (by repeat (first | with_reducible exact Chg.refl _ _ | with_reducible exact chg0 | with_reducible refine Chg.drewN ?_ _ | with_reducible refine Chg.drew ?_ | with_reducible refine Chg.alloc ?_ _ | with_reducible refine Chg.setCell ?_ _ _ (by first | (simp; done) | omega | (simp; omega)) | with_reducible refine Chg.setBlock ?_ _ _ (by first | (simp; done) | omega | (simp; omega)) | exact Chg.refl _ _))))).mono ?_
        rintro e w7 ⟨rfl, F7, hr7, hm7⟩
        have M7 := Lib.hid (M2.out.trans ((Moves.none (by repeat (first | with_reducible exact Chg.refl _ _ | with_reducible exact chg0 | with_reducible refine Chg.drewN ?_ _ | with_reducible refine Chg.drew ?_ | with_reducible refine Chg.alloc ?_ _ | with_reducible refine Chg.setCell ?_ _ _ (by first | (simp; done) | omega | (simp; omega)) | with_reducible refine Chg.setBlock ?_ _ _ (by first | (simp; done) | omega | (simp; omega)) | exact Chg.refl _ _))).trans hm7))
        have R7 := Lib.hid hr7
        have NF7 := Lib.hid (nf_step (k1 := w.heap.size) (k2 := w.heap.size + 1) (k3 := w2.heap.size) NF1.out hm7.fresh (by first | omega | (simp; omega) | simp) (by first | omega | (simp; omega) | simp) (by first | omega | (simp; omega) | simp))
        have o0' : ob w7 w.heap.size = some (.cells #[.int .i64 b.count, .bool b.owner, .bool b.has, .int .i64 b.data] 42 (0, 0)) := hm7.chg.ob (by simp [go_sem, *]) (NF1.out _ (.inl rfl))
        have o1' : ob w7 (w.heap.size + 1) = some (.cells #[.int .i64 0, .int .i64 0, .bool false, .bool false, .int .i64 0] 53 (0, 0)) := hm7.chg.ob (by simp [go_sem, *]) (NF1.out _ (.inr (.inl rfl)))
        have o2' : ob w7 w2.heap.size = some (.cells #[.int .i64 0, .int .i64 0, .bool false, .bool false, .int .i64 0] 53 (0, 0)) := hm7.chg.ob (by simp [go_sem, *]) (NF1.out _ (.inr (.inr rfl)))
        replace o0 := o0'
        clear o0'
        replace o1 := o1'
        clear o1'
        replace o2 := o2'
        clear o2'
        clear a0 a1 a2 a3 af b0 b1 b2 b3 b4 bf l0 l1 lpw
        obtain ⟨a0, a1, a2, a3, af⟩ := ob_cells4 o0
        obtain ⟨b0, b1, b2, b3, b4, bf⟩ := ob_cells5 o1
        obtain ⟨d0, d1, d2, d3, d4, df⟩ := ob_cells5 o2
        have l0 := ob_lt o0
        have l1 := ob_lt o1
        have l2 := ob_lt o2
        replace k0 := R7.out.cell.1
        have lpw := R7.out.lt R7.out.cell.2
        generalize (c.lines).can block = r7
        clear hr7 hm7
        go_wp2_with fail
        refine (RefSet_calls block b (R7.out.below (Chg.below (by repeat (first | with_reducible exact Chg.refl _ _ | with_reducible exact chg0 | with_reducible refine Chg.drewN ?_ _ | with_reducible refine Chg.drew ?_ | with_reducible refine Chg.alloc ?_ _ | with_reducible refine Chg.setCell ?_ _ _ (by first | (simp; done) | omega | (simp; omega)) | with_reducible refine Chg.setBlock ?_ _ _ (by first | (simp; done) | omega | (simp; omega)) | exact Chg.refl _ _)))) (by have := HDL.out; omega)).mono ?_
        rintro e w8 ⟨rfl, F8, hr8, hm8⟩
        have M8 := Lib.hid (M7.out.trans ((Moves.none (by repeat (first | with_reducible exact Chg.refl _ _ | with_reducible exact chg0 | with_reducible refine Chg.drewN ?_ _ | with_reducible refine Chg.drew ?_ | with_reducible refine Chg.alloc ?_ _ | with_reducible refine Chg.setCell ?_ _ _ (by first | (simp; done) | omega | (simp; omega)) | with_reducible refine Chg.setBlock ?_ _ _ (by first | (simp; done) | omega | (simp; omega)) | exact Chg.refl _ _))).trans hm8))
        rw [if_pos (show 0 < b.count from by have := Q1.out; omega)] at hr8
        have R8 := Lib.hid hr8
        have NF8 := Lib.hid (nf_step (k1 := w.heap.size) (k2 := w.heap.size + 1) (k3 := w2.heap.size) NF7.out hm8.fresh (by first | omega | (simp; omega) | simp) (by first | omega | (simp; omega) | simp) (by first | omega | (simp; omega) | simp))
        have o0' : ob w8 w.heap.size = some (.cells #[.int .i64 b.count, .bool b.owner, .bool b.has, .int .i64 b.data] 42 (0, 0)) := hm8.chg.ob (by simp [go_sem, *]) (NF7.out _ (.inl rfl))
        have o1' : ob w8 (w.heap.size + 1) = some (.cells #[.int .i64 0, .int .i64 0, .bool false, .bool false, .int .i64 0] 53 (0, 0)) := hm8.chg.ob (by simp [go_sem, *]) (NF7.out _ (.inr (.inl rfl)))
        have o2' : ob w8 w2.heap.size = some (.cells #[.int .i64 0, .int .i64 0, .bool false, .bool false, .int .i64 0] 53 (0, 0)) := hm8.chg.ob (by simp [go_sem, *]) (NF7.out _ (.inr (.inr rfl)))
        replace o0 := o0'
        clear o0'
        replace o1 := o1'
        clear o1'
        replace o2 := o2'
        clear o2'
        clear a0 a1 a2 a3 af b0 b1 b2 b3 b4 bf d0 d1 d2 d3 d4 df l0 l1 l2 lpw
        obtain ⟨a0, a1, a2, a3, af⟩ := ob_cells4 o0
        obtain ⟨b0, b1, b2, b3, b4, bf⟩ := ob_cells5 o1
        obtain ⟨d0, d1, d2, d3, d4, df⟩ := ob_cells5 o2
        have l0 := ob_lt o0
        have l1 := ob_lt o1
        have l2 := ob_lt o2
        clear hr8 hm8
        go_wp2_with fail
        (try (go_big_region; go_wp2_with fail))
        (try simp only [Exit.inBlock, Exit.then])
        refine bodyRet2 _ _ rfl rfl (ResIs.row Tryz.underlying53 rfl (by kernel_rfl) rfl (by simp [go_sem, *]; exact ⟨rfl, rfl, rfl⟩)) ResIs.tmp ?_
        have e1 : cc.1.lines = (c.lines).add block := by rw [HAB.out]; rfl
        have e2 : cc.1.tok = fun j => if j = block then b else c.tok j := by rw [HAB.out]; rfl
        refine ⟨by rw [HAB.out]; rfl, F8, ⟨lp, setD (D) block b, by rw [e1]; exact R8.out.chg (S := fun j => j = w.heap.size + 1) (by repeat (first | with_reducible exact Chg.refl _ _ | with_reducible exact chg0 | with_reducible refine Chg.drewN ?_ _ | with_reducible refine Chg.drew ?_ | with_reducible refine Chg.alloc ?_ _ | with_reducible refine Chg.setCell ?_ _ _ (by first | (simp; done) | omega | (simp; omega)) | with_reducible refine Chg.setBlock ?_ _ _ (by first | (simp; done) | omega | (simp; omega)) | exact Chg.refl _ _)) (fun j hf e => NF8.out j (.inr (.inl e)) hf), by rw [e2]; exact HT.out.set block b, OKA.out⟩, Moves.fin (by repeat (first | with_reducible exact Chg.refl _ _ | with_reducible exact chg0 | with_reducible refine Chg.drewN ?_ _ | with_reducible refine Chg.drew ?_ | with_reducible refine Chg.alloc ?_ _ | with_reducible refine Chg.setCell ?_ _ _ (by first | (simp; done) | omega | (simp; omega)) | with_reducible refine Chg.setBlock ?_ _ _ (by first | (simp; done) | omega | (simp; omega)) | exact Chg.refl _ _)) M8.out (S := fun j => j = w.heap.size + 1) (by repeat (first | with_reducible exact Chg.refl _ _ | with_reducible exact chg0 | with_reducible refine Chg.drewN ?_ _ | with_reducible refine Chg.drew ?_ | with_reducible refine Chg.alloc ?_ _ | with_reducible refine Chg.setCell ?_ _ _ (by first | (simp; done) | omega | (simp; omega)) | with_reducible refine Chg.setBlock ?_ _ _ (by first | (simp; done) | omega | (simp; omega)) | exact Chg.refl _ _)) (fun j e => by omega)⟩
end
end Go.Proofs.YtchlioikkhnidaaGreat

/-
  The document's cache: Take, Do.
-/
namespace Go.Proofs.YtchlioikkhnidaaGreat
open Go.RowKit Go.Sort Go.ChangeShapes Go.WideShapes Go.ChangeAt
open Go.ChangeMaps (setBlock)
set_option linter.unusedVariables false
set_option linter.unusedSimpArgs false

section
variable {w w' : World} {p : Nat} {c : CacheM} {F : Nat → Prop}
theorem RefCacheAt.get (b : Int) (h : RefCacheAt w p c F) : Calls Tryz.prog 62 #[.pointer (some ⟨p, 0, none⟩), .int .i64 b] w (Pure w (c.tok b).val) := by
  obtain ⟨lp, D, r, ht, ok⟩ := h
  rw [← ht.look ok.good b]
  exact RefGet_calls b r
theorem RefCacheAt.set (b : Int) (t : Bundle) (h : RefCacheAt w p c F) (g : t.Good) (hb : 0 < t.count → b ∈ c.lines.all) : Calls Tryz.prog 109 #[.pointer (some ⟨p, 0, none⟩), .int .i64 b, t.val] w fun e w' =>
    e = .returned (.tuple #[]) ∧ ∃ F', RefCacheAt w' p (c.set b t) F' ∧ Moves w w' F F' := by
  obtain ⟨lp, D, r, ht, ok⟩ := h
  have := Toks.few ht ok
  exact (RefSet_calls b t r (by omega)).mono fun _ _ ⟨e, F', h1, h2⟩ => ⟨e, F', ⟨lp, _, h1, ht.set b t, CacheM.set_ok ok g hb⟩, h2⟩

set_option maxHeartbeats 4000000 in
set_option maxRecDepth 20000 in
theorem RefTake_calls (block count : Int) (owner data : Bool) (h : RefCacheAt w p c F) (hb : (c.tok block).count ≤ 1000000000000) :
    Calls Tryz.prog 63 #[.pointer (some ⟨p, 0, none⟩), .int .i64 block, .int .i64 count, .bool owner, .bool data] w fun e w' =>
      e = .returned (c.take block count owner data).2.val ∧ ∃ F', RefCacheAt w' p (c.take block count owner data).1 F' ∧ Moves w w' F F' := by
  have ok := h.ok
  have hsg := Bundle.split_good (ok.good block) count owner data
  have hsc := Bundle.split_count (ok.good block) count owner data
  obtain ⟨s1, hs1⟩ : ∃ x, x = ((c.tok block).split count owner data).1 := ⟨_, rfl⟩
  obtain ⟨s2, hs2⟩ : ∃ x, x = ((c.tok block).split count owner data).2 := ⟨_, rfl⟩
  have ht : c.take block count owner data = (c.set block ((c.tok block).split count owner data).2, ((c.tok block).split count owner data).1) := rfl
  have hS := RefSplit_calls (c.tok block) count owner data
  simp only [← hs1, ← hs2] at ht hS hsg hsc
  have HS := Lib.hid hS
  have HFl := Lib.hid (fun j (hj : F j) => h.lt hj)
  have H := Lib.hid h
  have hmem : 0 < s2.count → block ∈ c.lines.all := fun hp => (ok.mem block).2 (by have := hsg.1.pos; omega)
  have HM := Lib.hid hmem
  have OK := Lib.hid ok
  have HG := Lib.hid hsg
  rw [ht]
  clear ht hS hs1 hs2 h hmem hsg hsc ok
  simp only [Bundle.val, Bundle.cells]
  go_enter Tryz.func63, Tryz.ntmps63
  go_wp2_with fail
  refine (RefCacheAt.get block (H.out.below (Chg.below (by repeat (first | with_reducible exact Chg.refl _ _ | with_reducible exact chg0 | with_reducible refine Chg.drewN ?_ _ | with_reducible refine Chg.drew ?_ | with_reducible refine Chg.alloc ?_ _ | with_reducible refine Chg.setCell ?_ _ _ (by first | (simp; done) | omega | (simp; omega)) | with_reducible refine Chg.setBlock ?_ _ _ (by first | (simp; done) | omega | (simp; omega)) | exact Chg.refl _ _))))).mono ?_
  rintro e w1 ⟨rfl, hb1⟩
  have z1 : ob w1 w.heap.size = some (.cells #[.int .i64 0, .bool false, .bool false, .int .i64 0] 42 (0, 0)) := (Chg.of_below (S := fun _ => False) hb1).ob (by simp [go_sem]) (fun h => h)
  have ch1 : Chg (fun _ => False) w w1 := Chg.of_below (below_trans (Chg.below (by repeat (first | with_reducible exact Chg.refl _ _ | with_reducible exact chg0 | with_reducible refine Chg.drewN ?_ _ | with_reducible refine Chg.drew ?_ | with_reducible refine Chg.alloc ?_ _ | with_reducible refine Chg.setCell ?_ _ _ (by first | (simp; done) | omega | (simp; omega)) | with_reducible refine Chg.setBlock ?_ _ _ (by first | (simp; done) | omega | (simp; omega)) | exact Chg.refl _ _))) hb1)
  simp only [Bundle.val, Bundle.cells]
  go_wp2_with fail
  refine (HS.out _ (OK.out.good block) hb).mono ?_
  rintro e w2 ⟨rfl, hb2⟩
  simp only [Bundle.val, Bundle.cells]
  have ch2 : Chg (fun _ => False) w w2 := ch1.trans (Chg.of_below hb2) (fun _ _ h => h)
  have z2 := (Chg.of_below (S := fun _ => False) hb2).ob z1 (fun h => h)
  have lz := ob_lt z2
  have H2 := Lib.hid (H.out.chg ch2 (fun _ _ h => h))
  clear ch1 hb1 z1
  go_wp2_with fail
  refine (RefCacheAt.set block s2 (H2.out.below (Chg.below (by repeat (first | with_reducible exact Chg.refl _ _ | with_reducible exact chg0 | with_reducible refine Chg.drewN ?_ _ | with_reducible refine Chg.drew ?_ | with_reducible refine Chg.alloc ?_ _ | with_reducible refine Chg.setCell ?_ _ _ (by first | (simp; done) | omega | (simp; omega)) | with_reducible refine Chg.setBlock ?_ _ _ (by first | (simp; done) | omega | (simp; omega)) | exact Chg.refl _ _)))) HG.out.2 HM.out).mono ?_
  rintro e w3 ⟨rfl, F3, h3, m3⟩
  have hF0 : ∀ j, F j → j ≠ w.heap.size ∧ j ≠ w2.heap.size := fun j hj => by have := HFl.out j hj; omega
  have o0 : ob w3 w.heap.size = some (.cells #[.int .i64 0, .bool false, .bool false, .int .i64 0] 42 (0, 0)) := m3.chg.ob (by simp [go_sem, z2, lz, Nat.lt_succ_of_lt lz]) (fun h => (hF0 _ h).1 rfl)
  have o1 : ob w3 w2.heap.size = some (.cells #[.int .i64 s1.count, .bool s1.owner, .bool s1.has, .int .i64 s1.data] 42 (0, 0)) := m3.chg.ob (by simp [go_sem]) (fun h => (hF0 _ h).2 rfl)
  obtain ⟨a0, a1, a2, a3, af⟩ := ob_cells4 o0
  obtain ⟨b0, b1, b2, b3, bf⟩ := ob_cells4 o1
  have l0 := ob_lt o0
  have l1 := ob_lt o1
  have H3 := Lib.hid h3
  have M3 := Lib.hid ((Moves.none (ch2.trans (S' := fun _ => False) (by repeat (first | with_reducible exact Chg.refl _ _ | with_reducible exact chg0 | with_reducible refine Chg.drewN ?_ _ | with_reducible refine Chg.drew ?_ | with_reducible refine Chg.alloc ?_ _ | with_reducible refine Chg.setCell ?_ _ _ (by first | (simp; done) | omega | (simp; omega)) | with_reducible refine Chg.setBlock ?_ _ _ (by first | (simp; done) | omega | (simp; omega)) | exact Chg.refl _ _)) (fun _ _ h => h))).trans m3)
  have hne : ∀ j, F3 j → ¬ j = w.heap.size := fun j hf e => by
    rcases m3.fresh j hf with h | h
    · exact (hF0 j h).1 e
    · simp [go_sem] at h; omega
  have NE := Lib.hid hne
  clear h3 m3 hne z2
  go_wp2_with fail
  (try simp only [Exit.inBlock, Exit.then])
  refine bodyRet1 _ rfl rfl (ResIs.row Tryz.underlying42 rfl (by kernel_rfl) rfl (by simp [go_sem, *]; exact ⟨rfl, rfl, rfl⟩)) ?_
  exact ⟨rfl, F3, H3.out.chg (S := fun j => j = w.heap.size) (by repeat (first | with_reducible exact Chg.refl _ _ | with_reducible exact chg0 | with_reducible refine Chg.drewN ?_ _ | with_reducible refine Chg.drew ?_ | with_reducible refine Chg.alloc ?_ _ | with_reducible refine Chg.setCell ?_ _ _ (by first | (simp; done) | omega | (simp; omega)) | with_reducible refine Chg.setBlock ?_ _ _ (by first | (simp; done) | omega | (simp; omega)) | exact Chg.refl _ _)) (fun j hf e => NE.out j hf e), M3.out.own (S := fun j => j = w.heap.size) (by repeat (first | with_reducible exact Chg.refl _ _ | with_reducible exact chg0 | with_reducible refine Chg.drewN ?_ _ | with_reducible refine Chg.drew ?_ | with_reducible refine Chg.alloc ?_ _ | with_reducible refine Chg.setCell ?_ _ _ (by first | (simp; done) | omega | (simp; omega)) | with_reducible refine Chg.setBlock ?_ _ _ (by first | (simp; done) | omega | (simp; omega)) | exact Chg.refl _ _)) (fun j e => by omega)⟩

set_option maxHeartbeats 4000000 in
set_option maxRecDepth 20000 in
theorem RefCacheDo_calls (op : Op) (tokens : Int) (h : RefCacheAt w p c F) :
    Calls Tryz.prog 103 #[.pointer (some ⟨p, 0, none⟩), op.val, .int .i64 tokens] w fun e w' =>
      e = .returned (.tuple #[.int .i64 (c.does op tokens).2.1, .bool (c.does op tokens).2.2]) ∧ ∃ F', RefCacheAt w' p (c.does op tokens).1 F' ∧ Moves w w' F F' := by
  have ok := h.ok
  have hD := RefDo_calls op (c.tok op.block) tokens
  have hds : (c.tok op.block).does op tokens = if (c.tok op.block).may op.write tokens = true then ((c.tok op.block).done op, ((c.tok op.block).done op).data, true) else (c.tok op.block, 0, false) := rfl
  have hcd : c.does op tokens = if (c.tok op.block).may op.write tokens = true then ((c.set op.block ((c.tok op.block).done op)).use op.block, ((c.tok op.block).done op).data, true) else (c, 0, false) := rfl
  have oka := CacheM.does_ok ok op tokens
  have hmi := @Bundle.may_iff (c.tok op.block) op.write tokens
  obtain ⟨m, hm⟩ : ∃ m, m = (c.tok op.block).may op.write tokens := ⟨_, rfl⟩
  rw [← hm] at hds hcd hmi
  rw [hds] at hD
  have HD := Lib.hid hD
  have HCD := Lib.hid hcd
  have HMI := Lib.hid hmi
  have HFl := Lib.hid (fun j (hj : F j) => h.lt hj)
  have H := Lib.hid h
  have OK := Lib.hid ok
  have OKA := Lib.hid oka
  clear hD hds hcd hmi hm h ok oka
  obtain ⟨obk, ow, ov⟩ := op
  simp only [Op.val, Op.cells]
  go_enter Tryz.func103, Tryz.ntmps103
  have AA := Lib.hid (show ∀ W, Chg (fun _ => False) (w.alloc (Obj.cells #[Value.int IntKind.i64 obk, Value.bool ow, Value.int IntKind.i64 ov] 25)) W → W.cell? ⟨w.heap.size, 0, none⟩ = some (.int .i64 obk) ∧ W.cell? ⟨w.heap.size, 1, none⟩ = some (.bool ow) ∧ W.cell? ⟨w.heap.size, 2, none⟩ = some (.int .i64 ov) from fun W hc => keep3 hc (fun h => h) ⟨by simp [go_sem], by simp [go_sem], by simp [go_sem]⟩)
  go_wp2_with fail
  cases m
  case false =>
    simp only [Bool.false_eq_true, if_false, if_true] at HD HCD
    go_region_held3 (fun W => W.cell? ⟨w.heap.size, 0, none⟩ = some (.int .i64 obk) ∧ W.cell? ⟨w.heap.size, 1, none⟩ = some (.bool ow) ∧ W.cell? ⟨w.heap.size, 2, none⟩ = some (.int .i64 ov)) (first | assumption | (refine AA.out _ ?_; (repeat (first | with_reducible exact Chg.refl _ _ | with_reducible exact chg0 | with_reducible refine Chg.drewN ?_ _ | with_reducible refine Chg.drew ?_ | with_reducible refine Chg.alloc ?_ _ | with_reducible refine Chg.setCell ?_ _ _ (by first | (simp; done) | omega | (simp; omega)) | with_reducible refine Chg.setBlock ?_ _ _ (by first | (simp; done) | omega | (simp; omega)) | exact Chg.refl _ _)); done) | (refine keep3 (S := fun j => w.heap.size < j) ?_ (Nat.lt_irrefl _) (by assumption); (repeat (first | with_reducible exact Chg.refl _ _ | with_reducible exact chg0 | with_reducible refine Chg.drewN ?_ _ | with_reducible refine Chg.drew ?_ | with_reducible refine Chg.alloc ?_ _ | with_reducible refine Chg.setCell ?_ _ _ (by first | (simp; done) | omega | (simp; omega)) | with_reducible refine Chg.setBlock ?_ _ _ (by first | (simp; done) | omega | (simp; omega)) | exact Chg.refl _ _)); done) | (refine keep3 (S := fun j => w.heap.size < j) ?_ (Nat.lt_irrefl _) hx3; (repeat (first | with_reducible exact Chg.refl _ _ | with_reducible exact chg0 | with_reducible refine Chg.drewN ?_ _ | with_reducible refine Chg.drew ?_ | with_reducible refine Chg.alloc ?_ _ | with_reducible refine Chg.setCell ?_ _ _ (by first | (simp; done) | omega | (simp; omega)) | with_reducible refine Chg.setBlock ?_ _ _ (by first | (simp; done) | omega | (simp; omega)) | exact Chg.refl _ _)); done) | (refine keep3 (S := fun j => w.heap.size < j) ?_ (Nat.lt_irrefl _) hx2; (repeat (first | with_reducible exact Chg.refl _ _ | with_reducible exact chg0 | with_reducible refine Chg.drewN ?_ _ | with_reducible refine Chg.drew ?_ | with_reducible refine Chg.alloc ?_ _ | with_reducible refine Chg.setCell ?_ _ _ (by first | (simp; done) | omega | (simp; omega)) | with_reducible refine Chg.setBlock ?_ _ _ (by first | (simp; done) | omega | (simp; omega)) | exact Chg.refl _ _)); done) | fail) (first
      | (go_at_call 62; refine (RefCacheAt.get obk (H.out.below (Chg.below (by repeat (first | with_reducible exact Chg.refl _ _ | with_reducible exact chg0 | with_reducible refine Chg.drewN ?_ _ | with_reducible refine Chg.drew ?_ | with_reducible refine Chg.alloc ?_ _ | with_reducible refine Chg.setCell ?_ _ _ (by first | (simp; done) | omega | (simp; omega)) | with_reducible refine Chg.setBlock ?_ _ _ (by first | (simp; done) | omega | (simp; omega)) | exact Chg.refl _ _))))).mono ?_; rintro e w2 ⟨rfl, hb2⟩; simp only [Bundle.val, Bundle.cells]; have hx2 := keep3 (S := fun _ => False) (Chg.of_below hb2) (fun h => h) (by first | assumption | (refine AA.out _ ?_; (repeat (first | with_reducible exact Chg.refl _ _ | with_reducible exact chg0 | with_reducible refine Chg.drewN ?_ _ | with_reducible refine Chg.drew ?_ | with_reducible refine Chg.alloc ?_ _ | with_reducible refine Chg.setCell ?_ _ _ (by first | (simp; done) | omega | (simp; omega)) | with_reducible refine Chg.setBlock ?_ _ _ (by first | (simp; done) | omega | (simp; omega)) | exact Chg.refl _ _)); done) | fail); have chg0 : Chg (fun _ => False) w w2 := Chg.of_below (below_trans (Chg.below (by repeat (first | with_reducible exact Chg.refl _ _ | with_reducible exact chg0 | with_reducible refine Chg.drewN ?_ _ | with_reducible refine Chg.drew ?_ | with_reducible refine Chg.alloc ?_ _ | with_reducible refine Chg.setCell ?_ _ _ (by first | (simp; done) | omega | (simp; omega)) | with_reducible refine Chg.setBlock ?_ _ _ (by first | (simp; done) | omega | (simp; omega)) | exact Chg.refl _ _))) hb2); have lw2 := World.block_lt_of_cell? w2 _ hx2.1; simp only at lw2; (try (have q2 := ob_step (b := (w.heap.size + 1)) hb2 (ob_alloc2 w _ _); obtain ⟨q20, q21, q22, q23, q2f⟩ := ob_cells4 q2; have q2l := ob_lt q2)); clear hb2)
      | (go_at_call 138; refine (HD.out _).mono ?_; rintro e w3 ⟨rfl, hb3⟩; simp only [Bundle.val, Bundle.cells]; have hx3 := keep3 (S := fun _ => False) (Chg.of_below hb3) (fun h => h) (by first | assumption | (refine AA.out _ ?_; (repeat (first | with_reducible exact Chg.refl _ _ | with_reducible exact chg0 | with_reducible refine Chg.drewN ?_ _ | with_reducible refine Chg.drew ?_ | with_reducible refine Chg.alloc ?_ _ | with_reducible refine Chg.setCell ?_ _ _ (by first | (simp; done) | omega | (simp; omega)) | with_reducible refine Chg.setBlock ?_ _ _ (by first | (simp; done) | omega | (simp; omega)) | exact Chg.refl _ _)); done) | fail); have chg1 : Chg (fun _ => False) w w3 := Chg.of_below (below_trans (Chg.below (by repeat (first | with_reducible exact Chg.refl _ _ | with_reducible exact chg0 | with_reducible refine Chg.drewN ?_ _ | with_reducible refine Chg.drew ?_ | with_reducible refine Chg.alloc ?_ _ | with_reducible refine Chg.setCell ?_ _ _ (by first | (simp; done) | omega | (simp; omega)) | with_reducible refine Chg.setBlock ?_ _ _ (by first | (simp; done) | omega | (simp; omega)) | exact Chg.refl _ _))) hb3); replace chg0 := chg1; have lw3 := World.block_lt_of_cell? w3 _ hx3.1; simp only at lw3; (try (have q3 := ob_step (b := (w.heap.size + 1)) hb3 q2; obtain ⟨q30, q31, q32, q33, q3f⟩ := ob_cells4 q3; have q3l := ob_lt q3)); (try (have q4 := ob_step (b := w2.heap.size) hb3 (ob_alloc_at w2 _); obtain ⟨q40, q41, q42, q43, q4f⟩ := ob_cells4 q4; have q4l := ob_lt q4)); clear hb3))
    all_goals
      go_wp2_with fail
      go_ret2
      rw [HCD.out]
      exact ⟨rfl, F, H.out.chg (S := fun _ => False) (by repeat (first | with_reducible exact Chg.refl _ _ | with_reducible exact chg0 | with_reducible refine Chg.drewN ?_ _ | with_reducible refine Chg.drew ?_ | with_reducible refine Chg.alloc ?_ _ | with_reducible refine Chg.setCell ?_ _ _ (by first | (simp; done) | omega | (simp; omega)) | with_reducible refine Chg.setBlock ?_ _ _ (by first | (simp; done) | omega | (simp; omega)) | exact Chg.refl _ _)) (fun _ _ h => h), Moves.none (by repeat (first | with_reducible exact Chg.refl _ _ | with_reducible exact chg0 | with_reducible refine Chg.drewN ?_ _ | with_reducible refine Chg.drew ?_ | with_reducible refine Chg.alloc ?_ _ | with_reducible refine Chg.setCell ?_ _ _ (by first | (simp; done) | omega | (simp; omega)) | with_reducible refine Chg.setBlock ?_ _ _ (by first | (simp; done) | omega | (simp; omega)) | exact Chg.refl _ _))⟩
  case true =>
    simp only [Bool.false_eq_true, if_false, if_true] at HD HCD
    go_region_held3 (fun W => W.cell? ⟨w.heap.size, 0, none⟩ = some (.int .i64 obk) ∧ W.cell? ⟨w.heap.size, 1, none⟩ = some (.bool ow) ∧ W.cell? ⟨w.heap.size, 2, none⟩ = some (.int .i64 ov)) (first | assumption | (refine AA.out _ ?_; (repeat (first | with_reducible exact Chg.refl _ _ | with_reducible exact chg0 | with_reducible refine Chg.drewN ?_ _ | with_reducible refine Chg.drew ?_ | with_reducible refine Chg.alloc ?_ _ | with_reducible refine Chg.setCell ?_ _ _ (by first | (simp; done) | omega | (simp; omega)) | with_reducible refine Chg.setBlock ?_ _ _ (by first | (simp; done) | omega | (simp; omega)) | exact Chg.refl _ _)); done) | (refine keep3 (S := fun j => w.heap.size < j) ?_ (Nat.lt_irrefl _) (by assumption); (repeat (first | with_reducible exact Chg.refl _ _ | with_reducible exact chg0 | with_reducible refine Chg.drewN ?_ _ | with_reducible refine Chg.drew ?_ | with_reducible refine Chg.alloc ?_ _ | with_reducible refine Chg.setCell ?_ _ _ (by first | (simp; done) | omega | (simp; omega)) | with_reducible refine Chg.setBlock ?_ _ _ (by first | (simp; done) | omega | (simp; omega)) | exact Chg.refl _ _)); done) | (refine keep3 (S := fun j => w.heap.size < j) ?_ (Nat.lt_irrefl _) hx3; (repeat (first | with_reducible exact Chg.refl _ _ | with_reducible exact chg0 | with_reducible refine Chg.drewN ?_ _ | with_reducible refine Chg.drew ?_ | with_reducible refine Chg.alloc ?_ _ | with_reducible refine Chg.setCell ?_ _ _ (by first | (simp; done) | omega | (simp; omega)) | with_reducible refine Chg.setBlock ?_ _ _ (by first | (simp; done) | omega | (simp; omega)) | exact Chg.refl _ _)); done) | (refine keep3 (S := fun j => w.heap.size < j) ?_ (Nat.lt_irrefl _) hx2; (repeat (first | with_reducible exact Chg.refl _ _ | with_reducible exact chg0 | with_reducible refine Chg.drewN ?_ _ | with_reducible refine Chg.drew ?_ | with_reducible refine Chg.alloc ?_ _ | with_reducible refine Chg.setCell ?_ _ _ (by first | (simp; done) | omega | (simp; omega)) | with_reducible refine Chg.setBlock ?_ _ _ (by first | (simp; done) | omega | (simp; omega)) | exact Chg.refl _ _)); done) | fail) (first
      | (go_at_call 62; refine (RefCacheAt.get obk (H.out.below (Chg.below (by repeat (first | with_reducible exact Chg.refl _ _ | with_reducible exact chg0 | with_reducible refine Chg.drewN ?_ _ | with_reducible refine Chg.drew ?_ | with_reducible refine Chg.alloc ?_ _ | with_reducible refine Chg.setCell ?_ _ _ (by first | (simp; done) | omega | (simp; omega)) | with_reducible refine Chg.setBlock ?_ _ _ (by first | (simp; done) | omega | (simp; omega)) | exact Chg.refl _ _))))).mono ?_; rintro e w2 ⟨rfl, hb2⟩; simp only [Bundle.val, Bundle.cells]; have hx2 := keep3 (S := fun _ => False) (Chg.of_below hb2) (fun h => h) (by first | assumption | (refine AA.out _ ?_; (repeat (first | with_reducible exact Chg.refl _ _ | with_reducible exact chg0 | with_reducible refine Chg.drewN ?_ _ | with_reducible refine Chg.drew ?_ | with_reducible refine Chg.alloc ?_ _ | with_reducible refine Chg.setCell ?_ _ _ (by first | (simp; done) | omega | (simp; omega)) | with_reducible refine Chg.setBlock ?_ _ _ (by first | (simp; done) | omega | (simp; omega)) | exact Chg.refl _ _)); done) | fail); have chg0 : Chg (fun _ => False) w w2 := Chg.of_below (below_trans (Chg.below (by repeat (first | with_reducible exact Chg.refl _ _ | with_reducible exact chg0 | with_reducible refine Chg.drewN ?_ _ | with_reducible refine Chg.drew ?_ | with_reducible refine Chg.alloc ?_ _ | with_reducible refine Chg.setCell ?_ _ _ (by first | (simp; done) | omega | (simp; omega)) | with_reducible refine Chg.setBlock ?_ _ _ (by first | (simp; done) | omega | (simp; omega)) | exact Chg.refl _ _))) hb2); have lw2 := World.block_lt_of_cell? w2 _ hx2.1; simp only at lw2; (try (have q2 := ob_step (b := (w.heap.size + 1)) hb2 (ob_alloc2 w _ _); obtain ⟨q20, q21, q22, q23, q2f⟩ := ob_cells4 q2; have q2l := ob_lt q2)); clear hb2)
      | (go_at_call 138; refine (HD.out _).mono ?_; rintro e w3 ⟨rfl, hb3⟩; simp only [Bundle.val, Bundle.cells]; have hx3 := keep3 (S := fun _ => False) (Chg.of_below hb3) (fun h => h) (by first | assumption | (refine AA.out _ ?_; (repeat (first | with_reducible exact Chg.refl _ _ | with_reducible exact chg0 | with_reducible refine Chg.drewN ?_ _ | with_reducible refine Chg.drew ?_ | with_reducible refine Chg.alloc ?_ _ | with_reducible refine Chg.setCell ?_ _ _ (by first | (simp; done) | omega | (simp; omega)) | with_reducible refine Chg.setBlock ?_ _ _ (by first | (simp; done) | omega | (simp; omega)) | exact Chg.refl _ _)); done) | fail); have chg1 : Chg (fun _ => False) w w3 := Chg.of_below (below_trans (Chg.below (by repeat (first | with_reducible exact Chg.refl _ _ | with_reducible exact chg0 | with_reducible refine Chg.drewN ?_ _ | with_reducible refine Chg.drew ?_ | with_reducible refine Chg.alloc ?_ _ | with_reducible refine Chg.setCell ?_ _ _ (by first | (simp; done) | omega | (simp; omega)) | with_reducible refine Chg.setBlock ?_ _ _ (by first | (simp; done) | omega | (simp; omega)) | exact Chg.refl _ _))) hb3); replace chg0 := chg1; have lw3 := World.block_lt_of_cell? w3 _ hx3.1; simp only at lw3; (try (have q3 := ob_step (b := (w.heap.size + 1)) hb3 q2; obtain ⟨q30, q31, q32, q33, q3f⟩ := ob_cells4 q3; have q3l := ob_lt q3)); (try (have q4 := ob_step (b := w2.heap.size) hb3 (ob_alloc_at w2 _); obtain ⟨q40, q41, q42, q43, q4f⟩ := ob_cells4 q4; have q4l := ob_lt q4)); clear hb3))
    all_goals
      go_wp2_with fail
      refine (RefCacheAt.set obk _ (H.out.chg (S := fun _ => False) (by repeat (first | with_reducible exact Chg.refl _ _ | with_reducible exact chg0 | with_reducible refine Chg.drewN ?_ _ | with_reducible refine Chg.drew ?_ | with_reducible refine Chg.alloc ?_ _ | with_reducible refine Chg.setCell ?_ _ _ (by first | (simp; done) | omega | (simp; omega)) | with_reducible refine Chg.setBlock ?_ _ _ (by first | (simp; done) | omega | (simp; omega)) | exact Chg.refl _ _)) (fun _ _ h => h)) (Bundle.done_good (OK.out.good obk) _ (HMI.out.1 trivial).2.1) (fun _ => (OK.out.mem obk).2 (by have := (HMI.out.1 trivial).1; omega))).mono ?_
      rintro e w5 ⟨rfl, F5, h5, m5⟩
      have hF0 : ∀ j, F j → j ≠ w.heap.size := fun j hj => by have := HFl.out j hj; omega
      have j0 : w5.cell? ⟨w.heap.size, 0, none⟩ = some (.int .i64 obk) := m5.chg.cell (by simp [go_sem, *]) (fun h => hF0 _ h rfl)
      have H5 := Lib.hid h5
      have M5 := Lib.hid ((Moves.none (by exact (show Chg (fun _ => False) w _ from by (repeat (first | with_reducible exact Chg.refl _ _ | with_reducible exact chg0 | with_reducible refine Chg.drewN ?_ _ | with_reducible refine Chg.drew ?_ | with_reducible refine Chg.alloc ?_ _ | with_reducible refine Chg.setCell ?_ _ _ (by first | (simp; done) | omega | (simp; omega)) | with_reducible refine Chg.setBlock ?_ _ _ (by first | (simp; done) | omega | (simp; omega)) | exact Chg.refl _ _))))).trans m5)
      obtain ⟨lp, D, r, ht, ok⟩ := H5.out
      have k0 := r.cell.1
      have lpw := r.lt r.cell.2
      have R5 := Lib.hid r
      have HT5 := Lib.hid ht
      have OK5 := Lib.hid ok
      have lj := World.block_lt_of_cell? w5 _ j0
      clear h5 m5 r ht ok
      go_wp2_with fail
      go_still_tail 6, (by kernel_rfl)
      go_wp2_with fail
      refine (RcAt.use obk (R5.out.below (Chg.below (by repeat (first | with_reducible exact Chg.refl _ _ | with_reducible exact chg0 | with_reducible refine Chg.drewN ?_ _ | with_reducible refine Chg.drew ?_ | with_reducible refine Chg.alloc ?_ _ | with_reducible refine Chg.setCell ?_ _ _ (by first | (simp; done) | omega | (simp; omega)) | with_reducible refine Chg.setBlock ?_ _ _ (by first | (simp; done) | omega | (simp; omega)) | exact Chg.refl _ _))))).mono ?_
      rintro e w6 ⟨rfl, F6, h6, m6⟩
      have H6 := Lib.hid h6
      have M6 := Lib.hid (M5.out.trans ((Moves.none (by repeat (first | with_reducible exact Chg.refl _ _ | with_reducible exact chg0 | with_reducible refine Chg.drewN ?_ _ | with_reducible refine Chg.drew ?_ | with_reducible refine Chg.alloc ?_ _ | with_reducible refine Chg.setCell ?_ _ _ (by first | (simp; done) | omega | (simp; omega)) | with_reducible refine Chg.setBlock ?_ _ _ (by first | (simp; done) | omega | (simp; omega)) | exact Chg.refl _ _))).trans m6))
      clear h6 m6
      go_wp2_with fail
      go_ret2
      rw [HCD.out]
      exact ⟨rfl, F6, ⟨lp, D, H6.out, HT5.out, CacheM.use_ok OK5.out _⟩, M6.out⟩
end
end Go.Proofs.YtchlioikkhnidaaGreat

/-
  The document's cache: All; two lists of lines.
-/
namespace Go.Proofs.YtchlioikkhnidaaGreat
open Go.RowKit Go.Sort Go.ChangeShapes Go.WideShapes Go.ChangeAt
open Go.ChangeMaps (setBlock)
set_option linter.unusedVariables false
set_option linter.unusedSimpArgs false

section
variable {w w' : World} {p : Nat} {c : CacheM} {F : Nat → Prop}
set_option maxHeartbeats 2000000 in
theorem LineSame_calls (l : List Line) (va vb : Value) (w : World) (ha : SliceIs w 5 va (l.map Line.cells)) (hb : SliceIs w 5 vb (l.map Line.cells)) :
    Calls Tryz.prog 45 #[va, vb] w fun e w' => e = .returned (.bool true) ∧ ∃ n, w' = w.drewN n := by
  obtain ⟨A, ca, rfl, a1, a2, a3⟩ := sliceLines ha
  obtain ⟨B, cb, rfl, b1, b2, b3⟩ := sliceLines hb
  clear ha hb
  have A3 := Lib.hid a3
  have B3 := Lib.hid b3
  clear a3 b3
  have hl1 : ((l.length : Int) != (l.length : Int)) = false := by simp
  go_enter Tryz.func45, Tryz.ntmps45
  go_wp2_with fail
  go_loopw [5] (fun i wr => ∃ (k n : Nat), k ≤ l.length ∧ i = .int .i64 k ∧ wr = w.drewN n) (fun i _ => l.length - (intOf i).toNat)
  case atStart => exact ⟨0, 0, Nat.zero_le _, rfl, rfl⟩
  case round =>
    obtain ⟨k, n, hk, rfl, rfl⟩ := hrel
    by_cases hlt : k < l.length
    · obtain ⟨q, off, rfl, hc⟩ := A3.out (by omega)
      obtain ⟨q', off', rfl, hc'⟩ := B3.out (by omega)
      have h1 := hc k hlt
      have h2 := hc' k hlt
      clear hc hc'
      generalize l[k] = x at h1 h2
      obtain ⟨c0, c1, c2, c3, c4⟩ := Line.range h1
      obtain ⟨d0, d1, d2, d3, d4⟩ := Line.range h2
      clear h1 h2
      go_wp2_with fail
      go_quiet (fail)
      go_wp2_with fail
      exact ⟨⟨k + 1, _, by omega, by go_num, rfl⟩, by simp [intOf]; omega⟩
    · go_wp2_with fail
      go_ret
      exact ⟨rfl, _, rfl⟩

theorem RefGetC_calls (b : Int) (h : RefCacheAt w p c F) : Calls Tryz.prog 62 #[.pointer (some ⟨p, 0, none⟩), .int .i64 b] w (Pure w (c.tok b).val) := by
  obtain ⟨lp, D, r, htk, ok⟩ := h
  rw [← htk.look ok.good b]
  exact RefGet_calls b r
theorem RefCacheAt.list (h : RefCacheAt w p c F) : ∃ lp FL, w.cell? ⟨p, 0, none⟩ = some (.pointer (some ⟨lp, 0, none⟩)) ∧ p < w.heap.size ∧ RefAt w lp c.lines FL := by
  obtain ⟨lp, D, r, htk, ok⟩ := h
  have h0 := r.cell
  obtain ⟨FL, h1, _⟩ := r.line
  exact ⟨lp, FL, h0.1, r.lt h0.2, h1⟩

set_option maxHeartbeats 4000000 in
set_option maxRecDepth 20000 in
theorem RefAll_calls (h : RefCacheAt w p c F) : Calls Tryz.prog 47 #[.pointer (some ⟨p, 0, none⟩)] w fun e w' => ∃ v, e = .returned v ∧ OwnSl w' 53 5 v (c.all.map Line.cells) ∧ (∀ j, v.ownBlock = some j → w.heap.size ≤ j) ∧ Below w.heap.size w w' := by
  have ok := h.ok
  have H := Lib.hid h
  have hfew0 := Lines.few ok.lines
  have hfew : c.lines.list.length ≤ 1024 := by rw [Lines.list, (List.mergeSort_perm _ _).length_eq]; exact hfew0
  obtain ⟨lp, FL, c0, lp', r1⟩ := h.list
  have R1 := Lib.hid r1
  have HLen := Lib.hid (show c.lines.all.length ≤ 100000 by omega)
  have OK := Lib.hid ok
  clear h r1 ok hfew0
  go_enter Tryz.func47, Tryz.ntmps47
  go_wp2_with fail
  refine (RefList_calls (R1.out.below (Chg.below (by repeat (first | with_reducible exact Chg.refl _ _ | with_reducible exact chg0 | with_reducible refine Chg.drewN ?_ _ | with_reducible refine Chg.drew ?_ | with_reducible refine Chg.alloc ?_ _ | with_reducible refine Chg.setCell ?_ _ _ (by first | (simp; done) | omega | (simp; omega)) | with_reducible refine Chg.setBlock ?_ _ _ (by first | (simp; done) | omega | (simp; omega)) | exact Chg.refl _ _)))) HLen.out).mono ?_
  rintro e w2 ⟨u, rfl, hu, hul, hb2⟩
  have o0 : ob w2 w.heap.size = some (.cells #[] 53 (0, 0)) := (Chg.of_below (S := fun _ => False) hb2).ob (by simp [go_sem]) (fun h => h)
  obtain ⟨A4, cap4, e4⟩ := hu.form
  rw [ints_length] at e4
  subst e4
  have hb : Below w.heap.size w w2 := below_trans (Chg.below (by repeat (first | with_reducible exact Chg.refl _ _ | with_reducible exact chg0 | with_reducible refine Chg.drewN ?_ _ | with_reducible refine Chg.drew ?_ | with_reducible refine Chg.alloc ?_ _ | with_reducible refine Chg.setCell ?_ _ _ (by first | (simp; done) | omega | (simp; omega)) | with_reducible refine Chg.setBlock ?_ _ _ (by first | (simp; done) | omega | (simp; omega)) | exact Chg.refl _ _))) hb2
  obtain ⟨L, hL⟩ : ∃ L, L = c.lines.list := ⟨_, rfl⟩
  have hall : c.all = L.map fun b => ⟨b, c.tok b⟩ := by rw [hL]; rfl
  rw [← hL] at hu hfew ⊢
  have HU := Lib.hid hu
  have HB := Lib.hid hb
  have HA := Lib.hid hall
  have hul2 : ∀ j, (Value.slice A4 L.length cap4).ownBlock = some j → w.heap.size < j := fun j hj => by have := hul j (by rw [← hL]; exact hj); simp [go_sem] at this; omega
  have HUL := Lib.hid hul2
  have O0 := Lib.hid o0
  have hlt0 := ob_lt o0
  clear hu hb hall hb2 hL hul hul2 o0
  go_wp2_with fail
  go_loopw [3, 5] (fun v i wr => ∃ k : Nat, k ≤ L.length ∧ i = .int .i64 k ∧ OwnSl wr 53 5 v (((L.take k).map fun b => (⟨b, c.tok b⟩ : Line)).map Line.cells) ∧ (∀ j, v.ownBlock = some j → j = w.heap.size ∨ w2.heap.size ≤ j) ∧ Chg (fun j => j = w.heap.size) w2 wr) (fun _ i _ => L.length - (intOf i).toNat)
  case atStart => exact ⟨0, Nat.zero_le _, rfl, OwnSl.made (c := #[]) (e := 53) (b := w.heap.size) O0.out RowsOk.nil rfl (by decide), fun j hj => .inl (by simpa [Value.ownBlock] using hj.symm), Chg.refl _ _⟩
  case round =>
    obtain ⟨k, hk, rfl, hown, hlo, hbr⟩ := hrel
    obtain ⟨Av, nv, capv, hv⟩ := hown.shape
    subst hv
    have Hown := Lib.hid hown
    have Hlo := Lib.hid hlo
    have Hbr := Lib.hid hbr
    have sr := hbr.size
    have sw := HB.out.size
    have hbw := below_chg HB.out hbr (fun j hj e => by omega)
    have HBW := Lib.hid hbw
    clear hown hlo hbw
    by_cases hlt : k < L.length
    · obtain ⟨A', cap', e', t1, t2, t3⟩ := sliceInts (HU.out.chg hbr (fun j hj e => by have := HUL.out j hj; omega)).slice
      cases e'
      obtain ⟨bb, off, rfl, hc⟩ := t3 (by omega)
      have hc2 := hc k hlt
      obtain ⟨x, hx⟩ : ∃ x, x = L.getD k 0 := ⟨_, rfl⟩
      rw [← hx] at hc2
      have htake : L.take (k + 1) = L.take k ++ [x] := by rw [hx, List.take_add_one, List.getD_eq_getElem?_getD, List.getElem?_eq_getElem hlt]; rfl
      have HTk := Lib.hid htake
      have ltk : (L.take k).length ≤ 1024 := by rw [List.length_take]; omega
      have hk0 : (0 : Int) ≤ (k : Int) := by omega
      have hk1 : (k : Int) < (L.length : Int) := by omega
      clear hc hx htake t1 t2 t3 hbr
      go_wp2_with fail
      go_region_law (first
        | (go_simp; go_at_call 62; refine (RefGetC_calls x (H.out.below (below_trans HBW.out (Chg.below (by repeat (first | with_reducible exact Chg.refl _ _ | with_reducible exact chg0 | with_reducible refine Chg.drewN ?_ _ | with_reducible refine Chg.drew ?_ | with_reducible refine Chg.alloc ?_ _ | with_reducible refine Chg.setCell ?_ _ _ (by first | (simp; done) | omega | (simp; omega)) | with_reducible refine Chg.setBlock ?_ _ _ (by first | (simp; done) | omega | (simp; omega)) | exact Chg.refl _ _)))))).mono ?_; rintro e w6 ⟨rfl, hb6⟩; simp only [Bundle.val, Bundle.cells]; have hb6' : Below wr.heap.size wr w6 := below_trans (Chg.below (by repeat (first | with_reducible exact Chg.refl _ _ | with_reducible exact chg0 | with_reducible refine Chg.drewN ?_ _ | with_reducible refine Chg.drew ?_ | with_reducible refine Chg.alloc ?_ _ | with_reducible refine Chg.setCell ?_ _ _ (by first | (simp; done) | omega | (simp; omega)) | with_reducible refine Chg.setBlock ?_ _ _ (by first | (simp; done) | omega | (simp; omega)) | exact Chg.refl _ _))) hb6; have hc6 : w6.cell? ⟨bb, off + k, none⟩ = some (.int .i64 x) := (Chg.of_below (S := fun _ => False) hb6').cell hc2 (fun h => h))
        | (refine step_append_sl (xs := ((L.take k).map fun b => (⟨b, c.tok b⟩ : Line)).map Line.cells) (ys := [(⟨x, c.tok x⟩ : Line).cells]) rfl _ _ rfl tyLines rfl rfl (Hown.out.chg (S := fun _ => False) ((Chg.of_below hb6').trans (S' := fun _ => False) (by repeat (first | with_reducible exact Chg.refl _ _ | with_reducible exact chg0 | with_reducible refine Chg.drewN ?_ _ | with_reducible refine Chg.drew ?_ | with_reducible refine Chg.alloc ?_ _ | with_reducible refine Chg.setCell ?_ _ _ (by first | (simp; done) | omega | (simp; omega)) | with_reducible refine Chg.setBlock ?_ _ _ (by first | (simp; done) | omega | (simp; omega)) | exact Chg.refl _ _)) (fun _ _ h => h)) (fun _ _ h => h)) (OwnSl.made (e := 53) (ob_alloc_new _ _ _ rfl) (lines_ok [⟨x, c.tok x⟩]) rfl (by simp)).slice (lines_ok [⟨x, c.tok x⟩]) (by simp only [List.length_map, List.length_singleton]; omega) ?_; intro v5 w5 ho hc5 hloc))
      all_goals (go_wp2_with fail)
      all_goals
        have hcc : Chg (fun j => (Value.slice Av nv capv).ownBlock = some j) wr w5 := Chg.trans (S' := fun j => (Value.slice Av nv capv).ownBlock = some j) ((Chg.of_below (S := fun j => (Value.slice Av nv capv).ownBlock = some j) hb6').trans (S' := fun _ => False) (by repeat (first | with_reducible exact Chg.refl _ _ | with_reducible exact chg0 | with_reducible refine Chg.drewN ?_ _ | with_reducible refine Chg.drew ?_ | with_reducible refine Chg.alloc ?_ _ | with_reducible refine Chg.setCell ?_ _ _ (by first | (simp; done) | omega | (simp; omega)) | with_reducible refine Chg.setBlock ?_ _ _ (by first | (simp; done) | omega | (simp; omega)) | exact Chg.refl _ _)) (fun _ _ h => h.elim)) hc5 (fun _ _ h => h)
        refine ⟨⟨k + 1, by omega, by go_num, by rw [HTk.out, List.map_append, List.map_append]; exact ho, ?_, ?_⟩, by simp [intOf]; omega⟩
        · intro j hj
          rcases hloc with h | h
          · rw [h] at hj; exact Hlo.out j hj
          · rw [h] at hj; injection hj with hj; have := hb6'.size; rw [← hj]; simp; omega
        · exact Hbr.out.trans hcc fun j hj e => (Hlo.out j e).elim id fun h => by omega
    · have htk : L.take k = L := List.take_of_length_le (by omega)
      rw [htk] at Hown
      go_wp2_with fail
      go_ret
      refine ⟨_, rfl, by rw [HA.out]; exact Hown.out, fun j hj => ?_, HBW.out⟩
      rcases Hlo.out j hj with h | h <;> omega
end
end Go.Proofs.YtchlioikkhnidaaGreat
