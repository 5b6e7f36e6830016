/-
  LinesRoom: never has a set more lines than ways; blocks of other sets play no part. No condition.
-/
import Derived.Test.YtocnhmakgbdbfaaLnL
import Derived.Test.YtocnhmakgbdbfaaLnP2
import Derived.Test.YtocnhmakgbdbfaaJ4
import Derived.Deep.LoopGhost
import Derived.Deep.CutBlock
import Derived.Deep.RegionHeld3
import Derived.Deep.QuietTactic
namespace Go.Proofs.Ytocnhmakgbdbfaa
open Go.RowKit Go.Sort Go.ChangeShapes Go.WideShapes Go.ChangeAt
open Go.ChangeMaps (setBlock)
set_option linter.unusedVariables false
set_option linter.unusedSimpArgs false

/-- Two of the program's lines, apart, where the world began. -/
structure Pq (w0 w : World) (p : Nat) (s : Lines) (F : Nat → Prop) (q : Nat) (t : Lines) (G : Nat → Prop) : Prop where
  one : At0 w0 w p s F
  two : LinesAt w q t G
  low : ∀ j, G j → w0.heap.size ≤ j
  apart : ∀ j, F j → G j → False
theorem Pq.toOne {w0 w w' : World} {p q : Nat} {s s' t : Lines} {F F' G : Nat → Prop} (h : Pq w0 w p s F q t G) (h1 : LinesAt w' p s' F') (mv : Moves w w' F F') : Pq w0 w' p s' F' q t G :=
  ⟨h.one.moves h1 mv, h.two.chg mv.chg fun j hj hf => h.apart j hf hj, h.low, fun j hf hg => by
    rcases mv.fresh j hf with h2 | h2
    · exact h.apart j h2 hg
    · have := h.two.lt hg; omega⟩
theorem Pq.toTwo {w0 w w' : World} {p q : Nat} {s t t' : Lines} {F G G' : Nat → Prop} (h : Pq w0 w p s F q t G) (h1 : LinesAt w' q t' G') (mv : Moves w w' G G') : Pq w0 w' p s F q t' G' :=
  ⟨⟨h.one.here.chg mv.chg fun j hj hg => h.apart j hj hg, h.one.low, mv.below h.one.below h.low⟩, h1, mv.low h.low h.one.below.size, fun j hf hg => by
    rcases mv.fresh j hg with h2 | h2
    · exact h.apart j hf h2
    · have := h.one.here.lt hf; omega⟩
theorem Pq.same {w0 w w' : World} {p q : Nat} {s t : Lines} {F G : Nat → Prop} (h : Pq w0 w p s F q t G) (h1 : Below w.heap.size w w') : Pq w0 w' p s F q t G :=
  ⟨h.one.same h1, h.two.below h1, h.low, h.apart⟩

theorem add_sets (s : Lines) (b : Int) : (s.add b).sets = s.sets ∧ (s.add b).ways = s.ways := by
  unfold Lines.add
  split <;> exact ⟨rfl, rfl⟩

set_option maxHeartbeats 4000000 in
set_option maxRecDepth 20000 in
theorem linesRoom_walk (sizes : Pair) (hs : sizes.ok) (l : List Act08) (v : Value) (w : World) (hsl : SliceIs w 2 v (l.map Act08.cells)) (hok : ∀ d ∈ l, d.ok) (other : Int) (ho : i64ok other) :
    Calls Try.prog 4 #[sizes.val, v, .int .i64 other] w fun e w' => e = .returned (.bool true) ∧ Below w.heap.size w w' := by
  have hmm := @run_makeMap Try.prog
  obtain ⟨A, cap, rfl, h1, h2, h3⟩ := hsl
  simp only [List.length_map] at h1 h2 h3 ⊢
  have H3 := Lib.hid h3
  clear h3 hok ho hs
  obtain ⟨s0, s1⟩ := sizes
  simp only [Pair.val, Pair.cells]
  obtain ⟨z, hz⟩ : ∃ z, z = clampI s0 1 64 := ⟨_, rfl⟩
  obtain ⟨y, hy⟩ : ∃ y, y = clampI s1 1 16 := ⟨_, rfl⟩
  have z1 := (clampI_in s0 1 64 (by decide)).1
  have z2 := (clampI_in s0 1 64 (by decide)).2
  have y1 := (clampI_in s1 1 16 (by decide)).1
  have y2 := (clampI_in s1 1 16 (by decide)).2
  rw [← hz] at z1 z2
  rw [← hy] at y1 y2
  have HZ := Lib.hid hz
  have HY := Lib.hid hy
  clear hz hy
  go_enter Try.func4, Try.ntmps4
  go_wp2_with fail
  refine (lnAwake_calls _).mono ?_
  rintro e w1 ⟨rfl, hb1'⟩
  have hb1 : Below w.heap.size w w1 := below_trans (Chg.below (by repeat (first | with_reducible exact Chg.refl _ _ | with_reducible exact chg0 | with_reducible refine Chg.drewN ?_ _ | with_reducible refine Chg.drew ?_ | with_reducible refine Chg.alloc ?_ _ | with_reducible refine Chg.setCell ?_ _ _ (by first | (simp; done) | omega | (simp; omega)) | with_reducible refine Chg.setBlock ?_ _ _ (by first | (simp; done) | omega | (simp; omega)) | exact Chg.refl _ _))) hb1'
  have sz1 := hb1'.size
  simp [go_sem] at sz1
  have siz0 : w1.cell? ⟨w.heap.size, 0, none⟩ = some (.int .i64 s0) := by rw [hb1'.cell (by simp <;> omega)]; simp [go_sem]
  have siz1 : w1.cell? ⟨w.heap.size, 1, none⟩ = some (.int .i64 s1) := by rw [hb1'.cell (by simp <;> omega)]; simp [go_sem]
  clear hb1'
  by_cases h200 : (200 : Int) < (l.length : Int)
  · have h200' : decide ((200 : Int) < (l.length : Int)) = true := by simpa using h200
    go_wp2_with fail
    refine (lnAwake_calls _).mono ?_
    rintro e w2 ⟨rfl, hb2⟩
    go_wp2_with fail
    go_ret
    exact ⟨rfl, below_trans hb1 hb2⟩
  have h200' : decide ((200 : Int) < (l.length : Int)) = false := by simpa using h200
  go_wp2_with fail
  go_quiet ((go_at_call 13; exact Calls.quiet_of_same ((RefClamp_calls _ _ _ _ (by decide)).mono fun _ _ h => ⟨h.1, h.2.symm⟩)))
  rw [← HZ.out, ← HY.out]
  go_wp2_with fail
  have B1 := Lib.hid hb1
  refine (LinesNew_calls z y _).mono ?_
  rintro e w2 ⟨p, F1, rfl, hp, hF1, hb2⟩
  go_wp2_with fail
  refine (LinesNew_calls z y _).mono ?_
  rintro e w3 ⟨q, G1, rfl, hq, hG1, hb3⟩
  have T1 : Pq w1 w3 p (Lines.new z y) F1 q (Lines.new z y) G1 := ⟨⟨hp.below hb3, hF1, below_trans (below_trans (Chg.below (by repeat (first | with_reducible exact Chg.refl _ _ | with_reducible exact chg0 | with_reducible refine Chg.drewN ?_ _ | with_reducible refine Chg.drew ?_ | with_reducible refine Chg.alloc ?_ _ | with_reducible refine Chg.setCell ?_ _ _ (by first | (simp; done) | omega | (simp; omega)) | with_reducible refine Chg.setBlock ?_ _ _ (by first | (simp; done) | omega | (simp; omega)) | exact Chg.refl _ _))) hb2) hb3⟩, hq, fun j hj => Nat.le_trans hb2.size (hG1 j hj), fun j hf hg => by have := hp.lt hf; have := hG1 j hg; omega⟩
  have HT1 := Lib.hid T1
  clear T1 hp hF1 hb2 hq hG1 hb3 siz0 siz1 hb1
  go_wp2_with fail
  refine (RefMod_calls other z _ z1 (by omega)).mono ?_
  rintro e w4 ⟨rfl, rfl⟩
  obtain ⟨m, hm⟩ : ∃ m, m = other % z := ⟨_, rfl⟩
  have hm1 : 0 ≤ m := by rw [hm]; exact Int.emod_nonneg _ (by omega)
  have hm2 : m < z := by rw [hm]; exact Int.emod_lt_of_pos _ (by omega)
  have HR := Lib.hid (Room.new z y m)
  have hsets : (Lines.new z y).sets = z := by show clampI z 1 64 = z; unfold clampI; omega
  have hways : (Lines.new z y).ways = y := by show clampI y 1 16 = y; unfold clampI; omega
  have HS := Lib.hid hsets
  have HW := Lib.hid hways
  have HM := Lib.hid hm
  rw [← hm]
  clear hm hsets hways
  go_wp2_with fail
  go_loopg [53] l.length (fun g i wx => ∃ (wr : World) (k : Nat) (s t : Lines) (F G : Nat → Prop), wx = wr ∧ k ≤ l.length ∧ g = l.length - k ∧ i = .int .i64 k ∧ Pq w1 wr p s F q t G ∧ Room s t m ∧ s.sets = z ∧ s.ways = y)
  case atStart => exact ⟨_, 0, _, _, F1, G1, rfl, Nat.zero_le _, rfl, rfl, HT1.out, HR.out, HS.out, HW.out⟩
  case round =>
    obtain ⟨wr, k, s, t, F, G, rfl, hk, rfl, rfl, hT, hR, hsz, hsy⟩ := hrel
    clear HS HW HR HT1
    have HT := Lib.hid hT
    have HR := Lib.hid hR
    have HS := Lib.hid hsz
    have HW := Lib.hid hsy
    have sr := hT.one.below.size
    have HF0 := Lib.hid (fun j (hj : F j) => hT.one.here.lt hj)
    clear hT hR hsz hsy
    by_cases hlt : k < l.length
    · obtain ⟨q0, off, rfl, hrows⟩ := H3.out (by omega)
      have hrow := act08At hrows (below_trans B1.out HT.out.one.below) hlt
      obtain ⟨⟨kd, b⟩, hd⟩ : ∃ d, d = l[k] := ⟨_, rfl⟩
      rw [← hd] at hrow
      obtain ⟨c0, c1⟩ := Act08.range hrow
      clear hd hrow hrows
      go_wp2_with fail
      refine (Add_calls b (HT.out.same (Chg.below (by repeat (first | with_reducible exact Chg.refl _ _ | with_reducible exact chg0 | with_reducible refine Chg.drewN ?_ _ | with_reducible refine Chg.drew ?_ | with_reducible refine Chg.alloc ?_ _ | with_reducible refine Chg.setCell ?_ _ _ (by first | (simp; done) | omega | (simp; omega)) | with_reducible refine Chg.setBlock ?_ _ _ (by first | (simp; done) | omega | (simp; omega)) | exact Chg.refl _ _)))).one.here).mono ?_
      rintro e w3 ⟨rfl, F3, hh3, mm3⟩
      have b3 := mm3.chg.cell (a := ⟨wr.heap.size, 1, none⟩) (v := .int .i64 b) (by simp [go_sem]) (fun hf => absurd (HF0.out _ hf) (Nat.lt_irrefl _))
      replace HT := Lib.hid ((HT.out.same (Chg.below (by repeat (first | with_reducible exact Chg.refl _ _ | with_reducible exact chg0 | with_reducible refine Chg.drewN ?_ _ | with_reducible refine Chg.drew ?_ | with_reducible refine Chg.alloc ?_ _ | with_reducible refine Chg.setCell ?_ _ _ (by first | (simp; done) | omega | (simp; omega)) | with_reducible refine Chg.setBlock ?_ _ _ (by first | (simp; done) | omega | (simp; omega)) | exact Chg.refl _ _)))).toOne hh3 mm3)
      clear hh3 mm3 c0 c1
      generalize s.can b = r1
      go_wp2_with fail
      refine (RefMod_calls b z _ z1 (by omega)).mono ?_
      rintro e w4 ⟨rfl, rfl⟩
      by_cases hbm : b % z = m
      · have hbm' : (b % z == m) = true := by simpa using hbm
        have HR2 := Lib.hid (HR.out.both (b := b) (by rw [HS.out]; exact hbm))
        clear hbm
        go_wp2_with fail
        refine (Add_calls b (HT.out.same (Chg.below (by repeat (first | with_reducible exact Chg.refl _ _ | with_reducible exact chg0 | with_reducible refine Chg.drewN ?_ _ | with_reducible refine Chg.drew ?_ | with_reducible refine Chg.alloc ?_ _ | with_reducible refine Chg.setCell ?_ _ _ (by first | (simp; done) | omega | (simp; omega)) | with_reducible refine Chg.setBlock ?_ _ _ (by first | (simp; done) | omega | (simp; omega)) | exact Chg.refl _ _)))).two).mono ?_
        rintro e w5 ⟨rfl, F5, hh5, mm5⟩
        replace HT := Lib.hid ((HT.out.same (Chg.below (by repeat (first | with_reducible exact Chg.refl _ _ | with_reducible exact chg0 | with_reducible refine Chg.drewN ?_ _ | with_reducible refine Chg.drew ?_ | with_reducible refine Chg.alloc ?_ _ | with_reducible refine Chg.setCell ?_ _ _ (by first | (simp; done) | omega | (simp; omega)) | with_reducible refine Chg.setBlock ?_ _ _ (by first | (simp; done) | omega | (simp; omega)) | exact Chg.refl _ _)))).toTwo hh5 mm5)
        generalize t.can b = r2
        go_wp2_with fail
        go_roundg (l.length - (k + 1))
        case rel => exact ⟨_, k + 1, _, _, _, _, rfl, by omega, rfl, by go_num, HT.out, HR2.out, (add_sets s b).1.trans HS.out, (add_sets s b).2.trans HW.out⟩
        case measure => omega
      · have hbm' : (b % z == m) = false := by simpa using hbm
        have HR2 := Lib.hid (HR.out.one (b := b) (by rw [HS.out]; exact hbm))
        clear hbm
        go_wp2_with fail
        go_roundg (l.length - (k + 1))
        case rel => exact ⟨_, k + 1, _, _, _, _, rfl, by omega, rfl, by go_num, HT.out.same (Chg.below (by repeat (first | with_reducible exact Chg.refl _ _ | with_reducible exact chg0 | with_reducible refine Chg.drewN ?_ _ | with_reducible refine Chg.drew ?_ | with_reducible refine Chg.alloc ?_ _ | with_reducible refine Chg.setCell ?_ _ _ (by first | (simp; done) | omega | (simp; omega)) | with_reducible refine Chg.setBlock ?_ _ _ (by first | (simp; done) | omega | (simp; omega)) | exact Chg.refl _ _))), HR2.out, (add_sets s b).1.trans HS.out, (add_sets s b).2.trans HW.out⟩
        case measure => omega
    · have cntS : ∀ q, cntOf z s.list q = (s.row q).length := fun q => by rw [← HS.out]; exact cntOf_list s q
      have CS := Lib.hid cntS
      have hl1 := Lines.few HT.out.one.here.ok
      have hl2 : s.list.length ≤ 1024 := by rw [list_len]; exact hl1
      clear cntS hl1
      go_wp2_with fail
      refine (List_calls (HT.out.same (Chg.below (by repeat (first | with_reducible exact Chg.refl _ _ | with_reducible exact chg0 | with_reducible refine Chg.drewN ?_ _ | with_reducible refine Chg.drew ?_ | with_reducible refine Chg.alloc ?_ _ | with_reducible refine Chg.setCell ?_ _ _ (by first | (simp; done) | omega | (simp; omega)) | with_reducible refine Chg.setBlock ?_ _ _ (by first | (simp; done) | omega | (simp; omega)) | exact Chg.refl _ _)))).one.here).mono ?_
      rintro e w4 ⟨u4, rfl, hu4, hul4, hb4⟩
      have bm : ob w4 wr.heap.size = some (.map #[] 0) := (Chg.of_below (S := fun _ => False) hb4).ob (by simp [go_sem]) (fun h => h)
      have hml := ob_lt bm
      obtain ⟨A4, cap4, e4⟩ := hu4.form
      rw [ints_length] at e4
      subst e4
      have hba : Below wr.heap.size wr w4 := below_trans (Chg.below (by repeat (first | with_reducible exact Chg.refl _ _ | with_reducible exact chg0 | with_reducible refine Chg.drewN ?_ _ | with_reducible refine Chg.drew ?_ | with_reducible refine Chg.alloc ?_ _ | with_reducible refine Chg.setCell ?_ _ _ (by first | (simp; done) | omega | (simp; omega)) | with_reducible refine Chg.setBlock ?_ _ _ (by first | (simp; done) | omega | (simp; omega)) | exact Chg.refl _ _))) hb4
      have HU := Lib.hid hu4
      have HT4 := Lib.hid (HT.out.same hba)
      have hu5 : ∀ j, (Value.slice A4 s.list.length cap4).ownBlock = some j → j ≠ wr.heap.size := fun j hj => by
        have := hul4 j hj
        simp [go_sem] at this
        omega
      have HUL := Lib.hid hu5
      have HN := Lib.hid (fun j (hj : F j) => Nat.ne_of_lt (HT.out.one.here.lt hj))
      have HN2 := Lib.hid (fun j (hj : G j) => Nat.ne_of_lt (HT.out.two.lt hj))
      have key : ∀ w5, Chg (fun j => j = wr.heap.size) w4 w5 → OwnSl w5 3 1 (.slice A4 s.list.length cap4) (ints s.list) ∧ Pq w1 w5 p s F q t G := fun w5 hc =>
        ⟨HU.out.chg hc (fun j hj => HUL.out j hj), ⟨HT4.out.one.here.chg hc fun j hj => HN.out j hj, HT4.out.one.low, below_chg HT4.out.one.below hc fun j hj e => by omega⟩, HT4.out.two.chg hc fun j hj => HN2.out j hj, HT4.out.low, HT4.out.apart⟩
      have KEY := Lib.hid key
      clear hu4 hul4 hb4 hu5 hba HT key HU HUL HN HN2 HT4
      obtain ⟨mb, hmb⟩ : ∃ mb, mb = wr.heap.size := ⟨_, rfl⟩
      rw [← hmb] at bm hml KEY ⊢
      clear hmb
      go_wp2_with fail
      go_loopg [76] s.list.length (fun g i wx => ∃ (wr2 : World) (k2 : Nat) (o : Obj) (f : Int → Option Value), wx = wr2 ∧ k2 ≤ s.list.length ∧ g = s.list.length - k2 ∧ i = .int .i64 k2 ∧ ob wr2 mb = some o ∧ MapObj o f ∧ IntMap (fun q => ((cntOf z (s.list.take k2) q : Nat) : Int)) f ∧ Chg (fun j => j = mb) w4 wr2)
      case atStart => exact ⟨_, 0, _, _, rfl, Nat.zero_le _, rfl, rfl, bm, MapObj.empty 0, IntMap.empty, Chg.refl _ _⟩
      case round =>
        obtain ⟨w5, k2, o, f, rfl, hk2, rfl, rfl, hob, hmo, him, hch⟩ := hrel
        have HO := Lib.hid hob
        have HM2 := Lib.hid hmo
        have HI := Lib.hid him
        have HC := Lib.hid hch
        have sz2 := hch.size
        clear him hch bm
        by_cases hlt2 : k2 < s.list.length
        · obtain ⟨A', cap', e', t1, t2, t3⟩ := sliceInts (KEY.out _ HC.out).1.slice
          cases e'
          obtain ⟨bb, off, rfl, hc⟩ := t3 (by omega)
          have hc2 := hc k2 hlt2
          obtain ⟨x, hx⟩ : ∃ x, x = s.list.getD k2 0 := ⟨_, rfl⟩
          rw [← hx] at hc2
          have htake : s.list.take (k2 + 1) = s.list.take k2 ++ [x] := by rw [hx, List.take_add_one, List.getD_eq_getElem?_getD, List.getElem?_eq_getElem hlt2]; rfl
          have HTk := Lib.hid htake
          have hcl := cntOf_le z (s.list.take k2) (x % z)
          rw [List.length_take] at hcl
          obtain ⟨cn, hcn⟩ : ∃ cn, cn = cntOf z (s.list.take k2) (x % z) := ⟨_, rfl⟩
          rw [← hcn] at hcl
          have HCN := Lib.hid hcn
          have hlk : ∀ W : World, ob W mb = some o → (Instr.lookup 37 (.map (some mb)) (.int .i64 (x % z)) false).run Try.prog W = .ok (.int .i64 cn) W := fun W hW => by
            rw [hmo.lookup tyII (x % z) _ W hW, HI.out, hcn]
          have e1 : IntKind.i64.wrap ((cn : Int) + 1) = (cn : Int) + 1 := by rw [IntKind.wrap_i64]; omega
          obtain ⟨o2, hom2, hmu⟩ := hmo.update tyII (x % z) (.int .i64 ((cn : Int) + 1)) mb
          have Hom2 := Lib.hid hom2
          clear hc hx htake hcn hmo hom2 t1 t2 t3
          go_wp2_with fail
          refine (RefMod_calls x z _ z1 (by omega)).mono ?_
          rintro e w6 ⟨rfl, rfl⟩
          go_wp2_with fail
          have lm1 : mb < wr.heap.size := by omega
          go_roundg (s.list.length - (k2 + 1))
          case rel =>
            refine ⟨_, k2 + 1, o2, _, rfl, by omega, rfl, by go_num, ?_, Hom2.out, ?_, ?_⟩
            · simp [go_sem, *]
            · have h1 := HI.out.upd (x % z) ((cn : Int) + 1)
              intro q
              rw [h1 q, HTk.out]
              simp only [cntOf_snoc]
              by_cases hq : q = x % z
              · subst hq
                rw [if_pos rfl, if_pos rfl, HCN.out]
                rfl
              · rw [if_neg hq, if_neg hq]
            · exact HC.out.trans (S' := fun j => j = mb) (by repeat (first | exact Chg.refl _ _ | refine Chg.drewN ?_ _ | refine Chg.alloc ?_ _ | refine Chg.setCell ?_ _ _ (by simp) | refine Chg.setBlock ?_ _ _ (fun _ => rfl))) (fun _ _ h => h)
          case measure => omega
        · have hk3 : k2 = s.list.length := by omega
          subst hk3
          have HI2 : ∀ q, (f q).getD (.int .i64 0) = .int .i64 ((cntOf z s.list q : Nat) : Int) := fun q => by rw [HI.out q, List.take_length]
          obtain ⟨Z, rfl⟩ : ∃ Z : Nat, z = (Z : Int) := ⟨z.toNat, by omega⟩
          have hlk : ∀ (q : Int) (W : World), ob W mb = some o → (Instr.lookup 37 (.map (some mb)) (.int .i64 q) false).run Try.prog W = .ok (.int .i64 (s.row q).length) W := fun q W hW => by
            rw [hmo.lookup tyII q _ W hW, HI2, CS.out]
          have HP := Lib.hid (KEY.out _ HC.out).2
          clear HI HI2
          go_wp2_with fail
          go_loopg [88] Z (fun g i wx => ∃ k3 : Nat, k3 ≤ Z ∧ g = Z - k3 ∧ i = .int .i64 k3 ∧ Chg (fun _ => False) wr wx)
          case atStart => exact ⟨0, Nat.zero_le _, rfl, rfl, Chg.refl _ _⟩
          case round =>
            obtain ⟨k3, hk3, rfl, rfl, hch⟩ := hrel
            have hob3 := hch.ob hob (fun h => h)
            have HC3 := Lib.hid hch
            have sz3 := hch.size
            by_cases hlt3 : k3 < Z
            · have hr := HP.out.one.here.ok.room k3
              rw [HW.out] at hr
              have hr2 : decide (y < ((s.row (k3 : Int)).length : Int)) = false := by simpa using hr
              go_wp2_with fail
              go_roundg (Z - (k3 + 1))
              case rel => exact ⟨k3 + 1, by omega, rfl, by go_num, HC3.out.trans (S' := fun _ => False) (by repeat (first | with_reducible exact Chg.refl _ _ | with_reducible exact chg0 | with_reducible refine Chg.drewN ?_ _ | with_reducible refine Chg.drew ?_ | with_reducible refine Chg.alloc ?_ _ | with_reducible refine Chg.setCell ?_ _ _ (by first | (simp; done) | omega | (simp; omega)) | with_reducible refine Chg.setBlock ?_ _ _ (by first | (simp; done) | omega | (simp; omega)) | exact Chg.refl _ _)) (fun _ _ h => h)⟩
              case measure => omega
            · have HP3 := Lib.hid (HP.out.same HC3.out.below)
              have hv := HR.out.victim (b := other) (-1) (by rw [HS.out]; exact HM.out.symm)
              obtain ⟨x1, ex1⟩ : ∃ x, x = (s.victim other (-1)).1 := ⟨_, rfl⟩
              obtain ⟨x2, ex2⟩ : ∃ x, x = (s.victim other (-1)).2 := ⟨_, rfl⟩
              have HV := Lib.hid hv
              have E1 := Lib.hid ex1
              have E2 := Lib.hid ex2
              have hlen : t.list.length = (s.row m).length := by rw [list_len, HR.out.all]
              clear hv ex1 ex2 HP HC3 sz3 hch
              have HL := Lib.hid hlen
              clear hlen
              go_wp2_with fail
              refine (Victim_calls other (-1) (HP3.out.same (Chg.below (by repeat (first | with_reducible exact Chg.refl _ _ | with_reducible exact chg0 | with_reducible refine Chg.drewN ?_ _ | with_reducible refine Chg.drew ?_ | with_reducible refine Chg.alloc ?_ _ | with_reducible refine Chg.setCell ?_ _ _ (by first | (simp; done) | omega | (simp; omega)) | with_reducible refine Chg.setBlock ?_ _ _ (by first | (simp; done) | omega | (simp; omega)) | exact Chg.refl _ _)))).one.here).mono ?_
              rintro e w6 ⟨rfl, n6, rfl⟩
              rw [← E1.out, ← E2.out]
              go_wp2_with fail
              refine (Victim_calls other (-1) (HP3.out.same (Chg.below (by repeat (first | with_reducible exact Chg.refl _ _ | with_reducible exact chg0 | with_reducible refine Chg.drewN ?_ _ | with_reducible refine Chg.drew ?_ | with_reducible refine Chg.alloc ?_ _ | with_reducible refine Chg.setCell ?_ _ _ (by first | (simp; done) | omega | (simp; omega)) | with_reducible refine Chg.setBlock ?_ _ _ (by first | (simp; done) | omega | (simp; omega)) | exact Chg.refl _ _)))).two).mono ?_
              rintro e w6 ⟨rfl, n6, rfl⟩
              rw [HV.out, ← E1.out, ← E2.out]
              have b1 : (x1 == x1) = true := by simp
              have b2 : (x2 == x2) = true := by simp
              go_wp2_with fail
              have hob4 : ∀ n, ob ((wr.drewN n).drew) mb = some o := fun n => hob3
              go_region_held3 (fun W => ob W mb = some o) (first | exact hob4 _ | exact ob6 | go_keep) (first
                | (go_at_call 20; refine (List_calls (HP3.out.same (Chg.below (by repeat (first | with_reducible exact Chg.refl _ _ | with_reducible exact chg0 | with_reducible refine Chg.drewN ?_ _ | with_reducible refine Chg.drew ?_ | with_reducible refine Chg.alloc ?_ _ | with_reducible refine Chg.setCell ?_ _ _ (by first | (simp; done) | omega | (simp; omega)) | with_reducible refine Chg.setBlock ?_ _ _ (by first | (simp; done) | omega | (simp; omega)) | exact Chg.refl _ _)))).two).mono ?_; rintro e w6 ⟨u6, rfl, hu6, _, hb6⟩; obtain ⟨A6, cap6, e6⟩ := hu6.form; rw [ints_length, HL.out] at e6; subst e6; have ob6 : ob w6 mb = some o := (Chg.of_below (S := fun _ => False) hb6).ob (by first | exact hob3 | go_keep | assumption) (fun h => h); replace HP3 := Lib.hid ((HP3.out.same (Chg.below (by repeat (first | with_reducible exact Chg.refl _ _ | with_reducible exact chg0 | with_reducible refine Chg.drewN ?_ _ | with_reducible refine Chg.drew ?_ | with_reducible refine Chg.alloc ?_ _ | with_reducible refine Chg.setCell ?_ _ _ (by first | (simp; done) | omega | (simp; omega)) | with_reducible refine Chg.setBlock ?_ _ _ (by first | (simp; done) | omega | (simp; omega)) | exact Chg.refl _ _)))).same hb6)))
              all_goals (go_wp2_with fail)
              all_goals go_ret
              all_goals exact ⟨by simp, below_trans B1.out HP3.out.one.below⟩
set_option maxRecDepth 100000 in
theorem linesRoom_lifted (os : Os) (started : os.Started) (H : Type) (enc : TypeId × Value → H) :
    ReturnsInHanded {} Try.checked os 4 .any (Rows.linesRoomSpec.pre6 enc Try.prog Try.f4 Rows.linesRoomRow.domain false) (Rows.linesRoomSpec.post enc Try.prog Try.f4 false true false false) := by
  refine returnsInHanded_of_change (C := Try.checked) law_own started (by kernel_rfl) Try.func4
    (ChangeSpec.witness6 (enc := enc) (C := Try.checked) false ⟨#[], #[.agg #[.int .i64 0, .int .i64 0], .slice none 0 0, .int .i64 0], []⟩ 8 (by kernel_rfl) (by kernel_rfl) (by kernel_rfl) (by kernel_rfl)) ?_
  intro W base args ds gs before hval0 hW hcnd _
  have hval : ∀ (j : Nat) t v, Try.f4.params[j]? = some t → args[j]? = some v → Value.okWide Try.prog W .any base t v := hval0
  have hW' := hW
  obtain ⟨p, q, hA0, hV, rfl, hfz, hnd⟩ := hW
  have hA : DataW.TrodAll enc Try.prog W 0 (fun _ => true) true Try.f4.params.toList args.toList ds p := hA0
  rw [Try.params4] at hA hval
  obtain ⟨v0, vs0, d0, ds0, p0, q0, hargs, rfl, rfl, h0, r0⟩ := trodAll_cons hA
  obtain ⟨v1, vs1, d1, ds1, p1, q1, rfl, rfl, rfl, h1, r1⟩ := trodAll_cons r0
  obtain ⟨v2, vs2, d2, ds2, p2, q2, rfl, rfl, rfl, h2, r2⟩ := trodAll_cons r1
  obtain ⟨rfl, rfl, rfl⟩ := trodAll_nil r2
  obtain rfl : args = #[v0, v1, v2] := by cases args; simp_all
  obtain ⟨rfl, rfl⟩ := trodVars_none hV
  have k0 := h0
  have lt0 : ∀ x ∈ p0, x.block < W.heap.size := by obtain ⟨m, hm⟩ := k0; exact DataW.trod_lt m _ _ _ hm
  obtain ⟨f0, g0⟩ := h0
  obtain ⟨cs0, rfl, _⟩ := okWide_array Try.underlying22 (hval 0 22 v0 rfl rfl)
  obtain ⟨x0, e0, o0⟩ := Pair.of_trod g0
  obtain rfl : cs0 = x0.cells.toArray := by simp only [Value.cells] at e0; rw [← e0]
  have k1 := h1
  have lt1 : ∀ x ∈ p1, x.block < W.heap.size := by obtain ⟨m, hm⟩ := k1; exact DataW.trod_lt m _ _ _ hm
  obtain ⟨f1, g1⟩ := h1
  obtain ⟨l1, s1, o1⟩ := slice_of_trod (sz := 2) (cells := Act08.cells) (ok := Act08.ok) Try.underlying34 (by kernel_rfl) (by decide) (fun _ => rfl) Act08.of_trod g1 (okWide_slice Try.underlying34 (hval 1 34 v1 rfl rfl))
  have k2 := h2
  have lt2 : ∀ x ∈ p2, x.block < W.heap.size := by obtain ⟨m, hm⟩ := k2; exact DataW.trod_lt m _ _ _ hm
  obtain ⟨f2, g2⟩ := h2
  obtain ⟨x2, e2, o2⟩ := int_of_trod g2
  obtain rfl := one_value (hval 2 3 v2 rfl rfl) Try.underlying3 e2
  clear hA0 hval0
  refine (linesRoom_walk x0 o0 l1 v1 W s1 o1 x2 o2).mono fun e W' ⟨he, bel⟩ => ?_
  subst he
  exact ⟨_, rfl, _, _, _, [], _, [], hW', trodAll_mk1 (shut_bool Try.underlying4 _), (trodAll_cons_mk (Below.trod law_laidOut (by kernel_rfl) (of_decide_eq_true (by kernel_rfl)) k0 bel lt0) (trodAll_cons_mk (Below.trod law_laidOut (by kernel_rfl) (of_decide_eq_true (by kernel_rfl)) k1 bel lt1) (trodAll_cons_mk (Below.trod law_laidOut (by kernel_rfl) (of_decide_eq_true (by kernel_rfl)) k2 bel lt2) trodAll_mk0))), rfl, bel.frame _, fun h => by cases h⟩

theorem linesRoom_holds : Rows.LinesRoomSaid :=
  OpenClaim.holds_of_wide 4 Try.f4 rfl rfl rfl rfl rfl rfl rfl ⟨rfl, rfl, rfl, rfl, rfl⟩ rfl rfl rfl rfl rfl (by kernel_rfl) Try.func4 (by kernel_rfl)
    (of_decide_eq_true (by kernel_rfl)) (by unfold Func.isWrapper; first | (rw [if_pos (by decide +kernel)]; kernel_rfl) | (rw [if_neg (by decide +kernel)]; exact ⟨rfl, rfl⟩))
    (fun os started H enc _ => linesRoom_lifted os started H enc)
end Go.Proofs.Ytocnhmakgbdbfaa
