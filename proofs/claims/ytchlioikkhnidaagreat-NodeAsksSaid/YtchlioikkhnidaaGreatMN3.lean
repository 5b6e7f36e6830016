/-
  Bits, timers and processors: what the program's calls come to.
-/
import Derived.Test.YtchlioikkhnidaaGreatMA
import Derived.Test.YtchlioikkhnidaaGreatMF
import Derived.Test.YtchlioikkhnidaaGreatMD
import Derived.Laws.BitsLemmas
import Derived.Laws.Bits64
import Derived.StillTailTactics
import Derived.BigRegion
import Derived.Outline
import Derived.BigQuiet
import Derived.Deep.LoopGhost
import Derived.Deep.CutBlock
import Derived.Test.YtchlioikkhnidaaGreatMC
import Derived.Deep.RegionHeld3
set_option linter.unusedVariables false
set_option linter.unusedSimpArgs false
namespace Go.Proofs.YtchlioikkhnidaaGreat
open Go.RowKit Go.Sort Go.ChangeShapes Go.WideShapes Go.ChangeAt
open Go.ChangeMaps (setBlock)
set_option linter.unusedVariables false
set_option linter.unusedSimpArgs false

theorem wraps_u64_64 (n : Int) (h₀ : 0 ≤ n) (h₁ : n < 2 ^ 64) : IntKind.u64.wrap n = n := by rw [IntKind.wrap_u64]; omega
theorem and1_u64 (a : Int) (h0 : 0 ≤ a) (h1 : a < 18446744073709551616) : bits .and .u64 a 1 = a % 2 := by
  obtain ⟨n, rfl⟩ := Int.eq_ofNat_of_zero_le h0
  have h := (bits_nat .u64 64 (by decide) wraps_u64_64 n 1 (by omega) (by decide)).1
  have e : n &&& 1 = n % 2 := by
    exact Nat.and_two_pow_sub_one_eq_mod n 1
  rw [e] at h
  have h' : bits .and .u64 (n : Int) 1 = ((n % 2 : Nat) : Int) := by simpa using h
  rw [h']
  omega
theorem Bit_calls (n k : Int) (w : World) (h0 : 0 ≤ k) (h1 : k < 64) : Calls Tryz.prog 126 #[.int .i64 n, .int .i64 k] w fun e w' => e = .returned (.bool (bitI n k)) ∧ w = w' := by
  go_enter Tryz.func126, Tryz.ntmps126
  go_wp2_with fail
  go_ret
  refine ⟨retb ?_, rfl⟩
  have hw : IntKind.u64.wrap n = n % 18446744073709551616 := IntKind.wrap_u64 n
  have hp : 0 < (2 : Int) ^ k.toNat := Int.pow_pos (by decide)
  have hw0 : 0 ≤ n % 18446744073709551616 := by omega
  have hw1 : n % 18446744073709551616 < 18446744073709551616 := by omega
  have hd0 : 0 ≤ n % 18446744073709551616 / 2 ^ k.toNat := Int.ediv_nonneg hw0 (Int.le_of_lt hp)
  have hd1 : n % 18446744073709551616 / 2 ^ k.toNat < 18446744073709551616 := Int.lt_of_le_of_lt (Int.ediv_le_self _ hw0) hw1
  show (bits .and .u64 (IntKind.u64.wrap n / 2 ^ k.toNat) 1 == 1) = bitI n k
  rw [hw, and1_u64 _ hd0 hd1]
  unfold bitI
  exact beq_int _ _

/-! ### Timers -/
theorem pow2_le {k m : Nat} (h : k ≤ m) : (2 : Int) ^ k ≤ 2 ^ m := by
  have := Nat.pow_le_pow_right (n := 2) (by decide) h
  exact_mod_cast this
/-- Doubled, so few times that no end is met. -/
theorem Double_calls (n times : Int) (w : World) (h0 : 1 ≤ n) (h1 : n ≤ 64) (h2 : 0 ≤ times) (h3 : times ≤ 9) :
    Calls Tryz.prog 137 #[.int .i64 n, .int .i64 times, .int .i64 1048576] w fun e w' => e = .returned (.int .i64 (n * 2 ^ times.toNat)) ∧ w = w' := by
  obtain ⟨t, rfl⟩ := Int.eq_ofNat_of_zero_le h2
  have ht : t ≤ 9 := by omega
  rw [Int.toNat_natCast]
  have hm1 : min (t : Int) 64 = (t : Int) := by omega
  have hm2 : max (1048576 : Int) 0 = 1048576 := by decide
  have hm3 : max n 0 = n := by omega
  have hpow : ∀ k : Nat, k ≤ 9 → 1 ≤ n * 2 ^ k ∧ n * 2 ^ k ≤ 32768 := fun k hk => by
    have h5 : (2 : Int) ^ k ≤ 2 ^ 9 := pow2_le hk
    have h6 : (0 : Int) < 2 ^ k := Int.pow_pos (by decide)
    have h7 : n * 2 ^ k ≤ 64 * 2 ^ 9 := Int.mul_le_mul h1 h5 (by omega) (by decide)
    have h8 : 1 * (1 : Int) ≤ n * 2 ^ k := Int.mul_le_mul h0 (by omega) (by decide) (by omega)
    omega
  have HP := Lib.hid hpow
  clear hpow
  go_enter Tryz.func137, Tryz.ntmps137
  go_wp2_with fail
  go_loop [0, 14] (fun v i => ∃ k : Nat, k ≤ t ∧ i = .int .i64 k ∧ v = .int .i64 (n * 2 ^ k)) (fun _ i => t - (intOf i).toNat)
  case atStart => exact ⟨0, Nat.zero_le _, rfl, by simp⟩
  case round =>
    obtain ⟨k, hk, rfl, rfl⟩ := hrel
    have hp1 := HP.out k (by omega)
    have hnext : n * 2 ^ (k + 1) = n * 2 ^ k + n * 2 ^ k := by rw [Int.pow_succ, ← Int.mul_assoc]; omega
    have HN := Lib.hid hnext
    clear hnext
    by_cases hlt : k < t
    · obtain ⟨v, hv⟩ : ∃ v, v = n * 2 ^ k := ⟨_, rfl⟩
      rw [← hv] at hp1 HN ⊢
      clear hv
      go_wp2_with fail
      go_round
      case rel => exact ⟨k + 1, by omega, by go_num, by rw [HN.out]⟩
      case measure => simp [intOf]; omega
    · obtain rfl : k = t := by omega
      have hmm : min (n * 2 ^ k) 1048576 = n * 2 ^ k := by omega
      go_wp2_with fail
      go_ret
      exact ⟨rfl, rfl⟩

theorem Start_calls (wait : Int) (w : World) : Calls Tryz.prog 77 #[.int .i64 wait] w (Pure w (.agg #[.int .i64 (Timer.start wait).left, .int .i64 0, .bool false])) := by
  go_enter Tryz.func77, Tryz.ntmps77
  go_wp2_with fail
  (try simp only [Exit.inBlock, Exit.then])
  refine bodyRet1 _ rfl rfl (ResIs.row Tryz.underlying148 rfl (by kernel_rfl) rfl (by simp [go_sem]; exact ⟨rfl, rfl, rfl⟩)) ?_
  exact pure_of (by simp [Timer.start]) (by repeat (first | with_reducible exact Chg.refl _ _ | with_reducible exact chg0 | with_reducible refine Chg.drewN ?_ _ | with_reducible refine Chg.drew ?_ | with_reducible refine Chg.alloc ?_ _ | with_reducible refine Chg.setCell ?_ _ _ (by first | (simp; done) | omega | (simp; omega)) | with_reducible refine Chg.setBlock ?_ _ _ (by first | (simp; done) | omega | (simp; omega)) | exact Chg.refl _ _))

def Timer.val (t : Timer) : Value := .agg #[.int .i64 t.left, .int .i64 t.tries, .bool t.over]
theorem Timer.tick_ok {t : Timer} {wait tries : Int} (h : t.Ok tries) (w1 : 1 ≤ wait) (w2 : wait ≤ 64) (t1 : tries ≤ 8) : (t.tick wait tries).1.Ok tries := by
  unfold Timer.tick
  split
  · exact h
  split
  · exact ⟨h.t0, h.t1, by have := h.l0; simp only; omega, by have := h.l1; simp only; omega⟩
  split
  · rename_i h3
    have h0 := h.t0
    have h5 : (2 : Int) ^ (t.tries + 1).toNat ≤ 2 ^ 9 := pow2_le (by omega)
    have h6 : (0 : Int) < 2 ^ (t.tries + 1).toNat := Int.pow_pos (by decide)
    have h7 : wait * 2 ^ (t.tries + 1).toNat ≤ 64 * 2 ^ 9 := Int.mul_le_mul w2 h5 (by omega) (by decide)
    have h8 : 0 ≤ wait * 2 ^ (t.tries + 1).toNat := Int.mul_nonneg (by omega) (by omega)
    exact ⟨by simp only; omega, by simp only; omega, h8, by simp only; omega⟩
  · exact ⟨h.t0, h.t1, by simp only; omega, by simp only; omega⟩

set_option maxHeartbeats 4000000 in
theorem TTick_calls (t : Timer) (wait tries : Int) (w : World) (h : t.Ok tries) (w1 : 1 ≤ wait) (w2 : wait ≤ 64) (t1 : tries ≤ 8) :
    Calls Tryz.prog 101 #[t.val, .int .i64 wait, .int .i64 tries] w (Pure w (.tuple #[(t.tick wait tries).1.val, .int .i64 (t.tick wait tries).2])) := by
  have l0 := h.l0
  have l1 := h.l1
  have r0 := h.t0
  have r1 := h.t1
  clear h
  obtain ⟨tl, tt, tv⟩ := t
  simp only at l0 l1 r0 r1
  have htk : Timer.tick ⟨tl, tt, tv⟩ wait tries = if tv = true then (⟨tl, tt, tv⟩, 0) else if 1 < tl then (⟨tl - 1, tt, tv⟩, 0) else if tt < tries then (⟨wait * 2 ^ (tt + 1).toNat, tt + 1, false⟩, 1) else (⟨0, tt, true⟩, 2) := rfl
  rw [htk]
  have HD := Lib.hid (fun (h : tt < tries) (W : World) => Double_calls wait (tt + 1) W w1 w2 (by omega) (by omega))
  have hpos : tt < tries → 1 ≤ wait * 2 ^ (tt + 1).toNat := fun h => by
    have h6 : (0 : Int) < 2 ^ (tt + 1).toNat := Int.pow_pos (by decide)
    have h8 : 1 * (1 : Int) ≤ wait * 2 ^ (tt + 1).toNat := Int.mul_le_mul w1 (by omega) (by decide) (by omega)
    omega
  have HPOS := Lib.hid hpos
  clear htk hpos
  simp only [Timer.val]
  cases tv
  · by_cases q1 : 1 < tl
    · have q1' : decide (1 < tl) = true := by simpa using q1
      rw [if_neg (by decide), if_pos q1]
      go_enter Tryz.func101, Tryz.ntmps101
      go_wp2_with fail
      (try simp only [Exit.inBlock, Exit.then])
      refine bodyRet2 _ _ rfl rfl (ResIs.row Tryz.underlying148 rfl (by kernel_rfl) rfl (by simp [go_sem]; exact ⟨rfl, rfl, rfl⟩)) ResIs.tmp ?_
      exact pure_of rfl (by repeat (first | with_reducible exact Chg.refl _ _ | with_reducible exact chg0 | with_reducible refine Chg.drewN ?_ _ | with_reducible refine Chg.drew ?_ | with_reducible refine Chg.alloc ?_ _ | with_reducible refine Chg.setCell ?_ _ _ (by first | (simp; done) | omega | (simp; omega)) | with_reducible refine Chg.setBlock ?_ _ _ (by first | (simp; done) | omega | (simp; omega)) | exact Chg.refl _ _))
    · have q1' : decide (1 < tl) = false := by simpa using q1
      by_cases q2 : tt < tries
      · have q2' : decide (tt < tries) = true := by simpa using q2
        rw [if_neg (by decide), if_neg q1, if_pos q2]
        have hp := HPOS.out q2
        obtain ⟨v, hv⟩ : ∃ v, v = wait * 2 ^ (tt + 1).toNat := ⟨_, rfl⟩
        have hD := HD.out q2
        rw [← hv] at hD hp ⊢
        have HDD := Lib.hid hD
        have hmax : max v 1 = v := by omega
        clear hv hD
        go_enter Tryz.func101, Tryz.ntmps101
        go_wp2_with (go_at_call 137; refine (HDD.out _).mono ?_; rintro e w' ⟨rfl, rfl⟩)
        (try simp only [Exit.inBlock, Exit.then])
        refine bodyRet2 _ _ rfl rfl (ResIs.row Tryz.underlying148 rfl (by kernel_rfl) rfl (by simp [go_sem]; exact ⟨rfl, rfl, rfl⟩)) ResIs.tmp ?_
        exact pure_of rfl (by repeat (first | with_reducible exact Chg.refl _ _ | with_reducible exact chg0 | with_reducible refine Chg.drewN ?_ _ | with_reducible refine Chg.drew ?_ | with_reducible refine Chg.alloc ?_ _ | with_reducible refine Chg.setCell ?_ _ _ (by first | (simp; done) | omega | (simp; omega)) | with_reducible refine Chg.setBlock ?_ _ _ (by first | (simp; done) | omega | (simp; omega)) | exact Chg.refl _ _))
      · have q2' : decide (tt < tries) = false := by simpa using q2
        rw [if_neg (by decide), if_neg q1, if_neg q2]
        go_enter Tryz.func101, Tryz.ntmps101
        go_wp2_with fail
        (try simp only [Exit.inBlock, Exit.then])
        refine bodyRet2 _ _ rfl rfl (ResIs.row Tryz.underlying148 rfl (by kernel_rfl) rfl (by simp [go_sem]; exact ⟨rfl, rfl, rfl⟩)) ResIs.tmp ?_
        exact pure_of rfl (by repeat (first | with_reducible exact Chg.refl _ _ | with_reducible exact chg0 | with_reducible refine Chg.drewN ?_ _ | with_reducible refine Chg.drew ?_ | with_reducible refine Chg.alloc ?_ _ | with_reducible refine Chg.setCell ?_ _ _ (by first | (simp; done) | omega | (simp; omega)) | with_reducible refine Chg.setBlock ?_ _ _ (by first | (simp; done) | omega | (simp; omega)) | exact Chg.refl _ _))
  · rw [if_pos rfl]
    go_enter Tryz.func101, Tryz.ntmps101
    go_wp2_with fail
    (try simp only [Exit.inBlock, Exit.then])
    refine bodyRet2 _ _ rfl rfl (ResIs.row Tryz.underlying148 rfl (by kernel_rfl) rfl (by simp [go_sem]; exact ⟨rfl, rfl, rfl⟩)) ResIs.tmp ?_
    exact pure_of rfl (by repeat (first | with_reducible exact Chg.refl _ _ | with_reducible exact chg0 | with_reducible refine Chg.drewN ?_ _ | with_reducible refine Chg.drew ?_ | with_reducible refine Chg.alloc ?_ _ | with_reducible refine Chg.setCell ?_ _ _ (by first | (simp; done) | omega | (simp; omega)) | with_reducible refine Chg.setBlock ?_ _ _ (by first | (simp; done) | omega | (simp; omega)) | exact Chg.refl _ _))
end Go.Proofs.YtchlioikkhnidaaGreat

/-
  The program's processor.
-/
namespace Go.Proofs.YtchlioikkhnidaaGreat
open Go.RowKit Go.Sort Go.ChangeShapes Go.WideShapes Go.ChangeAt
open Go.ChangeMaps (setBlock)
set_option linter.unusedVariables false
set_option linter.unusedSimpArgs false

def ProcAt (w : World) (p : Nat) (s : Proc) : Prop :=
  ob w p = some (.cells #[.int .i64 s.timer.left, .int .i64 s.timer.tries, .bool s.timer.over, .int .i64 s.wait, .int .i64 s.tries, .int .i64 s.number, .int .i64 s.op.block, .bool s.op.write, .int .i64 s.op.value, .bool s.busy] 150 (0, 0)) ∧ s.Ok
section
variable {w w' : World} {p : Nat} {s : Proc}
theorem ProcAt.chg {S : Nat → Prop} (h : ProcAt w p s) (hc : Chg S w w') (hn : ¬ S p) : ProcAt w' p s := ⟨hc.ob h.1 hn, h.2⟩
theorem ProcAt.below (h : ProcAt w p s) (hb : Below w.heap.size w w') : ProcAt w' p s := h.chg (S := fun _ => False) (Chg.of_below hb) (fun h => h)
theorem ProcAt.lt (h : ProcAt w p s) : p < w.heap.size := ob_lt h.1
theorem ob_cells10 {w : World} {b : Nat} {t : TypeId} {a0 a1 a2 a3 a4 a5 a6 a7 a8 a9 : Value} (h : ob w b = some (.cells #[a0, a1, a2, a3, a4, a5, a6, a7, a8, a9] t (0, 0))) :
    w.cell? ⟨b, 0, none⟩ = some a0 ∧ w.cell? ⟨b, 1, none⟩ = some a1 ∧ w.cell? ⟨b, 2, none⟩ = some a2 ∧ w.cell? ⟨b, 3, none⟩ = some a3 ∧ w.cell? ⟨b, 4, none⟩ = some a4 ∧ w.cell? ⟨b, 5, none⟩ = some a5 ∧ w.cell? ⟨b, 6, none⟩ = some a6 ∧ w.cell? ⟨b, 7, none⟩ = some a7 ∧ w.cell? ⟨b, 8, none⟩ = some a8 ∧ w.cell? ⟨b, 9, none⟩ = some a9 ∧ (∀ i, w.frozen? ⟨b, i, none⟩ = false) ∧ b < w.heap.size :=
  ⟨cell_ob h 0, cell_ob h 1, cell_ob h 2, cell_ob h 3, cell_ob h 4, cell_ob h 5, cell_ob h 6, cell_ob h 7, cell_ob h 8, cell_ob h 9, fun i => frozen_ob h i, ob_lt h⟩

set_option maxHeartbeats 4000000 in
theorem ProcNew_calls (wait tries : Int) (w : World) (h1 : 1 ≤ wait ∧ wait ≤ 64) (h2 : 0 ≤ tries ∧ tries ≤ 8) :
    Calls Tryz.prog 75 #[.int .i64 wait, .int .i64 tries] w fun e w' => ∃ p, e = .returned (.pointer (some ⟨p, 0, none⟩)) ∧ ProcAt w' p (Proc.new wait tries) ∧ w.heap.size ≤ p ∧ Below w.heap.size w w' := by
  have H2 := Lib.hid h2
  have H1 := Lib.hid h1
  clear h1 h2
  go_enter Tryz.func75, Tryz.ntmps75
  go_wp2_with fail
  go_ret
  refine ⟨w.heap.size, rfl, ⟨?_, ⟨?_, H1.out, H2.out, ?_⟩⟩, Nat.le_refl _, Chg.below (by repeat (first | with_reducible exact Chg.refl _ _ | with_reducible exact chg0 | with_reducible refine Chg.drewN ?_ _ | with_reducible refine Chg.drew ?_ | with_reducible refine Chg.alloc ?_ _ | with_reducible refine Chg.setCell ?_ _ _ (by first | (simp; done) | omega | (simp; omega)) | with_reducible refine Chg.setBlock ?_ _ _ (by first | (simp; done) | omega | (simp; omega)) | exact Chg.refl _ _))⟩
  · simp [go_sem, Proc.new, Op.zero]
  · exact ⟨by simp [Proc.new], by simp only [Proc.new]; exact H2.out.1, by simp [Proc.new], by simp [Proc.new]⟩
  · simp [Proc.new]
set_option maxHeartbeats 4000000 in
theorem Pending_calls (h : ProcAt w p s) : Calls Tryz.prog 34 #[.pointer (some ⟨p, 0, none⟩)] w (Pure w (.tuple #[s.op.val, .bool s.busy])) := by
  obtain ⟨c0, c1, c2, c3, c4, c5, c6, c7, c8, c9, cf, cl⟩ := ob_cells10 h.1
  clear h
  simp only [Op.val, Op.cells]
  go_enter Tryz.func34, Tryz.ntmps34
  go_wp2_with fail
  go_big_region
  all_goals
    go_wp2_with fail
    (try simp only [Exit.inBlock, Exit.then])
    refine bodyRet2 _ _ rfl rfl (ResIs.row Tryz.underlying25 rfl (by kernel_rfl) rfl (by simp [go_sem]; exact ⟨rfl, rfl, rfl⟩)) ResIs.tmp ?_
    exact pure_of rfl (by repeat (first | with_reducible exact Chg.refl _ _ | with_reducible exact chg0 | with_reducible refine Chg.drewN ?_ _ | with_reducible refine Chg.drew ?_ | with_reducible refine Chg.alloc ?_ _ | with_reducible refine Chg.setCell ?_ _ _ (by first | (simp; done) | omega | (simp; omega)) | with_reducible refine Chg.setBlock ?_ _ _ (by first | (simp; done) | omega | (simp; omega)) | exact Chg.refl _ _))
set_option maxHeartbeats 4000000 in
theorem Pinned_calls (h : ProcAt w p s) : Calls Tryz.prog 89 #[.pointer (some ⟨p, 0, none⟩)] w (Pure w (.int .i64 s.pinned)) := by
  obtain ⟨c0, c1, c2, c3, c4, c5, c6, c7, c8, c9, cf, cl⟩ := ob_cells10 h.1
  clear h
  obtain ⟨b, hb⟩ : ∃ b, b = s.busy := ⟨_, rfl⟩
  have hp : s.pinned = if b = true then s.op.block else -1 := by rw [hb]; rfl
  rw [← hb] at c9
  rw [hp]
  clear hp hb
  cases b
  all_goals
    go_enter Tryz.func89, Tryz.ntmps89
    go_wp2_with fail
    go_ret
    exact pure_of (by simp) (by repeat (first | with_reducible exact Chg.refl _ _ | with_reducible exact chg0 | with_reducible refine Chg.drewN ?_ _ | with_reducible refine Chg.drew ?_ | with_reducible refine Chg.alloc ?_ _ | with_reducible refine Chg.setCell ?_ _ _ (by first | (simp; done) | omega | (simp; omega)) | with_reducible refine Chg.setBlock ?_ _ _ (by first | (simp; done) | omega | (simp; omega)) | exact Chg.refl _ _))
set_option maxHeartbeats 4000000 in
theorem Issue_calls (op : Op) (h : ProcAt w p s) (hn : s.number < 1000000000) :
    Calls Tryz.prog 32 #[.pointer (some ⟨p, 0, none⟩), op.val] w fun e w' => e = .returned (.bool (s.issue op).2) ∧ ProcAt w' p (s.issue op).1 ∧ Chg (fun j => j = p) w w' := by
  have hok := h.2
  have num0 := hok.number.1
  have w0 := hok.wait.1
  have w1 := hok.wait.2
  have HOK := Lib.hid hok
  have H := Lib.hid h
  obtain ⟨c0, c1, c2, c3, c4, c5, c6, c7, c8, c9, cf, cl⟩ := ob_cells10 h.1
  have hob := h.1
  have his : s.issue op = if s.busy = true then (s, false) else ({ s with timer := Timer.start s.wait, number := s.number + 1, op := op, busy := true }, true) := rfl
  obtain ⟨b, hb⟩ : ∃ b, b = s.busy := ⟨_, rfl⟩
  rw [← hb] at his c9 hob
  rw [his]
  clear his h hok
  simp only [Op.val, Op.cells]
  cases b
  · rw [if_neg (by decide)]
    clear hb
    go_enter Tryz.func32, Tryz.ntmps32
    go_wp2_with fail
    refine (Start_calls s.wait _).mono ?_
    rintro e w1 ⟨rfl, hb1⟩
    have hob1 : ob w1 p = some (.cells #[.int .i64 s.timer.left, .int .i64 s.timer.tries, .bool s.timer.over, .int .i64 s.wait, .int .i64 s.tries, .int .i64 (s.number + 1), .int .i64 op.block, .bool op.write, .int .i64 op.value, .bool true] 150 (0, 0)) := (Chg.of_below (S := fun _ => False) hb1).ob (by simp [go_sem, hob, cl, setAt]) (fun h => h)
    have hch1 : Chg (fun j => j = p) w w1 := Chg.trans (S' := fun _ => False) (by repeat (first | with_reducible exact Chg.refl _ _ | with_reducible exact chg0 | with_reducible refine Chg.drewN ?_ _ | with_reducible refine Chg.drew ?_ | with_reducible refine Chg.alloc ?_ _ | with_reducible refine Chg.setCell ?_ _ _ (by first | (simp; done) | omega | (simp; omega)) | with_reducible refine Chg.setBlock ?_ _ _ (by first | (simp; done) | omega | (simp; omega)) | exact Chg.refl _ _)) (Chg.of_below hb1) (fun _ _ h => h.elim)
    clear c0 c1 c2 c3 c4 c5 c6 c7 c8 c9 cf cl hob
    obtain ⟨c0, c1, c2, c3, c4, c5, c6, c7, c8, c9, cf, cl⟩ := ob_cells10 hob1
    clear hb1
    go_wp2_with fail
    go_ret
    refine ⟨rfl, ⟨by simp [go_sem, hob1, cl, setAt, Timer.start], ⟨?_, HOK.out.wait, HOK.out.tries, by simp only; omega⟩⟩, hch1.trans (S' := fun j => j = p) (by repeat (first | exact Chg.refl _ _ | refine Chg.drewN ?_ _ | refine Chg.drew ?_ | refine Chg.setCell ?_ _ _ (fun _ => rfl))) (fun _ _ h => h)⟩
    have h8 := HOK.out.tries
    exact ⟨by simp [Timer.start], by simp only [Timer.start]; exact h8.1, by simp only [Timer.start]; omega, by simp only [Timer.start]; omega⟩
  · rw [if_pos rfl]
    clear hb
    go_enter Tryz.func32, Tryz.ntmps32
    go_wp2_with fail
    go_ret
    exact ⟨rfl, H.out.chg (S := fun _ => False) (by repeat (first | with_reducible exact Chg.refl _ _ | with_reducible exact chg0 | with_reducible refine Chg.drewN ?_ _ | with_reducible refine Chg.drew ?_ | with_reducible refine Chg.alloc ?_ _ | with_reducible refine Chg.setCell ?_ _ _ (by first | (simp; done) | omega | (simp; omega)) | with_reducible refine Chg.setBlock ?_ _ _ (by first | (simp; done) | omega | (simp; omega)) | exact Chg.refl _ _)) (fun h => h), (by repeat (first | with_reducible exact Chg.refl _ _ | with_reducible exact chg0 | with_reducible refine Chg.drewN ?_ _ | with_reducible refine Chg.drew ?_ | with_reducible refine Chg.alloc ?_ _ | with_reducible refine Chg.setCell ?_ _ _ (by first | (simp; done) | omega | (simp; omega)) | with_reducible refine Chg.setBlock ?_ _ _ (by first | (simp; done) | omega | (simp; omega)) | exact Chg.refl _ _))⟩
set_option maxHeartbeats 4000000 in
theorem Finish_calls (h : ProcAt w p s) :
    Calls Tryz.prog 79 #[.pointer (some ⟨p, 0, none⟩)] w fun e w' => e = .returned (.tuple #[.int .i64 s.finish.2.1, .bool s.finish.2.2]) ∧ ProcAt w' p s.finish.1 ∧ Chg (fun j => j = p) w w' := by
  have HOK := Lib.hid h.2
  have H := Lib.hid h
  obtain ⟨c0, c1, c2, c3, c4, c5, c6, c7, c8, c9, cf, cl⟩ := ob_cells10 h.1
  have hob := h.1
  have his : s.finish = if s.busy = true then ({ s with op := Op.zero, busy := false }, s.number, true) else (s, 0, false) := rfl
  obtain ⟨b, hb⟩ : ∃ b, b = s.busy := ⟨_, rfl⟩
  rw [← hb] at his c9 hob
  rw [his]
  clear his h
  cases b
  · rw [if_neg (by decide)]
    clear hb
    go_enter Tryz.func79, Tryz.ntmps79
    go_wp2_with fail
    go_ret2
    exact ⟨rfl, H.out.chg (S := fun _ => False) (by repeat (first | with_reducible exact Chg.refl _ _ | with_reducible exact chg0 | with_reducible refine Chg.drewN ?_ _ | with_reducible refine Chg.drew ?_ | with_reducible refine Chg.alloc ?_ _ | with_reducible refine Chg.setCell ?_ _ _ (by first | (simp; done) | omega | (simp; omega)) | with_reducible refine Chg.setBlock ?_ _ _ (by first | (simp; done) | omega | (simp; omega)) | exact Chg.refl _ _)) (fun h => h), (by repeat (first | with_reducible exact Chg.refl _ _ | with_reducible exact chg0 | with_reducible refine Chg.drewN ?_ _ | with_reducible refine Chg.drew ?_ | with_reducible refine Chg.alloc ?_ _ | with_reducible refine Chg.setCell ?_ _ _ (by first | (simp; done) | omega | (simp; omega)) | with_reducible refine Chg.setBlock ?_ _ _ (by first | (simp; done) | omega | (simp; omega)) | exact Chg.refl _ _))⟩
  · rw [if_pos rfl]
    clear hb
    go_enter Tryz.func79, Tryz.ntmps79
    go_wp2_with fail
    go_ret2
    exact ⟨rfl, ⟨by simp [go_sem, hob, cl, setAt, Op.zero], ⟨HOK.out.timer, HOK.out.wait, HOK.out.tries, HOK.out.number⟩⟩, (by repeat (first | exact Chg.refl _ _ | refine Chg.drewN ?_ _ | refine Chg.drew ?_ | refine Chg.setCell ?_ _ _ (fun _ => rfl)))⟩
set_option maxHeartbeats 4000000 in
theorem PTick_calls (h : ProcAt w p s) :
    Calls Tryz.prog 49 #[.pointer (some ⟨p, 0, none⟩)] w fun e w' => e = .returned (.int .i64 s.tick.2) ∧ ProcAt w' p s.tick.1 ∧ Chg (fun j => j = p) w w' := by
  have HOK := Lib.hid h.2
  have H := Lib.hid h
  obtain ⟨c0, c1, c2, c3, c4, c5, c6, c7, c8, c9, cf, cl⟩ := ob_cells10 h.1
  have hob := h.1
  have hT := fun (W : World) => TTick_calls s.timer s.wait s.tries W h.2.timer h.2.wait.1 h.2.wait.2 h.2.tries.2
  have htok := Timer.tick_ok h.2.timer h.2.wait.1 h.2.wait.2 h.2.tries.2
  have his : s.tick = if s.busy = true then ({ s with timer := (s.timer.tick s.wait s.tries).1 }, (s.timer.tick s.wait s.tries).2) else (s, 0) := rfl
  obtain ⟨b, hb⟩ : ∃ b, b = s.busy := ⟨_, rfl⟩
  obtain ⟨⟨t, k⟩, ht⟩ : ∃ x, x = s.timer.tick s.wait s.tries := ⟨_, rfl⟩
  rw [← hb, ← ht] at his
  rw [← hb] at c9 hob
  simp only [← ht] at hT htok
  rw [his]
  have HT := Lib.hid hT
  have HTO := Lib.hid htok
  clear his h ht hT htok
  simp only [Timer.val] at HT
  cases b
  · rw [if_neg (by decide)]
    clear hb
    go_enter Tryz.func49, Tryz.ntmps49
    go_wp2_with fail
    go_ret
    exact ⟨rfl, H.out.chg (S := fun _ => False) (by repeat (first | with_reducible exact Chg.refl _ _ | with_reducible exact chg0 | with_reducible refine Chg.drewN ?_ _ | with_reducible refine Chg.drew ?_ | with_reducible refine Chg.alloc ?_ _ | with_reducible refine Chg.setCell ?_ _ _ (by first | (simp; done) | omega | (simp; omega)) | with_reducible refine Chg.setBlock ?_ _ _ (by first | (simp; done) | omega | (simp; omega)) | exact Chg.refl _ _)) (fun h => h), (by repeat (first | with_reducible exact Chg.refl _ _ | with_reducible exact chg0 | with_reducible refine Chg.drewN ?_ _ | with_reducible refine Chg.drew ?_ | with_reducible refine Chg.alloc ?_ _ | with_reducible refine Chg.setCell ?_ _ _ (by first | (simp; done) | omega | (simp; omega)) | with_reducible refine Chg.setBlock ?_ _ _ (by first | (simp; done) | omega | (simp; omega)) | exact Chg.refl _ _))⟩
  · rw [if_pos rfl]
    clear hb
    go_enter Tryz.func49, Tryz.ntmps49
    go_wp2_with fail
    go_region_law (first
      | (go_simp; go_at_call 101; refine (HT.out _).mono ?_; rintro e w1 ⟨rfl, hb1⟩; have hob1 := (Chg.of_below (S := fun _ => False) hb1).ob (b := p) (by first | exact hob | (simp [go_sem]; exact hob)) (fun h => h); have hch1 : Chg (fun j => j = p) w w1 := Chg.trans (S' := fun _ => False) (by repeat (first | with_reducible exact Chg.refl _ _ | with_reducible exact chg0 | with_reducible refine Chg.drewN ?_ _ | with_reducible refine Chg.drew ?_ | with_reducible refine Chg.alloc ?_ _ | with_reducible refine Chg.setCell ?_ _ _ (by first | (simp; done) | omega | (simp; omega)) | with_reducible refine Chg.setBlock ?_ _ _ (by first | (simp; done) | omega | (simp; omega)) | exact Chg.refl _ _)) (Chg.of_below hb1) (fun _ _ h => h.elim); obtain ⟨c0', c1', c2', c3', c4', c5', c6', c7', c8', c9', cf', cl'⟩ := ob_cells10 hob1)
      | fail)
    all_goals (go_wp2_with fail)
    all_goals go_ret
    all_goals exact ⟨rfl, ⟨by simp [go_sem, hob1, cl', setAt], ⟨HTO.out, HOK.out.wait, HOK.out.tries, HOK.out.number⟩⟩, hch1.trans (S' := fun j => j = p) (by repeat (first | exact Chg.refl _ _ | refine Chg.drewN ?_ _ | refine Chg.drew ?_ | refine Chg.setCell ?_ _ _ (fun _ => rfl))) (fun _ _ h => h)⟩
set_option maxHeartbeats 4000000 in
theorem PCopy_calls (h : ProcAt w p s) :
    Calls Tryz.prog 69 #[.pointer (some ⟨p, 0, none⟩)] w fun e w' => ∃ p', e = .returned (.pointer (some ⟨p', 0, none⟩)) ∧ ProcAt w' p' s ∧ w.heap.size ≤ p' ∧ Below w.heap.size w w' := by
  have HOK := Lib.hid h.2
  obtain ⟨c0, c1, c2, c3, c4, c5, c6, c7, c8, c9, cf, cl⟩ := ob_cells10 h.1
  clear h
  go_enter Tryz.func69, Tryz.ntmps69
  go_wp2_with fail
  go_ret
  exact ⟨w.heap.size, rfl, ⟨by simp [go_sem], HOK.out⟩, Nat.le_refl _, Chg.below (by repeat (first | with_reducible exact Chg.refl _ _ | with_reducible exact chg0 | with_reducible refine Chg.drewN ?_ _ | with_reducible refine Chg.drew ?_ | with_reducible refine Chg.alloc ?_ _ | with_reducible refine Chg.setCell ?_ _ _ (by first | (simp; done) | omega | (simp; omega)) | with_reducible refine Chg.setBlock ?_ _ _ (by first | (simp; done) | omega | (simp; omega)) | exact Chg.refl _ _))⟩
end
end Go.Proofs.YtchlioikkhnidaaGreat

/-
  The program's table of persistent requests.
-/
namespace Go.Proofs.YtchlioikkhnidaaGreat
open Go.RowKit Go.Sort Go.ChangeShapes Go.WideShapes Go.ChangeAt
open Go.ChangeMaps (setBlock)
set_option linter.unusedVariables false
set_option linter.unusedSimpArgs false

theorem tyIA : MapTy Tryz.prog 177 3 124 Active.zero.val := ⟨Tryz.underlying177, Tryz.underlying3, fun _ => by kernel_rfl⟩
def ActMap (a : Int → Active) (f : Int → Option Value) : Prop := ∀ k, f k = if 0 < (a k).seq then some (a k).val else none
theorem ActMap.get {t : Table} {f : Int → Option Value} (h : ActMap t.act f) (ok : t.Ok) (k : Int) : (f k).getD Active.zero.val = (t.act k).val := by
  rw [h k]
  split
  · rfl
  · rename_i hn
    rw [ok.none k (by omega)]; rfl
theorem ActMap.some {t : Table} {f : Int → Option Value} (h : ActMap t.act f) (k : Int) : (f k).isSome = t.on k := by
  rw [h k, Table.on]
  split
  · rename_i hp; simp [hp]
  · rename_i hp; simp [hp]
structure TableAt (w : World) (p ab xb : Nat) (t : Table) : Prop where
  at_ : ob w p = some (.cells #[.map (some ab), .map (some xb)] 179 (0, 0))
  act : ∃ o f, ob w ab = some o ∧ MapObj o f ∧ ActMap t.act f
  over : ∃ o f, ob w xb = some o ∧ MapObj o f ∧ IntMap t.over f
  ok : t.Ok
  ne : ab ≠ xb
section
variable {w w' : World} {p ab xb : Nat} {t : Table}
theorem TableAt.ne1 (h : TableAt w p ab xb t) : p ≠ ab ∧ p ≠ xb := by
  obtain ⟨o, f, h1, ⟨_, _, e1, _⟩, _⟩ := h.act
  obtain ⟨o', f', h1', ⟨_, _, e1', _⟩, _⟩ := h.over
  have h0 := h.at_
  refine ⟨fun e => ?_, fun e => ?_⟩
  · rw [e, h1, e1] at h0; cases h0
  · rw [e, h1', e1'] at h0; cases h0
theorem TableAt.lt (h : TableAt w p ab xb t) : p < w.heap.size ∧ ab < w.heap.size ∧ xb < w.heap.size := by
  obtain ⟨o, f, h1, _⟩ := h.act
  obtain ⟨o', f', h1', _⟩ := h.over
  exact ⟨ob_lt h.at_, ob_lt h1, ob_lt h1'⟩
theorem TableAt.chg {S : Nat → Prop} (h : TableAt w p ab xb t) (hc : Chg S w w') (h1 : ¬ S p) (h2 : ¬ S ab) (h3 : ¬ S xb) : TableAt w' p ab xb t := by
  obtain ⟨o, f, g1, g2⟩ := h.act
  obtain ⟨o', f', g1', g2'⟩ := h.over
  exact ⟨hc.ob h.at_ h1, ⟨o, f, hc.ob g1 h2, g2⟩, ⟨o', f', hc.ob g1' h3, g2'⟩, h.ok, h.ne⟩
theorem TableAt.below (h : TableAt w p ab xb t) (hb : Below w.heap.size w w') : TableAt w' p ab xb t := h.chg (S := fun _ => False) (Chg.of_below hb) (fun h => h) (fun h => h) (fun h => h)

theorem Table.activate_ok {t : Table} (h : t.Ok) {a : Active} (hb : 0 ≤ a.block ∧ a.block < 64) : (t.activate a).1.Ok := by
  unfold Table.activate
  split
  · exact h
  · rename_i hn
    refine ⟨fun b hz => ?_, fun b hp => ?_⟩
    · simp only at hz ⊢
      split at hz
      · omega
      · rename_i e; rw [if_neg e]; exact h.none b hz
    · simp only at hp ⊢
      split at hp
      · rename_i e; rw [if_pos e]; exact ⟨e.symm, by omega, by omega⟩
      · rename_i e; rw [if_neg e]; exact h.block b hp
theorem Table.deactivate_ok {t : Table} (h : t.Ok) (block seq : Int) : (t.deactivate block seq).Ok := by
  unfold Table.deactivate
  refine ⟨fun b hz => ?_, fun b hp => ?_⟩
  · simp only at hz ⊢
    split at hz
    · rename_i e; rw [if_pos e]
    · rename_i e; rw [if_neg e]; exact h.none b hz
  · simp only at hp ⊢
    split at hp
    · simp [Active.zero] at hp
    · rename_i e; rw [if_neg e]; exact h.block b hp

theorem TableAt.put {W Wf : World} {o3 : Obj} {f' : Int → Option Value} {t' : Table} (h : TableAt w p ab xb t) (hB : Chg (fun _ => False) (setBlock W ab o3) Wf) (ho : MapObj o3 f') (ha : ActMap t'.act f') (hov : t'.over = t.over) (ok : t'.Ok) (hA : Chg (fun _ => False) w W) :
    TableAt Wf p ab xb t' ∧ Chg (fun j => j = ab) w Wf := by
  have hc : Chg (fun j => j = ab) w (setBlock W ab o3) := Chg.setBlock (hA.mono fun _ _ h => h.elim) _ _ fun _ => rfl
  have hc2 : Chg (fun j => j = ab) w Wf := hc.trans hB fun _ _ h => h.elim
  obtain ⟨o2', f2', g1', g2'⟩ := h.over
  have hl := Nat.lt_of_lt_of_le h.lt.2.1 hA.size
  exact ⟨⟨hc2.ob h.at_ h.ne1.1, ⟨o3, _, hB.ob (ob_setBlock_lt _ _ _ hl) (fun h => h), ho, ha⟩, ⟨o2', f2', hc2.ob g1' (Ne.symm h.ne), by rw [hov]; exact g2'⟩, ok, h.ne⟩, hc2⟩
theorem TableAt.putO {W Wf : World} {o3 : Obj} {f' : Int → Option Value} {t' : Table} (h : TableAt w p ab xb t) (hB : Chg (fun _ => False) (setBlock W xb o3) Wf) (ho : MapObj o3 f') (ha : IntMap t'.over f') (hov : t'.act = t.act) (ok : t'.Ok) (hA : Chg (fun _ => False) w W) :
    TableAt Wf p ab xb t' ∧ Chg (fun j => j = xb) w Wf := by
  have hc : Chg (fun j => j = xb) w (setBlock W xb o3) := Chg.setBlock (hA.mono fun _ _ h => h.elim) _ _ fun _ => rfl
  have hc2 : Chg (fun j => j = xb) w Wf := hc.trans hB fun _ _ h => h.elim
  obtain ⟨o2', f2', g1', g2'⟩ := h.act
  have hl := Nat.lt_of_lt_of_le h.lt.2.2 hA.size
  exact ⟨⟨hc2.ob h.at_ h.ne1.2, ⟨o2', f2', hc2.ob g1' h.ne, by rw [hov]; exact g2'⟩, ⟨o3, _, hB.ob (ob_setBlock_lt _ _ _ hl) (fun h => h), ho, ha⟩, ok, h.ne⟩, hc2⟩

theorem TableAt.put2 {w0 W Wf : World} {o3 : Obj} {f' : Int → Option Value} {t' : Table} (h : TableAt w p ab xb t) (h0 : Chg (fun j => j = xb) w0 w) (hB : Chg (fun _ => False) (setBlock W ab o3) Wf) (ho : MapObj o3 f') (ha : ActMap t'.act f') (hov : t'.over = t.over) (ok : t'.Ok) (hA : Chg (fun _ => False) w W) :
    TableAt Wf p ab xb t' ∧ Chg (fun j => j = ab ∨ j = xb) w0 Wf := by
  obtain ⟨g1, g2⟩ := h.put hB ho ha hov ok hA
  exact ⟨g1, (h0.mono fun _ _ h => .inr h).trans g2 fun _ _ h => .inl h⟩

set_option maxHeartbeats 2000000 in
theorem TableNew_calls (w : World) : Calls Tryz.prog 74 #[] w fun e w' => ∃ p ab xb, e = .returned (.pointer (some ⟨p, 0, none⟩)) ∧ TableAt w' p ab xb Table.new ∧ (w.heap.size ≤ p ∧ w.heap.size ≤ ab ∧ w.heap.size ≤ xb) ∧ Below w.heap.size w w' := by
  have hmm := @run_makeMap Tryz.prog
  go_enter Tryz.func74, Tryz.ntmps74
  go_wp2_with fail
  go_ret
  refine ⟨w.heap.size + 1 + 1, w.heap.size, w.heap.size + 1, rfl, ⟨?_, ⟨_, _, ?_, MapObj.empty 0, fun k => rfl⟩, ⟨_, _, ?_, MapObj.empty 0, IntMap.empty⟩, ⟨fun _ _ => rfl, fun b hp => by simp [Table.new, Active.zero] at hp⟩, by omega⟩, ⟨by omega, by omega, by omega⟩, Chg.below (by repeat (first | with_reducible exact Chg.refl _ _ | with_reducible exact chg0 | with_reducible refine Chg.drewN ?_ _ | with_reducible refine Chg.drew ?_ | with_reducible refine Chg.alloc ?_ _ | with_reducible refine Chg.setCell ?_ _ _ (by first | (simp; done) | omega | (simp; omega)) | with_reducible refine Chg.setBlock ?_ _ _ (by first | (simp; done) | omega | (simp; omega)) | exact Chg.refl _ _))⟩
  · exact ob_alloc_new _ _ _ (by simp)
  · rw [ob_alloc_past _ _ _ (by simp; omega), ob_alloc_past _ _ _ (by simp), ob_alloc_at]
  · rw [ob_alloc_past _ _ _ (by simp)]; exact ob_alloc_new _ _ _ (by simp)

set_option maxHeartbeats 2000000 in
theorem Active_calls (b : Int) (h : TableAt w p ab xb t) : Calls Tryz.prog 127 #[.pointer (some ⟨p, 0, none⟩), .int .i64 b] w (Pure w (.tuple #[(t.act b).val, .bool (t.on b)])) := by
  have c0 : w.cell? ⟨p, 0, none⟩ = some (.map (some ab)) := cell_ob h.at_ 0
  obtain ⟨l0, l1, l2⟩ := h.lt
  obtain ⟨o, f, hm, hmo, ha⟩ := h.act
  have hlk : ∀ W : World, ob W ab = some o → (Instr.lookup 177 (.map (some ab)) (.int .i64 b) true).run Tryz.prog W = .ok (.tuple #[(t.act b).val, .bool (t.on b)]) W := fun W hW => by
    rw [hmo.lookup_ok tyIA b _ W hW, ha.get h.ok, ha.some]
  simp only [Active.val, Active.cells] at hlk ⊢
  clear h hmo ha
  generalize t.on b = on at *
  go_enter Tryz.func127, Tryz.ntmps127
  go_wp2_with fail
  (try (go_big_region; go_wp2_with fail))
  (try simp only [Exit.inBlock, Exit.then])
  refine bodyRet2 _ _ rfl rfl (ResIs.row Tryz.underlying124 rfl (by kernel_rfl) rfl (by simp [go_sem]; exact ⟨rfl, rfl, rfl⟩)) ResIs.tmp ?_
  exact pure_of rfl (by repeat (first | with_reducible exact Chg.refl _ _ | with_reducible exact chg0 | with_reducible refine Chg.drewN ?_ _ | with_reducible refine Chg.drew ?_ | with_reducible refine Chg.alloc ?_ _ | with_reducible refine Chg.setCell ?_ _ _ (by first | (simp; done) | omega | (simp; omega)) | with_reducible refine Chg.setBlock ?_ _ _ (by first | (simp; done) | omega | (simp; omega)) | exact Chg.refl _ _))

theorem fieldSeq (b n s : Int) (w : World) : (Instr.field 124 (.agg #[.int .i64 b, .int .i64 n, .int .i64 s]) 2).run Tryz.prog w = .ok (.int .i64 s) w := by kernel_rfl

set_option maxHeartbeats 4000000 in
set_option maxRecDepth 20000 in
theorem Activate_calls (a : Active) (h : TableAt w p ab xb t) (hab : 0 ≤ a.block ∧ a.block < 64) :
    Calls Tryz.prog 94 #[.pointer (some ⟨p, 0, none⟩), a.val] w fun e w' => e = .returned (.bool (t.activate a).2) ∧ TableAt w' p ab xb (t.activate a).1 ∧ Chg (fun j => j = ab) w w' := by
  have hok := Table.activate_ok h.ok hab
  have H := Lib.hid h
  have c0 : w.cell? ⟨p, 0, none⟩ = some (.map (some ab)) := cell_ob h.at_ 0
  have c1 : w.cell? ⟨p, 1, none⟩ = some (.map (some xb)) := cell_ob h.at_ 1
  obtain ⟨l0, l1, l2⟩ := h.lt
  have hne := h.ne1
  obtain ⟨o, f, hm, hmo, ha⟩ := h.act
  obtain ⟨o2, f2, hm2, hmo2, ha2⟩ := h.over
  have hfs := fieldSeq
  have hlk : ∀ W : World, ob W ab = some o → (Instr.lookup 177 (.map (some ab)) (.int .i64 a.block) false).run Tryz.prog W = .ok (t.act a.block).val W := fun W hW => by
    rw [hmo.lookup tyIA a.block _ W hW, ha.get h.ok]
  have hlk2 : ∀ W : World, ob W xb = some o2 → (Instr.lookup 62 (.map (some xb)) (.int .i64 a.block) false).run Tryz.prog W = .ok (.int .i64 (t.over a.block)) W := fun W hW => by
    rw [hmo2.lookup tyII a.block _ W hW, ha2]
  obtain ⟨o3, ho3, hup⟩ := hmo.update tyIA a.block a.val ab
  have HO3 := Lib.hid ho3
  have HA := Lib.hid ha
  have hdef : t.activate a = if a.seq < 1 ∨ a.seq ≤ t.over a.block ∨ a.seq ≤ (t.act a.block).seq then (t, false) else (⟨fun j => if j = a.block then a else t.act j, t.over⟩, true) := rfl
  have HD := Lib.hid hdef
  have HOK := Lib.hid hok
  simp only [Active.val, Active.cells] at hlk hup ⊢
  clear h hmo ha hmo2 ha2 ho3 hdef hok
  by_cases q1 : a.seq < 1
  · have q1' : decide (a.seq < 1) = true := by simpa using q1
    have Q := Lib.hid q1
    clear q1
    go_enter Tryz.func94, Tryz.ntmps94
    go_wp2_with fail
    go_quiet (fail)
    go_wp2_with fail
    go_ret
    rw [HD.out, if_pos (.inl Q.out)]
    exact ⟨rfl, H.out.below (Chg.below (by repeat (first | with_reducible exact Chg.refl _ _ | with_reducible exact chg0 | with_reducible refine Chg.drewN ?_ _ | with_reducible refine Chg.drew ?_ | with_reducible refine Chg.alloc ?_ _ | with_reducible refine Chg.setCell ?_ _ _ (by first | (simp; done) | omega | (simp; omega)) | with_reducible refine Chg.setBlock ?_ _ _ (by first | (simp; done) | omega | (simp; omega)) | exact Chg.refl _ _))), (by repeat (first | with_reducible exact Chg.refl _ _ | with_reducible exact chg0 | with_reducible refine Chg.drewN ?_ _ | with_reducible refine Chg.drew ?_ | with_reducible refine Chg.alloc ?_ _ | with_reducible refine Chg.setCell ?_ _ _ (by first | (simp; done) | omega | (simp; omega)) | with_reducible refine Chg.setBlock ?_ _ _ (by first | (simp; done) | omega | (simp; omega)) | exact Chg.refl _ _))⟩
  have q1' : decide (a.seq < 1) = false := by simpa using q1
  by_cases q2 : a.seq ≤ t.over a.block
  · have q2' : decide (a.seq ≤ t.over a.block) = true := by simpa using q2
    have Q := Lib.hid q2
    clear q2
    go_enter Tryz.func94, Tryz.ntmps94
    go_wp2_with fail
    go_quiet (fail)
    go_wp2_with fail
    go_ret
    rw [HD.out, if_pos (.inr (.inl Q.out))]
    exact ⟨rfl, H.out.below (Chg.below (by repeat (first | with_reducible exact Chg.refl _ _ | with_reducible exact chg0 | with_reducible refine Chg.drewN ?_ _ | with_reducible refine Chg.drew ?_ | with_reducible refine Chg.alloc ?_ _ | with_reducible refine Chg.setCell ?_ _ _ (by first | (simp; done) | omega | (simp; omega)) | with_reducible refine Chg.setBlock ?_ _ _ (by first | (simp; done) | omega | (simp; omega)) | exact Chg.refl _ _))), (by repeat (first | with_reducible exact Chg.refl _ _ | with_reducible exact chg0 | with_reducible refine Chg.drewN ?_ _ | with_reducible refine Chg.drew ?_ | with_reducible refine Chg.alloc ?_ _ | with_reducible refine Chg.setCell ?_ _ _ (by first | (simp; done) | omega | (simp; omega)) | with_reducible refine Chg.setBlock ?_ _ _ (by first | (simp; done) | omega | (simp; omega)) | exact Chg.refl _ _))⟩
  have q2' : decide (a.seq ≤ t.over a.block) = false := by simpa using q2
  by_cases q3 : a.seq ≤ (t.act a.block).seq
  · have q3' : decide (a.seq ≤ (t.act a.block).seq) = true := by simpa using q3
    have Q := Lib.hid q3
    clear q3
    go_enter Tryz.func94, Tryz.ntmps94
    go_wp2_with fail
    go_quiet (fail)
    go_wp2_with fail
    go_ret
    rw [HD.out, if_pos (.inr (.inr Q.out))]
    exact ⟨rfl, H.out.below (Chg.below (by repeat (first | with_reducible exact Chg.refl _ _ | with_reducible exact chg0 | with_reducible refine Chg.drewN ?_ _ | with_reducible refine Chg.drew ?_ | with_reducible refine Chg.alloc ?_ _ | with_reducible refine Chg.setCell ?_ _ _ (by first | (simp; done) | omega | (simp; omega)) | with_reducible refine Chg.setBlock ?_ _ _ (by first | (simp; done) | omega | (simp; omega)) | exact Chg.refl _ _))), (by repeat (first | with_reducible exact Chg.refl _ _ | with_reducible exact chg0 | with_reducible refine Chg.drewN ?_ _ | with_reducible refine Chg.drew ?_ | with_reducible refine Chg.alloc ?_ _ | with_reducible refine Chg.setCell ?_ _ _ (by first | (simp; done) | omega | (simp; omega)) | with_reducible refine Chg.setBlock ?_ _ _ (by first | (simp; done) | omega | (simp; omega)) | exact Chg.refl _ _))⟩
  have q3' : decide (a.seq ≤ (t.act a.block).seq) = false := by simpa using q3
  have Q := Lib.hid (show ¬ (a.seq < 1 ∨ a.seq ≤ t.over a.block ∨ a.seq ≤ (t.act a.block).seq) by omega)
  have Q1 := Lib.hid q1
  clear q1 q2 q3
  go_enter Tryz.func94, Tryz.ntmps94
  go_wp2_with fail
  go_quiet (fail)
  go_wp2_with fail
  go_big_region
  all_goals
    go_wp2_with fail
    go_ret
    rw [HD.out, if_neg Q.out] at HOK ⊢
    refine ⟨rfl, TableAt.put (t' := ⟨fun j => if j = a.block then a else t.act j, t.over⟩) (f' := upd f a.block a.val) H.out (by repeat (first | with_reducible exact Chg.refl _ _ | with_reducible exact chg0 | with_reducible refine Chg.drewN ?_ _ | with_reducible refine Chg.drew ?_ | with_reducible refine Chg.alloc ?_ _ | with_reducible refine Chg.setCell ?_ _ _ (by first | (simp; done) | omega | (simp; omega)) | with_reducible refine Chg.setBlock ?_ _ _ (by first | (simp; done) | omega | (simp; omega)) | exact Chg.refl _ _)) HO3.out (by
      intro k
      unfold upd
      by_cases e : k = a.block
      · subst e; simp; have := Q1.out; omega
      · simp only [if_neg e]; exact HA.out k) rfl HOK.out (by repeat (first | with_reducible exact Chg.refl _ _ | with_reducible exact chg0 | with_reducible refine Chg.drewN ?_ _ | with_reducible refine Chg.drew ?_ | with_reducible refine Chg.alloc ?_ _ | with_reducible refine Chg.setCell ?_ _ _ (by first | (simp; done) | omega | (simp; omega)) | with_reducible refine Chg.setBlock ?_ _ _ (by first | (simp; done) | omega | (simp; omega)) | exact Chg.refl _ _))⟩

set_option maxHeartbeats 4000000 in
set_option maxRecDepth 20000 in
theorem Deactivate_calls (block seq : Int) (h : TableAt w p ab xb t) :
    Calls Tryz.prog 95 #[.pointer (some ⟨p, 0, none⟩), .int .i64 block, .int .i64 seq] w fun e w' => e = .returned (.tuple #[]) ∧ TableAt w' p ab xb (t.deactivate block seq) ∧ Chg (fun j => j = ab ∨ j = xb) w w' := by
  have hok := Table.deactivate_ok h.ok block seq
  have hok1 : Table.Ok ⟨t.act, fun j => if j = block then max (t.over block) seq else t.over j⟩ := ⟨h.ok.none, h.ok.block⟩
  have H := Lib.hid h
  have c0 : w.cell? ⟨p, 0, none⟩ = some (.map (some ab)) := cell_ob h.at_ 0
  have c1 : w.cell? ⟨p, 1, none⟩ = some (.map (some xb)) := cell_ob h.at_ 1
  obtain ⟨l0, l1, l2⟩ := h.lt
  obtain ⟨o2, f2, hm2, hmo2, ha2⟩ := h.over
  obtain ⟨v, hv⟩ : ∃ v, v = t.over block := ⟨_, rfl⟩
  have hlk2 : ∀ W : World, ob W xb = some o2 → (Instr.lookup 62 (.map (some xb)) (.int .i64 block) false).run Tryz.prog W = .ok (.int .i64 v) W := fun W hW => by
    rw [hmo2.lookup tyII block _ W hW, ha2, hv]
  obtain ⟨o3, ho3, hup⟩ := hmo2.update tyII block (.int .i64 (max v seq)) xb
  have HO3 := Lib.hid ho3
  have HM2 := Lib.hid ha2
  have HV := Lib.hid hv
  have HOK := Lib.hid hok
  have HOK1 := Lib.hid hok1
  clear h hmo2 ha2 ho3 hok hok1 hv
  go_enter Tryz.func95, Tryz.ntmps95
  go_wp2_with fail
  go_upto_region 0 with fail
  go_cut [] (fun wx => TableAt wx p ab xb ⟨t.act, fun j => if j = block then max (t.over block) seq else t.over j⟩ ∧ Chg (fun j => j = xb) w wx)
  case first =>
    go_big_region
    all_goals (go_wp2_with fail)
    all_goals go_meet
    all_goals exact TableAt.putO (f' := upd f2 block (.int .i64 (max v seq))) H.out (by repeat (first | with_reducible exact Chg.refl _ _ | with_reducible exact chg0 | with_reducible refine Chg.drewN ?_ _ | with_reducible refine Chg.drew ?_ | with_reducible refine Chg.alloc ?_ _ | with_reducible refine Chg.setCell ?_ _ _ (by first | (simp; done) | omega | (simp; omega)) | with_reducible refine Chg.setBlock ?_ _ _ (by first | (simp; done) | omega | (simp; omega)) | exact Chg.refl _ _)) HO3.out (by rw [← HV.out]; exact HM2.out.upd block (max v seq)) rfl HOK1.out (by repeat (first | with_reducible exact Chg.refl _ _ | with_reducible exact chg0 | with_reducible refine Chg.drewN ?_ _ | with_reducible refine Chg.drew ?_ | with_reducible refine Chg.alloc ?_ _ | with_reducible refine Chg.setCell ?_ _ _ (by first | (simp; done) | omega | (simp; omega)) | with_reducible refine Chg.setBlock ?_ _ _ (by first | (simp; done) | omega | (simp; omega)) | exact Chg.refl _ _))
  case rest =>
    obtain ⟨hT, hch⟩ := hcut
    have HT := Lib.hid hT
    have HCH := Lib.hid hch
    clear c0 c1 l0 l1 l2 hm2 hlk2 hup
    have c0 : wc.cell? ⟨p, 0, none⟩ = some (.map (some ab)) := cell_ob hT.at_ 0
    obtain ⟨l0, l1, l2⟩ := hT.lt
    obtain ⟨o, f, hm, hmo, ha⟩ := hT.act
    have hsome : (f block).isSome = t.on block := ActMap.some (t := t) ha block
    have hget : (f block).getD Active.zero.val = (t.act block).val := ActMap.get (t := t) ha H.out.ok block
    obtain ⟨on, hon⟩ : ∃ b, b = t.on block := ⟨_, rfl⟩
    have hlk : ∀ W : World, ob W ab = some o → (Instr.lookup 177 (.map (some ab)) (.int .i64 block) true).run Tryz.prog W = .ok (.tuple #[(t.act block).val, .bool on]) W := fun W hW => by
      rw [hmo.lookup_ok tyIA block _ W hW, hget, hsome, hon]
    obtain ⟨o4, ho4, hdel⟩ := hmo.delete tyIA block ab
    have HO4 := Lib.hid ho4
    have HA := Lib.hid ha
    have HON := Lib.hid hon
    simp only [Active.val, Active.cells] at hlk
    clear hT hch hmo ha hsome hget ho4 hon
    have hfin : ∀ Wf, TableAt Wf p ab xb ⟨t.act, fun j => if j = block then max (t.over block) seq else t.over j⟩ → (on = false ∨ ¬ (t.act block).seq ≤ seq) → TableAt Wf p ab xb (t.deactivate block seq) := fun Wf hT' hn => by
      have e : (t.deactivate block seq) = ⟨t.act, fun j => if j = block then max (t.over block) seq else t.over j⟩ := by
        unfold Table.deactivate
        congr 1
        funext j
        split
        · rename_i e
          obtain ⟨rfl, e2⟩ := e
          rcases hn with hn | hn
          · have hon := HON.out
            rw [hn, Table.on] at hon
            have hz : (t.act j).seq ≤ 0 := by
              have := of_decide_eq_false hon.symm
              omega
            exact (H.out.ok.none j hz).symm
          · exact absurd e2 hn
        · rfl
      rw [e]; exact hT'
    have HFIN := Lib.hid hfin
    clear hfin
    cases on
    · go_wp2_with fail
      (try (go_big_region; go_wp2_with fail))
      go_end0
      exact ⟨rfl, HFIN.out _ (HT.out.below (Chg.below (by repeat (first | with_reducible exact Chg.refl _ _ | with_reducible exact chg0 | with_reducible refine Chg.drewN ?_ _ | with_reducible refine Chg.drew ?_ | with_reducible refine Chg.alloc ?_ _ | with_reducible refine Chg.setCell ?_ _ _ (by first | (simp; done) | omega | (simp; omega)) | with_reducible refine Chg.setBlock ?_ _ _ (by first | (simp; done) | omega | (simp; omega)) | exact Chg.refl _ _)))) (.inl (by simp)), (HCH.out.mono fun _ _ h => .inr h).trans (S' := fun _ => False) (by repeat (first | with_reducible exact Chg.refl _ _ | with_reducible exact chg0 | with_reducible refine Chg.drewN ?_ _ | with_reducible refine Chg.drew ?_ | with_reducible refine Chg.alloc ?_ _ | with_reducible refine Chg.setCell ?_ _ _ (by first | (simp; done) | omega | (simp; omega)) | with_reducible refine Chg.setBlock ?_ _ _ (by first | (simp; done) | omega | (simp; omega)) | exact Chg.refl _ _)) (fun _ _ h => h.elim)⟩
    · by_cases q : (t.act block).seq ≤ seq
      · have q' : decide ((t.act block).seq ≤ seq) = true := by simpa using q
        have Q := Lib.hid q
        clear q
        go_wp2_with fail
        (try (go_big_region; go_wp2_with fail))
        (try (go_big_region; go_wp2_with fail))
        go_end0
        refine ⟨rfl, TableAt.put2 (t' := t.deactivate block seq) (f' := del f block) HT.out HCH.out (by repeat (first | with_reducible exact Chg.refl _ _ | with_reducible exact chg0 | with_reducible refine Chg.drewN ?_ _ | with_reducible refine Chg.drew ?_ | with_reducible refine Chg.alloc ?_ _ | with_reducible refine Chg.setCell ?_ _ _ (by first | (simp; done) | omega | (simp; omega)) | with_reducible refine Chg.setBlock ?_ _ _ (by first | (simp; done) | omega | (simp; omega)) | exact Chg.refl _ _)) HO4.out (fun k => ?_) rfl HOK.out (by repeat (first | with_reducible exact Chg.refl _ _ | with_reducible exact chg0 | with_reducible refine Chg.drewN ?_ _ | with_reducible refine Chg.drew ?_ | with_reducible refine Chg.alloc ?_ _ | with_reducible refine Chg.setCell ?_ _ _ (by first | (simp; done) | omega | (simp; omega)) | with_reducible refine Chg.setBlock ?_ _ _ (by first | (simp; done) | omega | (simp; omega)) | exact Chg.refl _ _))⟩
        have hk := HA.out k
        unfold del
        by_cases e : k = block
        · subst e
          have e2 : ((t.deactivate k seq).act k) = Active.zero := by
            show (if k = k ∧ (t.act k).seq ≤ seq then Active.zero else t.act k) = _
            rw [if_pos ⟨rfl, Q.out⟩]
          rw [e2]; simp [Active.zero]
        · have e2 : ((t.deactivate block seq).act k) = t.act k := by
            show (if k = block ∧ (t.act block).seq ≤ seq then Active.zero else t.act k) = _
            rw [if_neg (fun h => e h.1)]
          rw [e2, if_neg e]; exact hk
      · have q' : decide ((t.act block).seq ≤ seq) = false := by simpa using q
        have Q := Lib.hid q
        clear q
        go_wp2_with fail
        (try (go_big_region; go_wp2_with fail))
        go_end0
        exact ⟨rfl, HFIN.out _ (HT.out.below (Chg.below (by repeat (first | with_reducible exact Chg.refl _ _ | with_reducible exact chg0 | with_reducible refine Chg.drewN ?_ _ | with_reducible refine Chg.drew ?_ | with_reducible refine Chg.alloc ?_ _ | with_reducible refine Chg.setCell ?_ _ _ (by first | (simp; done) | omega | (simp; omega)) | with_reducible refine Chg.setBlock ?_ _ _ (by first | (simp; done) | omega | (simp; omega)) | exact Chg.refl _ _)))) (.inr Q.out), (HCH.out.mono fun _ _ h => .inr h).trans (S' := fun _ => False) (by repeat (first | with_reducible exact Chg.refl _ _ | with_reducible exact chg0 | with_reducible refine Chg.drewN ?_ _ | with_reducible refine Chg.drew ?_ | with_reducible refine Chg.alloc ?_ _ | with_reducible refine Chg.setCell ?_ _ _ (by first | (simp; done) | omega | (simp; omega)) | with_reducible refine Chg.setBlock ?_ _ _ (by first | (simp; done) | omega | (simp; omega)) | exact Chg.refl _ _)) (fun _ _ h => h.elim)⟩
end
end Go.Proofs.YtchlioikkhnidaaGreat

/-
  The program's table: Copy.
-/
namespace Go.Proofs.YtchlioikkhnidaaGreat
open Go.RowKit Go.Sort Go.ChangeShapes Go.WideShapes Go.ChangeAt Go.Shelf
open Go.ChangeMaps (setBlock)
set_option linter.unusedVariables false
set_option linter.unusedSimpArgs false

section
variable {w w' : World} {p ab xb : Nat} {t : Table}
theorem CloneA_calls {b : Nat} {o : Obj} {f : Int → Option Value} (hb : ob w b = some o) (ho : MapObj o f) :
    Calls Tryz.prog 119 #[.map (some b)] w fun e w' => ∃ b', e = .returned (.map (some b')) ∧ ob w' b' = some o ∧ b' = w.heap.size ∧ Below w.heap.size w w' := by
  obtain ⟨es, clock, rfl, _⟩ := ho
  have hcon := AnyW.maps_Clone layCloneA b es clock w hb
  change Calls Tryz.prog 119 _ _ _ at hcon
  refine hcon.mono ?_
  rintro e w' ⟨rfl, rfl⟩
  exact ⟨_, rfl, ob_alloc_at _ _, rfl, ((Chg.refl (fun _ => False) w).alloc _).below⟩
theorem CloneI_calls {b : Nat} {o : Obj} {f : Int → Option Value} (hb : ob w b = some o) (ho : MapObj o f) :
    Calls Tryz.prog 71 #[.map (some b)] w fun e w' => ∃ b', e = .returned (.map (some b')) ∧ ob w' b' = some o ∧ b' = w.heap.size ∧ Below w.heap.size w w' := by
  obtain ⟨es, clock, rfl, _⟩ := ho
  have hcon := AnyW.maps_Clone layCloneI b es clock w hb
  change Calls Tryz.prog 71 _ _ _ at hcon
  refine hcon.mono ?_
  rintro e w' ⟨rfl, rfl⟩
  exact ⟨_, rfl, ob_alloc_at _ _, rfl, ((Chg.refl (fun _ => False) w).alloc _).below⟩
theorem CloneO_calls {b : Nat} {o : Obj} {f : Int → Option Value} (hb : ob w b = some o) (ho : MapObj o f) :
    Calls Tryz.prog 70 #[.map (some b)] w fun e w' => ∃ b', e = .returned (.map (some b')) ∧ ob w' b' = some o ∧ b' = w.heap.size ∧ Below w.heap.size w w' := by
  obtain ⟨es, clock, rfl, _⟩ := ho
  have hcon := AnyW.maps_Clone layCloneO b es clock w hb
  change Calls Tryz.prog 70 _ _ _ at hcon
  refine hcon.mono ?_
  rintro e w' ⟨rfl, rfl⟩
  exact ⟨_, rfl, ob_alloc_at _ _, rfl, ((Chg.refl (fun _ => False) w).alloc _).below⟩

set_option maxHeartbeats 4000000 in
set_option maxRecDepth 20000 in
theorem TCopy_calls (h : TableAt w p ab xb t) :
    Calls Tryz.prog 68 #[.pointer (some ⟨p, 0, none⟩)] w fun e w' => ∃ p' ab' xb', e = .returned (.pointer (some ⟨p', 0, none⟩)) ∧ TableAt w' p' ab' xb' t ∧ (w.heap.size ≤ p' ∧ w.heap.size ≤ ab' ∧ w.heap.size ≤ xb') ∧ Below w.heap.size w w' := by
  have c0 : w.cell? ⟨p, 0, none⟩ = some (.map (some ab)) := cell_ob h.at_ 0
  have c1 : w.cell? ⟨p, 1, none⟩ = some (.map (some xb)) := cell_ob h.at_ 1
  obtain ⟨o, f, hm, hmo, ha⟩ := h.act
  obtain ⟨o2, f2, hm2, hmo2, ha2⟩ := h.over
  have H := Lib.hid h
  have HM := Lib.hid (And.intro hm hmo)
  have HM2 := Lib.hid (And.intro hm2 hmo2)
  have HA := Lib.hid ha
  have HA2 := Lib.hid ha2
  have hS := And.intro c0 c1
  clear h hm hmo ha hm2 hmo2 ha2
  go_enter Tryz.func68, Tryz.ntmps68
  go_wp2_with fail
  go_region_held3 (fun W => W.cell? ⟨p, 0, none⟩ = some (.map (some ab)) ∧ W.cell? ⟨p, 1, none⟩ = some (.map (some xb))) (first | assumption | (exact ⟨(Chg.cell (S := fun _ => False) (by repeat (first | with_reducible exact Chg.refl _ _ | with_reducible exact chg0 | with_reducible refine Chg.drewN ?_ _ | with_reducible refine Chg.drew ?_ | with_reducible refine Chg.alloc ?_ _ | with_reducible refine Chg.setCell ?_ _ _ (by first | (simp; done) | omega | (simp; omega)) | with_reducible refine Chg.setBlock ?_ _ _ (by first | (simp; done) | omega | (simp; omega)) | exact Chg.refl _ _)) hS.1 (fun h => h)), (Chg.cell (S := fun _ => False) (by repeat (first | with_reducible exact Chg.refl _ _ | with_reducible exact chg0 | with_reducible refine Chg.drewN ?_ _ | with_reducible refine Chg.drew ?_ | with_reducible refine Chg.alloc ?_ _ | with_reducible refine Chg.setCell ?_ _ _ (by first | (simp; done) | omega | (simp; omega)) | with_reducible refine Chg.setBlock ?_ _ _ (by first | (simp; done) | omega | (simp; omega)) | exact Chg.refl _ _)) hS.2 (fun h => h))⟩) | fail) (first
    | (have hQ := HB; go_at_call 119; refine (CloneA_calls (o := o) (f := f) (Chg.ob (S := fun _ => False) (w := w) ((Chg.of_below HB.out.2.2).trans (S' := fun _ => False) (by repeat (first | with_reducible exact Chg.refl _ _ | with_reducible exact chg0 | with_reducible refine Chg.drewN ?_ _ | with_reducible refine Chg.drew ?_ | with_reducible refine Chg.alloc ?_ _ | with_reducible refine Chg.setCell ?_ _ _ (by first | (simp; done) | omega | (simp; omega)) | with_reducible refine Chg.setBlock ?_ _ _ (by first | (simp; done) | omega | (simp; omega)) | exact Chg.refl _ _)) (fun _ _ h => h)) HM.out.1 (fun h => h)) HM.out.2).mono ?_; rintro e wb ⟨ab', rfl, hma, hea, hbb⟩; have hbb' := below_trans (Chg.below (w := wa) (by repeat (first | with_reducible exact Chg.refl _ _ | with_reducible exact chg0 | with_reducible refine Chg.drewN ?_ _ | with_reducible refine Chg.drew ?_ | with_reducible refine Chg.alloc ?_ _ | with_reducible refine Chg.setCell ?_ _ _ (by first | (simp; done) | omega | (simp; omega)) | with_reducible refine Chg.setBlock ?_ _ _ (by first | (simp; done) | omega | (simp; omega)) | exact Chg.refl _ _))) hbb; have HZ := Lib.hid (show ob wb ab' = some o ∧ ob wb xb' = some o2 ∧ w.heap.size ≤ ab' ∧ w.heap.size ≤ xb' ∧ ab' ≠ xb' ∧ Below w.heap.size w wb from ⟨hma, ob_step hbb' HB.out.1, (by rw [hea]; exact HB.out.2.2.size), HB.out.2.1, (fun e => absurd (ob_lt HB.out.1) (by rw [← e, hea]; exact Nat.lt_irrefl _)), below_trans HB.out.2.2 hbb'⟩); have hS' := And.intro ((Chg.of_below (S := fun _ => False) hbb').cell hS.1 (fun h => h)) ((Chg.of_below (S := fun _ => False) hbb').cell hS.2 (fun h => h)); clear hS; have hS := hS'; clear hea)
    | (have hQ := HC; go_at_call 71; refine (CloneI_calls (o := o2) (f := f2) (Chg.ob (S := fun _ => False) (w := w) ((Chg.of_below HC.out.2.2).trans (S' := fun _ => False) (by repeat (first | with_reducible exact Chg.refl _ _ | with_reducible exact chg0 | with_reducible refine Chg.drewN ?_ _ | with_reducible refine Chg.drew ?_ | with_reducible refine Chg.alloc ?_ _ | with_reducible refine Chg.setCell ?_ _ _ (by first | (simp; done) | omega | (simp; omega)) | with_reducible refine Chg.setBlock ?_ _ _ (by first | (simp; done) | omega | (simp; omega)) | exact Chg.refl _ _)) (fun _ _ h => h)) HM2.out.1 (fun h => h)) HM2.out.2).mono ?_; rintro e wb ⟨xb', rfl, hmx, hex, hbb⟩; have hbb' := below_trans (Chg.below (w := wa) (by repeat (first | with_reducible exact Chg.refl _ _ | with_reducible exact chg0 | with_reducible refine Chg.drewN ?_ _ | with_reducible refine Chg.drew ?_ | with_reducible refine Chg.alloc ?_ _ | with_reducible refine Chg.setCell ?_ _ _ (by first | (simp; done) | omega | (simp; omega)) | with_reducible refine Chg.setBlock ?_ _ _ (by first | (simp; done) | omega | (simp; omega)) | exact Chg.refl _ _))) hbb; have HZ := Lib.hid (show ob wb ab' = some o ∧ ob wb xb' = some o2 ∧ w.heap.size ≤ ab' ∧ w.heap.size ≤ xb' ∧ ab' ≠ xb' ∧ Below w.heap.size w wb from ⟨ob_step hbb' HC.out.1, hmx, HC.out.2.1, (by rw [hex]; exact HC.out.2.2.size), (fun e => absurd (ob_lt HC.out.1) (by rw [e, hex]; exact Nat.lt_irrefl _)), below_trans HC.out.2.2 hbb'⟩); have hS' := And.intro ((Chg.of_below (S := fun _ => False) hbb').cell hS.1 (fun h => h)) ((Chg.of_below (S := fun _ => False) hbb').cell hS.2 (fun h => h)); clear hS; have hS := hS'; clear hex)
    | (go_at_call 119; refine (CloneA_calls (o := o) (f := f) (Chg.ob (S := fun _ => False) (w := w) (by repeat (first | with_reducible exact Chg.refl _ _ | with_reducible exact chg0 | with_reducible refine Chg.drewN ?_ _ | with_reducible refine Chg.drew ?_ | with_reducible refine Chg.alloc ?_ _ | with_reducible refine Chg.setCell ?_ _ _ (by first | (simp; done) | omega | (simp; omega)) | with_reducible refine Chg.setBlock ?_ _ _ (by first | (simp; done) | omega | (simp; omega)) | exact Chg.refl _ _)) HM.out.1 (fun h => h)) HM.out.2).mono ?_; rintro e wa ⟨ab', rfl, hma, hea, hba⟩; have hba' := below_trans (Chg.below (w := w) (by repeat (first | with_reducible exact Chg.refl _ _ | with_reducible exact chg0 | with_reducible refine Chg.drewN ?_ _ | with_reducible refine Chg.drew ?_ | with_reducible refine Chg.alloc ?_ _ | with_reducible refine Chg.setCell ?_ _ _ (by first | (simp; done) | omega | (simp; omega)) | with_reducible refine Chg.setBlock ?_ _ _ (by first | (simp; done) | omega | (simp; omega)) | exact Chg.refl _ _))) hba; have HC := Lib.hid (show ob wa ab' = some o ∧ w.heap.size ≤ ab' ∧ Below w.heap.size w wa from ⟨hma, (by rw [hea]; exact Nat.le_refl _), hba'⟩); have hS' := And.intro ((Chg.of_below (S := fun _ => False) hba').cell hS.1 (fun h => h)) ((Chg.of_below (S := fun _ => False) hba').cell hS.2 (fun h => h)); clear hS; have hS := hS'; clear hma hba hea)
    | (go_at_call 71; refine (CloneI_calls (o := o2) (f := f2) (Chg.ob (S := fun _ => False) (w := w) (by repeat (first | with_reducible exact Chg.refl _ _ | with_reducible exact chg0 | with_reducible refine Chg.drewN ?_ _ | with_reducible refine Chg.drew ?_ | with_reducible refine Chg.alloc ?_ _ | with_reducible refine Chg.setCell ?_ _ _ (by first | (simp; done) | omega | (simp; omega)) | with_reducible refine Chg.setBlock ?_ _ _ (by first | (simp; done) | omega | (simp; omega)) | exact Chg.refl _ _)) HM2.out.1 (fun h => h)) HM2.out.2).mono ?_; rintro e wa ⟨xb', rfl, hmx, hex, hba⟩; have hba' := below_trans (Chg.below (w := w) (by repeat (first | with_reducible exact Chg.refl _ _ | with_reducible exact chg0 | with_reducible refine Chg.drewN ?_ _ | with_reducible refine Chg.drew ?_ | with_reducible refine Chg.alloc ?_ _ | with_reducible refine Chg.setCell ?_ _ _ (by first | (simp; done) | omega | (simp; omega)) | with_reducible refine Chg.setBlock ?_ _ _ (by first | (simp; done) | omega | (simp; omega)) | exact Chg.refl _ _))) hba; have HB := Lib.hid (show ob wa xb' = some o2 ∧ w.heap.size ≤ xb' ∧ Below w.heap.size w wa from ⟨hmx, (by rw [hex]; exact Nat.le_refl _), hba'⟩); have hS' := And.intro ((Chg.of_below (S := fun _ => False) hba').cell hS.1 (fun h => h)) ((Chg.of_below (S := fun _ => False) hba').cell hS.2 (fun h => h)); clear hS; have hS := hS'; clear hmx hba hex)
    | fail)
  all_goals
    go_wp2_with fail
    go_ret
    obtain ⟨z1, z2, z3, z4, z5, z6⟩ := HZ.out
    have hsz := z6.size
    refine ⟨wb.heap.size, ab', xb', rfl, ⟨?_, ⟨o, f, Chg.ob (S := fun _ => False) (w := wb) (by repeat (first | with_reducible exact Chg.refl _ _ | with_reducible exact chg0 | with_reducible refine Chg.drewN ?_ _ | with_reducible refine Chg.drew ?_ | with_reducible refine Chg.alloc ?_ _ | with_reducible refine Chg.setCell ?_ _ _ (by first | (simp; done) | omega | (simp; omega)) | with_reducible refine Chg.setBlock ?_ _ _ (by first | (simp; done) | omega | (simp; omega)) | exact Chg.refl _ _)) z1 (fun h => h), HM.out.2, HA.out⟩, ⟨o2, f2, Chg.ob (S := fun _ => False) (w := wb) (by repeat (first | with_reducible exact Chg.refl _ _ | with_reducible exact chg0 | with_reducible refine Chg.drewN ?_ _ | with_reducible refine Chg.drew ?_ | with_reducible refine Chg.alloc ?_ _ | with_reducible refine Chg.setCell ?_ _ _ (by first | (simp; done) | omega | (simp; omega)) | with_reducible refine Chg.setBlock ?_ _ _ (by first | (simp; done) | omega | (simp; omega)) | exact Chg.refl _ _)) z2 (fun h => h), HM2.out.2, HA2.out⟩, H.out.ok, z5⟩, ⟨hsz, z3, z4⟩, below_trans z6 (Chg.below (by repeat (first | with_reducible exact Chg.refl _ _ | with_reducible exact chg0 | with_reducible refine Chg.drewN ?_ _ | with_reducible refine Chg.drew ?_ | with_reducible refine Chg.alloc ?_ _ | with_reducible refine Chg.setCell ?_ _ _ (by first | (simp; done) | omega | (simp; omega)) | with_reducible refine Chg.setBlock ?_ _ _ (by first | (simp; done) | omega | (simp; omega)) | exact Chg.refl _ _)))⟩
    simp [go_sem]
end
end Go.Proofs.YtchlioikkhnidaaGreat

/-
  The program's table: List, by sorted keys of a map.
-/
namespace Go.Proofs.YtchlioikkhnidaaGreat
open Go.RowKit Go.Sort Go.ChangeShapes Go.WideShapes Go.ChangeAt Go.Shelf Go.Maps
open Go.ChangeMaps (setBlock)
set_option linter.unusedVariables false
set_option linter.unusedSimpArgs false

def keys64 (f : Int → Option Value) : List Int := ((List.range 64).map Int.ofNat).filter fun k => (f k).isSome
theorem keys64_mem {f : Int → Option Value} (h : ∀ k, (f k).isSome = true → 0 ≤ k ∧ k < 64) (k : Int) : k ∈ keys64 f ↔ (f k).isSome = true := by
  unfold keys64
  rw [List.mem_filter, List.mem_map]
  constructor
  · exact fun h => h.2
  · intro hk
    obtain ⟨h1, h2⟩ := h k hk
    exact ⟨⟨k.toNat, by simp; omega, by simp; omega⟩, hk⟩
theorem range64_strict : List.Pairwise (fun a b : Int => a < b) ((List.range 64).map Int.ofNat) := by
  rw [List.pairwise_map]
  exact List.pairwise_lt_range.imp fun h => by simpa using h
theorem keys64_strict (f : Int → Option Value) : List.Pairwise (fun a b : Int => a < b) (keys64 f) := range64_strict.filter _
theorem keys64_len (f : Int → Option Value) : (keys64 f).length ≤ 64 := by
  unfold keys64
  refine Nat.le_trans (List.length_filter_le _ _) ?_
  simp

def rTriv (_ : Value) : Option (DataW Unit × List MemPlace) := some (.lit (.bool true), [])
theorem own_of {w : World} {b : Nat} {o : Obj} {f : Int → Option Value} (hb : ob w b = some o) (ho : MapObj o f) (hk : ∀ k, (f k).isSome = true → 0 ≤ k ∧ k < 64) :
    ∃ D : DataW Unit, w.ownsMap Tryz.prog 3 rTriv b 64 D ∧ Maps.size D ≤ 64 ∧ ∀ ss : List Int, ss.Perm (intKeys D) → keys64 f = ss.mergeSort fun x y => decide (x ≤ y) := by
  obtain ⟨es, clock, rfl, hs, hkeys, hf⟩ := ho
  have hkey : ∀ x ∈ es.toList, ∃ k : Int, x.key = .int .i64 k ∧ f k = some x.val ∧ 0 ≤ k ∧ k < 64 := fun x hx => by
    obtain ⟨k, e⟩ := hkeys x hx
    have h1 : f k = some x.val := (hf k x.val).2 ⟨x, hx, e, rfl⟩
    exact ⟨k, e, h1, hk k (by rw [h1]; rfl)⟩
  let kI : MapEntry → Int := fun x => match x.key with | .int _ k => k | _ => 0
  have hkI : ∀ x ∈ es.toList, x.key = .int .i64 (kI x) := fun x hx => by
    obtain ⟨k, e, _⟩ := hkey x hx
    show x.key = .int .i64 (match x.key with | .int _ k => k | _ => 0)
    rw [e]
  have hnd : (es.toList.map kI).Nodup := by
    have h1 := hs.2.2
    rw [List.Nodup, List.pairwise_map] at h1 ⊢
    refine h1.imp_of_mem fun {a b} ha hb hne e => hne ?_
    rw [hkI a ha, hkI b hb, e]
  have hmem : ∀ k, k ∈ es.toList.map kI ↔ (f k).isSome = true := fun k => by
    rw [List.mem_map]
    constructor
    · rintro ⟨x, hx, rfl⟩
      rw [(hf (kI x) x.val).2 ⟨x, hx, hkI x hx, rfl⟩]; rfl
    · intro h
      obtain ⟨v, hv⟩ := Option.isSome_iff_exists.1 h
      obtain ⟨x, hx, e, _⟩ := (hf k v).1 hv
      have := hkI x hx
      rw [e] at this
      injection this with _ h2
      exact ⟨x, hx, h2.symm⟩
  have hsz : es.size ≤ 64 := by
    have h1 := nodup_sub_length (es.toList.map kI) ((List.range 64).map Int.ofNat) hnd fun x hx => by
      obtain ⟨h1, h2⟩ := hk x ((hmem x).1 hx)
      exact List.mem_map.2 ⟨x.toNat, by simp; omega, by simp; omega⟩
    simpa using h1
  have hread : ∀ x ∈ es.toList, Go.WideElems.rd Tryz.prog 3 rTriv x = some (.int .i64 (kI x), .lit (.bool true)) := fun x hx => by
    obtain ⟨k, e, _, h0, h1⟩ := hkey x hx
    have e2 : kI x = k := by
      have := hkI x hx
      rw [e] at this
      injection this with _ h2
      exact h2.symm
    have hw : keyOf Tryz.prog 3 x.key = some (.int .i64 (kI x)) := by
      rw [e, e2]
      have hwf : (Lit.int .i64 k).wf = true := by
        simp [Lit.wf, IntKind.min, IntKind.max, IntKind.signed, IntKind.bits]
        omega
      simp [keyOf, Tryz.underlying3, mapKey, hwf]
    exact Go.WideElems.rd_mk (born := x.born) hw (rfl : rTriv x.val = some (.lit (.bool true), []))
  have hrg : es.toList.map (Go.WideElems.rg Tryz.prog 3 rTriv) = es.toList.map fun x => (.int .i64 (kI x), .lit (.bool true)) :=
    List.map_congr_left fun x hx => Go.WideElems.rg_of (hread x hx)
  refine ⟨_, ⟨es, clock, hb, ⟨by unfold maxLen; omega, hs, fun x hx => ⟨_, hread x hx⟩⟩, hsz, rfl⟩, ?_, fun ss hp => ?_⟩
  · show ((es.toList.map (Go.WideElems.rg Tryz.prog 3 rTriv)).foldr DataW.insert []).length ≤ 64
    rw [(Go.WideShapes.sorted_perm _).length_eq]
    simpa using hsz
  · have hk2 : (intKeys (H := Unit) (.map ((es.toList.map (Go.WideElems.rg Tryz.prog 3 rTriv)).foldr DataW.insert []))).Perm (es.toList.map kI) := by
      show (((es.toList.map (Go.WideElems.rg Tryz.prog 3 rTriv)).foldr DataW.insert []).map fun p => Go.intOf p.1).Perm _
      refine ((Go.WideShapes.sorted_perm _).map _).trans ?_
      rw [hrg, List.map_map]
      exact List.Perm.refl _
    refine sort_unique ?_ ((keys64_strict f).imp fun h => by omega)
    refine List.Perm.trans ?_ (hp.trans hk2).symm
    refine (List.perm_ext_iff_of_nodup ((keys64_strict f).imp fun h => by omega) hnd).2 fun x => ?_
    rw [keys64_mem hk, hmem]

theorem sortsG (m : Nat) : AnyZI.SortsIn Tryz.prog laySorted_ren Fence.wide m :=
  ⟨fun blk off cap ss W hH hblk hsz => callsIn_wide.2 (AnyM.slices_Sort_int laySortG blk off cap ss W hH hblk hsz),
   fun p cap W => callsIn_wide.2 (AnyM.slices_Sort_int_none laySortG p cap W)⟩
theorem Keys_calls (b : Nat) (w : World) : Calls Tryz.prog 98 #[.map (some b)] w fun e w' => e = .returned (.func (.func 136) #[] #[.pointer (some ⟨w.heap.size, 0, none⟩)]) ∧ w' = w.alloc (.cells #[.map (some b)] 177) :=
  (callsIn_wide (n := 5)).1 (AnyZI.keys_in layKeys Fence.wide 5 trivial rfl (some b) w)
set_option maxHeartbeats 1000000 in
theorem Sorted_calls {w : World} {Bm b : Nat} {o : Obj} {f : Int → Option Value} (hc : w.cell? ⟨Bm, 0, none⟩ = some (.map (some b))) (hb : ob w b = some o) (ho : MapObj o f) (hk : ∀ k, (f k).isSome = true → 0 ≤ k ∧ k < 64) :
    Calls Tryz.prog 97 #[.func (.func 136) #[] #[.pointer (some ⟨Bm, 0, none⟩)]] w fun e w' =>
      ∃ v, e = .returned v ∧ OwnSl w' 3 1 v (ints (keys64 f)) ∧ (∀ j, v.ownBlock = some j → w.heap.size ≤ j) ∧ Below w.heap.size w w' := by
  obtain ⟨D, hown, hsz, hperm⟩ := own_of hb ho hk
  have hBm : Bm < w.heap.size := World.block_lt_of_cell? w _ hc
  have hseq : SeqGives Fence.wide 2 Tryz.prog 136 #[.pointer (some ⟨Bm, 0, none⟩)] encZ (fun ss => ss.Perm (intKeys D)) (Maps.size D) w :=
    AnyZI.keys_gives (ρ := layKeys_ren) { layKeys with } Fence.wide _ trivial rfl (by omega) Bm b 64 D w hBm hc hown
  have cS := AnyZI.sorted_in laySorted Fence.wide 5 trivial trivial trivial trivial rfl (by omega) (sortsG _) (enters_of Tryz.func134 (by kernel_rfl) rfl) 136 #[.pointer (some ⟨Bm, 0, none⟩)] trivial (enters_of Tryz.func136 (by kernel_rfl) rfl) _ _ (by unfold maxLen; omega) (by omega) w hseq
  change CallsIn _ _ Tryz.prog 97 _ _ _ at cS
  refine ((callsIn_wide (n := 5)).1 cS).mono ?_
  rintro e w' ⟨v, ss, rfl, hS, hrow, hnil, hbel⟩
  have hl := hperm ss hS
  have hlen : ss.length = (keys64 f).length := by rw [hl]; exact (List.mergeSort_perm _ _).length_eq.symm
  refine ⟨v, rfl, ⟨?_, ints_ok _⟩, fun j hj => ?_, hbel⟩
  · rw [ints_flat, ints_length, hl]
    have h1 := ownsRow_base_a hrow (Nat.zero_le _)
    rw [← (List.mergeSort_perm ss (fun x y => decide (x ≤ y))).length_eq] at h1
    exact h1
  · rcases hrow.2 with ⟨rfl, _⟩ | ⟨g, cap, cur, rfl, hbase, _⟩
    · cases hj
    · simp only [Value.ownBlock, Option.some.injEq] at hj
      subst hj; exact hbase

section
variable {w w' : World} {p ab xb : Nat} {t : Table}
theorem list_keys {t : Table} {f : Int → Option Value} (ha : ActMap t.act f) : t.list = (keys64 f).map t.act := by
  unfold Table.list keys64
  congr 2
  funext k
  exact (ActMap.some ha k).symm
theorem table_keys {t : Table} {f : Int → Option Value} (ha : ActMap t.act f) (ok : t.Ok) : ∀ k, (f k).isSome = true → 0 ≤ k ∧ k < 64 := fun k hk => by
  rw [ActMap.some ha, Table.on, decide_eq_true_eq] at hk
  exact (ok.block k hk).2
set_option maxHeartbeats 4000000 in
set_option maxRecDepth 20000 in
theorem TList_calls (h : TableAt w p ab xb t) : Calls Tryz.prog 42 #[.pointer (some ⟨p, 0, none⟩)] w fun e w' => ∃ v, e = .returned v ∧ OwnSl w' 124 3 v (t.list.map Active.cells) ∧ (∀ j, v.ownBlock = some j → w.heap.size ≤ j) ∧ Below w.heap.size w w' := by
  have k0 : w.cell? ⟨p, 0, none⟩ = some (.map (some ab)) := cell_ob h.at_ 0
  obtain ⟨lp', lt', _⟩ := h.lt
  obtain ⟨o, f, hm0, hmo, ha⟩ := h.act
  have hks := table_keys ha h.ok
  have hlk : ∀ (b : Int) (W : World), ob W ab = some o → (Instr.lookup 177 (.map (some ab)) (.int .i64 b) false).run Tryz.prog W = .ok (t.act b).val W := fun b W hW => by
    rw [hmo.lookup tyIA b _ W hW, ha.get h.ok]
  have hfew := keys64_len f
  have hlist := list_keys ha
  obtain ⟨L, hL⟩ : ∃ L, L = keys64 f := ⟨_, rfl⟩
  have HKS := Lib.hid hks
  have HMO := Lib.hid hmo
  rw [← hL] at hlist hfew
  have HLL := Lib.hid hL
  have HA := Lib.hid hlist
  simp only [Active.val, Active.cells] at hlk
  clear h hmo ha hks hL hlist
  go_enter Tryz.func42, Tryz.ntmps42
  go_wp2_with fail
  refine (Keys_calls ab _).mono ?_
  rintro e w1 ⟨rfl, rfl⟩
  go_wp2_with fail
  refine (Sorted_calls (b := ab) (o := o) (f := f) (by simp [go_sem]) (by simp [go_sem, hm0, lt']) HMO.out HKS.out).mono ?_
  rintro e w2 ⟨u, rfl, hu, hul, hb2⟩
  rw [← HLL.out] at hu
  obtain ⟨A4, cap4, e4⟩ := hu.form
  rw [ints_length] at e4
  subst e4
  have hb : Below w.heap.size w w2 := below_trans (Chg.below (by repeat (first | with_reducible exact Chg.refl _ _ | with_reducible exact chg0 | with_reducible refine Chg.drewN ?_ _ | with_reducible refine Chg.drew ?_ | with_reducible refine Chg.alloc ?_ _ | with_reducible refine Chg.setCell ?_ _ _ (by first | (simp; done) | omega | (simp; omega)) | with_reducible refine Chg.setBlock ?_ _ _ (by first | (simp; done) | omega | (simp; omega)) | exact Chg.refl _ _))) hb2
  have HU := Lib.hid hu
  have HB := Lib.hid hb
  have HUL := Lib.hid hul
  clear hu hb hb2 hul
  go_wp2_with fail
  go_loopw [3, 13] (fun v i wr => ∃ k : Nat, k ≤ L.length ∧ i = .int .i64 k ∧ OwnSl wr 124 3 v (((L.take k).map t.act).map Active.cells) ∧ (∀ j, v.ownBlock = some j → w2.heap.size ≤ j) ∧ Below w2.heap.size w2 wr) (fun _ i _ => L.length - (intOf i).toNat)
  case atStart => exact ⟨0, Nat.zero_le _, rfl, OwnSl.nil, fun j hj => by simp [Value.ownBlock] at hj, Chg.below (by repeat (first | with_reducible exact Chg.refl _ _ | with_reducible exact chg0 | with_reducible refine Chg.drewN ?_ _ | with_reducible refine Chg.drew ?_ | with_reducible refine Chg.alloc ?_ _ | with_reducible refine Chg.setCell ?_ _ _ (by first | (simp; done) | omega | (simp; omega)) | with_reducible refine Chg.setBlock ?_ _ _ (by first | (simp; done) | omega | (simp; omega)) | exact Chg.refl _ _))⟩
  case round =>
    obtain ⟨k, hk, rfl, hown, hlo, hbr⟩ := hrel
    have Hown := Lib.hid hown
    have Hlo := Lib.hid hlo
    have Hbr := Lib.hid hbr
    have sr := hbr.size
    have sw := HB.out.size
    clear hown hlo
    by_cases hlt : k < L.length
    · obtain ⟨A', cap', e', t1, t2, t3⟩ := sliceInts (HU.out.slice.below hbr)
      cases e'
      obtain ⟨bb, off, rfl, hc⟩ := t3 (by omega)
      have hc2 := hc k hlt
      obtain ⟨x, hx⟩ : ∃ x, x = L.getD k 0 := ⟨_, rfl⟩
      rw [← hx] at hc2
      have htake : L.take (k + 1) = L.take k ++ [x] := by rw [hx, List.take_add_one, List.getD_eq_getElem?_getD, List.getElem?_eq_getElem hlt]; rfl
      have HTk := Lib.hid htake
      have ltk : (L.take k).length ≤ 64 := by rw [List.length_take]; omega
      have y1 : wr.cell? ⟨p, 0, none⟩ = some (.map (some ab)) := by rw [(below_trans HB.out hbr).cell lp']; exact k0
      have y2 : ob wr ab = some o := (Chg.of_below (S := fun _ => False) (below_trans HB.out hbr)).ob hm0 (fun h => h)
      have lpr : p < wr.heap.size := by omega
      have ltr : ab < wr.heap.size := by omega
      clear hc hx htake t1 t2 t3 hbr
      go_wp2_with (at_builtin; refine wpList_append_sl (xs := ((L.take k).map t.act).map Active.cells) (ys := [(t.act x).cells]) rfl _ _ rfl tyActives rfl rfl (Hown.out.chg (S := fun _ => False) (by repeat (first | with_reducible exact Chg.refl _ _ | with_reducible exact chg0 | with_reducible refine Chg.drewN ?_ _ | with_reducible refine Chg.drew ?_ | with_reducible refine Chg.alloc ?_ _ | with_reducible refine Chg.setCell ?_ _ _ (by first | (simp; done) | omega | (simp; omega)) | with_reducible refine Chg.setBlock ?_ _ _ (by first | (simp; done) | omega | (simp; omega)) | exact Chg.refl _ _)) (fun _ _ h => h)) (OwnSl.made (e := 124) (ob_alloc_new _ _ _ rfl) (actives_ok [t.act x]) rfl (by simp)).slice (actives_ok [t.act x]) (by simp only [List.length_map, List.length_singleton]; omega) ?_; intro v5 w5 ho hc5 hloc)
      have hcc : Chg (fun j => u3.ownBlock = some j) wr w5 := Chg.trans (S' := fun j => u3.ownBlock = some j) (by repeat (first | with_reducible exact Chg.refl _ _ | with_reducible exact chg0 | with_reducible refine Chg.drewN ?_ _ | with_reducible refine Chg.drew ?_ | with_reducible refine Chg.alloc ?_ _ | with_reducible refine Chg.setCell ?_ _ _ (by first | (simp; done) | omega | (simp; omega)) | with_reducible refine Chg.setBlock ?_ _ _ (by first | (simp; done) | omega | (simp; omega)) | exact Chg.refl _ _)) hc5 (fun _ _ h => h)
      refine ⟨⟨k + 1, by omega, by go_num, by rw [HTk.out, List.map_append, List.map_append]; exact ho, ?_, below_chg Hbr.out hcc (fun j hj e => by have := Hlo.out j e; omega)⟩, by simp [intOf]; omega⟩
      intro j hj
      rcases hloc with h | h
      · rw [h] at hj; exact Hlo.out j hj
      · rw [h] at hj; injection hj with hj; rw [← hj]; simp; omega
    · have htk : L.take k = L := List.take_of_length_le (by omega)
      rw [htk] at Hown
      go_wp2_with fail
      go_ret
      exact ⟨_, rfl, by rw [HA.out]; exact Hown.out, fun j hj => Nat.le_trans sw (Hlo.out j hj), below_trans HB.out Hbr.out⟩
end
end Go.Proofs.YtchlioikkhnidaaGreat

/-
  Advice: what the program's calls come to.
-/
namespace Go.Proofs.YtchlioikkhnidaaGreat
open Go.RowKit Go.Sort Go.ChangeShapes Go.WideShapes Go.ChangeAt
open Go.ChangeMaps (setBlock)
set_option linter.unusedVariables false
set_option linter.unusedSimpArgs false

theorem targets_step (c : Config) (self : Int) (d : Draws) (k : Nat) :
    (((List.range (k + 1)).map Int.ofNat).filter fun n => asked c d n && decide (n ≠ self)) =
      (((List.range k).map Int.ofNat).filter fun n => asked c d n && decide (n ≠ self)) ++ if asked c d k && decide ((k : Int) ≠ self) then [(k : Int)] else [] := by
  rw [List.range_succ, List.map_append, List.filter_append]
  congr 1
  simp only [List.map_cons, List.map_nil, List.filter_cons, List.filter_nil]
  rfl

set_option maxHeartbeats 8000000 in
set_option maxRecDepth 20000 in
theorem Targets_calls (c : Config) (self : Int) (d : Draws) (w : World) (hn0 : 0 ≤ c.nodes) (hn : c.nodes ≤ 64) :
    Calls Tryz.prog 81 #[c.val, .int .i64 self, d.val] w fun e w' => ∃ v, e = .returned v ∧ OwnSl w' 3 1 v (ints (targets c self d)) ∧ (∀ j, v.ownBlock = some j → w.heap.size ≤ j) ∧ Below w.heap.size w w' := by
  obtain ⟨M, hM⟩ := Int.eq_ofNat_of_zero_le hn0
  have HM := Lib.hid hM
  have hM64 : M ≤ 64 := by omega
  have hAD : ∀ n, asked c d n = (decide (c.policy = 1) || (decide (c.policy = 2) && bitI (d.at (n / 64)) (n % 64))) := fun n => rfl
  have HAD := Lib.hid hAD
  have hdec : decide (64 < c.nodes) = false := by simpa using hn
  clear hM hAD
  simp only [Config.val, Config.cells, Draws.val, Draws.cells]
  go_enter Tryz.func81, Tryz.ntmps81
  go_wp2_with fail
  go_loopw [7, 8] (fun v i wr => ∃ k : Nat, k ≤ M + 1 ∧ i = .int .i64 k ∧ OwnSl wr 3 1 v (ints (((List.range k).map Int.ofNat).filter fun n => asked c d n && decide (n ≠ self))) ∧ (∀ j, v.ownBlock = some j → w.heap.size + 2 ≤ j) ∧
      ob wr w.heap.size = some (.cells #[.int .i64 c.nodes, .int .i64 c.blocks, .int .i64 c.tokens, .int .i64 c.sets, .int .i64 c.ways, .int .i64 c.cap, .int .i64 c.wait, .int .i64 c.tries, .int .i64 c.policy] 23 (0, 0)) ∧
      ob wr (w.heap.size + 1) = some (.cells #[.int .i64 d.d0, .int .i64 d.d1, .int .i64 d.d2] 39 (0, 0)) ∧ Below w.heap.size w wr) (fun _ i _ => M + 1 - (intOf i).toNat)
  case atStart => exact ⟨0, Nat.zero_le _, rfl, OwnSl.nil, fun j hj => by simp [Value.ownBlock] at hj, by rw [ob_alloc_past _ _ _ (by simp), ob_alloc_at], ob_alloc_new _ _ _ (by simp), Chg.below (by repeat (first | with_reducible exact Chg.refl _ _ | with_reducible exact chg0 | with_reducible refine Chg.drewN ?_ _ | with_reducible refine Chg.drew ?_ | with_reducible refine Chg.alloc ?_ _ | with_reducible refine Chg.setCell ?_ _ _ (by first | (simp; done) | omega | (simp; omega)) | with_reducible refine Chg.setBlock ?_ _ _ (by first | (simp; done) | omega | (simp; omega)) | exact Chg.refl _ _))⟩
  case round =>
    obtain ⟨k, hk, rfl, hown, hlo, ho0, ho1, hbr⟩ := hrel
    have Hown := Lib.hid hown
    have Hlo := Lib.hid hlo
    have Hbr := Lib.hid hbr
    have HO := Lib.hid (And.intro ho0 ho1)
    have k0 : wr.cell? ⟨w.heap.size, 0, none⟩ = some (.int .i64 c.nodes) := cell_ob ho0 0
    have k8 : wr.cell? ⟨w.heap.size, 8, none⟩ = some (.int .i64 c.policy) := cell_ob ho0 8
    have m0 : wr.cell? ⟨w.heap.size + 1, 0, none⟩ = some (.int .i64 d.d0) := cell_ob ho1 0
    have m1 : wr.cell? ⟨w.heap.size + 1, 1, none⟩ = some (.int .i64 d.d1) := cell_ob ho1 1
    have l1 := ob_lt ho1
    have l0 := ob_lt ho0
    clear hown hlo hbr ho0 ho1
    have hstep := targets_step c self d k
    have HST := Lib.hid hstep
    have hlen : (((List.range k).map Int.ofNat).filter fun n => asked c d n && decide (n ≠ self)).length ≤ 65 := by
      refine Nat.le_trans (List.length_filter_le _ _) ?_
      simp; omega
    have htg : k = M + 1 → targets c self d = (((List.range k).map Int.ofNat).filter fun n => asked c d n && decide (n ≠ self)) := fun e => by
      unfold targets
      rw [HM.out, show ((M : Int) + 1).toNat = k by omega]
    have HTG := Lib.hid htg
    clear htg
    generalize (((List.range k).map Int.ofNat).filter fun n => asked c d n && decide (n ≠ self)) = L at *
    clear hstep
    by_cases hlt : k ≤ M
    · have hle : decide ((k : Int) ≤ c.nodes) = true := by rw [HM.out]; simpa using hlt
      obtain ⟨a, haa⟩ : ∃ a, a = asked c d k := ⟨_, rfl⟩
      rw [← haa] at HST
      have HAA := Lib.hid haa
      clear haa
      go_upto_region 7 with fail
      go_cut [9] (fun s9 wx => s9 = .bool a ∧ Chg (fun _ => False) wr wx)
      case first =>
        by_cases p1 : c.policy = 1
        · have p1' : (c.policy == 1) = true := by simpa using p1
          have P1 := Lib.hid p1
          clear p1
          go_wp2_with fail
          go_meet
          exact ⟨by rw [HAA.out, HAD.out, P1.out]; rfl, (by repeat (first | with_reducible exact Chg.refl _ _ | with_reducible exact chg0 | with_reducible refine Chg.drewN ?_ _ | with_reducible refine Chg.drew ?_ | with_reducible refine Chg.alloc ?_ _ | with_reducible refine Chg.setCell ?_ _ _ (by first | (simp; done) | omega | (simp; omega)) | with_reducible refine Chg.setBlock ?_ _ _ (by first | (simp; done) | omega | (simp; omega)) | exact Chg.refl _ _))⟩
        have p1' : (c.policy == 1) = false := by simpa using p1
        by_cases p2 : c.policy = 2
        · have p2' : (c.policy == 2) = true := by simpa using p2
          have P2 := Lib.hid p2
          clear p1 p2
          by_cases q : k < 64
          · have e1 : (k : Int) / 64 = 0 := by omega
            have e2 : (k : Int) % 64 = k := by omega
            have HB := Lib.hid (fun (W : World) => Bit_calls d.d0 k W (by omega) (by omega))
            go_wp2_with (go_at_call 126; refine (HB.out _).mono ?_; rintro e w' ⟨rfl, rfl⟩)
            go_meet
            exact ⟨by rw [HAA.out, HAD.out, P2.out, e1, e2]; rfl, (by repeat (first | with_reducible exact Chg.refl _ _ | with_reducible exact chg0 | with_reducible refine Chg.drewN ?_ _ | with_reducible refine Chg.drew ?_ | with_reducible refine Chg.alloc ?_ _ | with_reducible refine Chg.setCell ?_ _ _ (by first | (simp; done) | omega | (simp; omega)) | with_reducible refine Chg.setBlock ?_ _ _ (by first | (simp; done) | omega | (simp; omega)) | exact Chg.refl _ _))⟩
          · obtain rfl : k = 64 := by omega
            have HB := Lib.hid (fun (W : World) => Bit_calls d.d1 0 W (by omega) (by omega))
            go_wp2_with (go_at_call 126; refine (HB.out _).mono ?_; rintro e w' ⟨rfl, rfl⟩)
            go_meet
            exact ⟨by rw [HAA.out, HAD.out, P2.out]; rfl, (by repeat (first | with_reducible exact Chg.refl _ _ | with_reducible exact chg0 | with_reducible refine Chg.drewN ?_ _ | with_reducible refine Chg.drew ?_ | with_reducible refine Chg.alloc ?_ _ | with_reducible refine Chg.setCell ?_ _ _ (by first | (simp; done) | omega | (simp; omega)) | with_reducible refine Chg.setBlock ?_ _ _ (by first | (simp; done) | omega | (simp; omega)) | exact Chg.refl _ _))⟩
        · have p2' : (c.policy == 2) = false := by simpa using p2
          have P1 := Lib.hid p1
          have P2 := Lib.hid p2
          clear p1 p2
          go_wp2_with fail
          go_meet
          exact ⟨by rw [HAA.out, HAD.out]; simp [P1.out, P2.out], (by repeat (first | with_reducible exact Chg.refl _ _ | with_reducible exact chg0 | with_reducible refine Chg.drewN ?_ _ | with_reducible refine Chg.drew ?_ | with_reducible refine Chg.alloc ?_ _ | with_reducible refine Chg.setCell ?_ _ _ (by first | (simp; done) | omega | (simp; omega)) | with_reducible refine Chg.setBlock ?_ _ _ (by first | (simp; done) | omega | (simp; omega)) | exact Chg.refl _ _))⟩
      case rest =>
        obtain ⟨rfl, hch⟩ := hcut
        replace HO := Lib.hid (And.intro (hch.ob HO.out.1 (fun h => h)) (hch.ob HO.out.2 (fun h => h)))
        replace Hown := Lib.hid (Hown.out.chg hch (fun _ _ h => h))
        replace Hbr := Lib.hid (below_trans Hbr.out hch.below)
        have szc := hch.size
        clear hch k0 k8 m0 m1 l0 l1
        have l1 := ob_lt HO.out.2
        have l0 := ob_lt HO.out.1
        cases a
        · go_wp2_with fail
          exact ⟨⟨k + 1, by omega, by go_num, by rw [HST.out]; simpa using Hown.out, Hlo.out, HO.out.1, HO.out.2, Hbr.out⟩, by simp [intOf]; omega⟩
        · by_cases q : (k : Int) = self
          · have q' : ((k : Int) != self) = false := by simpa using q
            have Q := Lib.hid q
            clear q
            go_wp2_with fail
            exact ⟨⟨k + 1, by omega, by go_num, by rw [HST.out]; simpa [Q.out] using Hown.out, Hlo.out, HO.out.1, HO.out.2, Hbr.out⟩, by simp [intOf]; omega⟩
          · have q' : ((k : Int) != self) = true := by simpa using q
            have Q := Lib.hid q
            clear q
            go_wp2_with (at_builtin; refine wpList_append_sl (xs := ints L) (ys := [[.int .i64 (k : Int)]]) rfl _ _ rfl tyInts rfl rfl (Hown.out.chg (S := fun _ => False) (by repeat (first | with_reducible exact Chg.refl _ _ | with_reducible exact chg0 | with_reducible refine Chg.drewN ?_ _ | with_reducible refine Chg.drew ?_ | with_reducible refine Chg.alloc ?_ _ | with_reducible refine Chg.setCell ?_ _ _ (by first | (simp; done) | omega | (simp; omega)) | with_reducible refine Chg.setBlock ?_ _ _ (by first | (simp; done) | omega | (simp; omega)) | exact Chg.refl _ _)) (fun _ _ h => h)) (OwnSl.made (e := 3) (ob_alloc_new _ _ _ rfl) (ints_ok [(k : Int)]) rfl (by simp)).slice (ints_ok [(k : Int)]) (by simp; omega) ?_; intro v5 w5 ho hc5 hloc)
            have hcc : Chg (fun j => u7.ownBlock = some j) wc w5 := Chg.trans (S' := fun j => u7.ownBlock = some j) (by repeat (first | with_reducible exact Chg.refl _ _ | with_reducible exact chg0 | with_reducible refine Chg.drewN ?_ _ | with_reducible refine Chg.drew ?_ | with_reducible refine Chg.alloc ?_ _ | with_reducible refine Chg.setCell ?_ _ _ (by first | (simp; done) | omega | (simp; omega)) | with_reducible refine Chg.setBlock ?_ _ _ (by first | (simp; done) | omega | (simp; omega)) | exact Chg.refl _ _)) hc5 (fun _ _ h => h)
            refine ⟨⟨k + 1, by omega, by go_num, by rw [HST.out, if_pos (by simpa using Q.out), ints_append]; exact ho, ?_, hcc.ob HO.out.1 (fun e => by have := Hlo.out _ e; omega), hcc.ob HO.out.2 (fun e => by have := Hlo.out _ e; omega), below_chg Hbr.out hcc (fun j hj e => by have := Hlo.out j e; omega)⟩, by simp [intOf]; omega⟩
            intro j hj
            rcases hloc with h | h
            · rw [h] at hj; exact Hlo.out j hj
            · rw [h] at hj; injection hj with hj; rw [← hj]; simp; omega
    · have hle : decide ((k : Int) ≤ c.nodes) = false := by rw [HM.out]; simp; omega
      have htg := HTG.out (by omega)
      have HT := Lib.hid htg
      clear htg
      go_wp2_with fail
      go_ret
      exact ⟨_, rfl, by rw [HT.out]; exact Hown.out, fun j hj => by have := Hlo.out j hj; omega, Hbr.out⟩

end Go.Proofs.YtchlioikkhnidaaGreat

/-
  Advice: what the program's calls come to.
-/
namespace Go.Proofs.YtchlioikkhnidaaGreat
open Go.RowKit Go.Sort Go.ChangeShapes Go.WideShapes Go.ChangeAt
open Go.ChangeMaps (setBlock)
set_option linter.unusedVariables false
set_option linter.unusedSimpArgs false


set_option maxHeartbeats 8000000 in
set_option maxRecDepth 20000 in
theorem Reply_calls (policy : Int) (h : Bundle) (write : Bool) (d : Draws) (w : World) :
    Calls Tryz.prog 91 #[.int .i64 policy, h.val, .bool write, d.val] w (Pure w (.tuple #[.int .i64 (reply policy h write d).1, .bool (reply policy h write d).2.1, .bool (reply policy h write d).2.2])) := by
  have hr : reply policy h write d = if policy = 2 then (d.d0, bitI d.d1 0, bitI d.d1 1) else if policy ≠ 1 then (0, false, false) else if write = true then (h.count, true, h.owner) else if h.owner = true then (1, decide (h.count < 2), true) else (0, false, false) := rfl
  rw [hr]
  clear hr
  obtain ⟨hc, ho, hh, hd⟩ := h
  simp only [Bundle.val, Bundle.cells, Draws.val, Draws.cells]
  by_cases p2 : policy = 2
  · subst p2
    rw [if_pos rfl]
    go_enter Tryz.func91, Tryz.ntmps91
    go_wp2_with fail
    go_quiet ((go_at_call 126; exact Calls.quiet_of_same ((Bit_calls _ _ _ (by decide) (by decide)).mono fun _ _ h => ⟨h.1, h.2.symm⟩)))
    go_wp2_with fail
    go_ret3
    exact pure_of rfl (by repeat (first | with_reducible exact Chg.refl _ _ | with_reducible exact chg0 | with_reducible refine Chg.drewN ?_ _ | with_reducible refine Chg.drew ?_ | with_reducible refine Chg.alloc ?_ _ | with_reducible refine Chg.setCell ?_ _ _ (by first | (simp; done) | omega | (simp; omega)) | with_reducible refine Chg.setBlock ?_ _ _ (by first | (simp; done) | omega | (simp; omega)) | exact Chg.refl _ _))
  have p2' : (policy == 2) = false := by simpa using p2
  rw [if_neg p2]
  by_cases p1 : policy = 1
  · subst p1
    rw [if_neg (by simp)]
    cases write
    · rw [if_neg (by simp)]
      cases ho
      · rw [if_neg (by simp)]
        go_enter Tryz.func91, Tryz.ntmps91
        go_wp2_with fail
        go_ret3
        exact pure_of rfl (by repeat (first | with_reducible exact Chg.refl _ _ | with_reducible exact chg0 | with_reducible refine Chg.drewN ?_ _ | with_reducible refine Chg.drew ?_ | with_reducible refine Chg.alloc ?_ _ | with_reducible refine Chg.setCell ?_ _ _ (by first | (simp; done) | omega | (simp; omega)) | with_reducible refine Chg.setBlock ?_ _ _ (by first | (simp; done) | omega | (simp; omega)) | exact Chg.refl _ _))
      · rw [if_pos (by simp)]
        go_enter Tryz.func91, Tryz.ntmps91
        go_wp2_with fail
        go_quiet (fail)
        go_wp2_with fail
        go_ret3
        exact pure_of rfl (by repeat (first | with_reducible exact Chg.refl _ _ | with_reducible exact chg0 | with_reducible refine Chg.drewN ?_ _ | with_reducible refine Chg.drew ?_ | with_reducible refine Chg.alloc ?_ _ | with_reducible refine Chg.setCell ?_ _ _ (by first | (simp; done) | omega | (simp; omega)) | with_reducible refine Chg.setBlock ?_ _ _ (by first | (simp; done) | omega | (simp; omega)) | exact Chg.refl _ _))
    · rw [if_pos (by simp)]
      go_enter Tryz.func91, Tryz.ntmps91
      go_wp2_with fail
      go_quiet (fail)
      go_wp2_with fail
      go_ret3
      exact pure_of rfl (by repeat (first | with_reducible exact Chg.refl _ _ | with_reducible exact chg0 | with_reducible refine Chg.drewN ?_ _ | with_reducible refine Chg.drew ?_ | with_reducible refine Chg.alloc ?_ _ | with_reducible refine Chg.setCell ?_ _ _ (by first | (simp; done) | omega | (simp; omega)) | with_reducible refine Chg.setBlock ?_ _ _ (by first | (simp; done) | omega | (simp; omega)) | exact Chg.refl _ _))
  · have p1' : (policy != 1) = true := by simpa using p1
    rw [if_pos p1]
    go_enter Tryz.func91, Tryz.ntmps91
    go_wp2_with fail
    go_ret3
    exact pure_of rfl (by repeat (first | with_reducible exact Chg.refl _ _ | with_reducible exact chg0 | with_reducible refine Chg.drewN ?_ _ | with_reducible refine Chg.drew ?_ | with_reducible refine Chg.alloc ?_ _ | with_reducible refine Chg.setCell ?_ _ _ (by first | (simp; done) | omega | (simp; omega)) | with_reducible refine Chg.setBlock ?_ _ _ (by first | (simp; done) | omega | (simp; omega)) | exact Chg.refl _ _))
end Go.Proofs.YtchlioikkhnidaaGreat
