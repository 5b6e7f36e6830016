/-
  Bits, timers and advice: what the document's calls come to.
-/
import Derived.Test.YtchlioikkhnidaaGreatMN3
import Derived.Test.YtchlioikkhnidaaGreatME
import Derived.Test.YtchlioikkhnidaaGreatMA
import Derived.Test.YtchlioikkhnidaaGreatMN10
import Derived.Deep.LoopGhost
import Derived.BigQuiet
import Derived.Deep.CutBlock
set_option linter.unusedVariables false
set_option linter.unusedSimpArgs false
namespace Go.Proofs.YtchlioikkhnidaaGreat
open Go.RowKit Go.Sort Go.ChangeShapes Go.WideShapes Go.ChangeAt
open Go.ChangeMaps (setBlock)
set_option linter.unusedVariables false
set_option linter.unusedSimpArgs false
set_option maxHeartbeats 2000000 in
theorem RefBit_calls (n k : Int) (w : World) (h0 : 0 ≤ k) (h1 : k < 64) : Calls Tryz.prog 114 #[.int .i64 n, .int .i64 k] w fun e w' => e = .returned (.bool (bitI n k)) ∧ w = w' := by
  obtain ⟨K, rfl⟩ := Int.eq_ofNat_of_zero_le h0
  have hK : K < 64 := by omega
  have hw : IntKind.u64.wrap n = n % 18446744073709551616 := IntKind.wrap_u64 n
  obtain ⟨u, hu⟩ : ∃ u, u = n % 18446744073709551616 := ⟨_, rfl⟩
  have hu0 : 0 ≤ u ∧ u < 18446744073709551616 := by omega
  have hbit : bitI n K = decide (u / 2 ^ K % 2 = 1) := by unfold bitI; rw [hu]; simp
  rw [hbit]
  rw [← hu] at hw
  have HW := Lib.hid hw
  clear hbit hu h1 h0 hw
  go_enter Tryz.func114, Tryz.ntmps114
  go_upto_region 4 with fail
  rw [show IntKind.u64.wrap n = u from HW.out]
  go_wp2_with fail
  go_loop [5, 6] (fun v i => ∃ k : Nat, k ≤ K ∧ i = .int .i64 k ∧ v = .int .u64 (u / 2 ^ k)) (fun _ i => K - (intOf i).toNat)
  case atStart => exact ⟨0, Nat.zero_le _, rfl, by simp⟩
  case round =>
    obtain ⟨k, hk, rfl, rfl⟩ := hrel
    have hp : (0 : Int) < 2 ^ k := Int.pow_pos (by decide)
    have hb : 0 ≤ u / 2 ^ k ∧ u / 2 ^ k ≤ u := ⟨Int.ediv_nonneg hu0.1 (Int.le_of_lt hp), Int.ediv_le_self _ hu0.1⟩
    have hnext : u / 2 ^ (k + 1) = u / 2 ^ k / 2 := by rw [Int.pow_succ, ← Int.ediv_ediv_of_nonneg (Int.le_of_lt hp)]
    have HN := Lib.hid hnext
    clear hnext hp
    obtain ⟨v, hv⟩ : ∃ v, v = u / 2 ^ k := ⟨_, rfl⟩
    rw [← hv] at hb HN ⊢
    have HV := Lib.hid hv
    clear hv
    have hb1 : v < 18446744073709551616 := by omega
    by_cases hlt : k < K
    · have e2 : IntKind.u64.wrap (v.tdiv 2) = v / 2 := by rw [Int.tdiv_eq_ediv_of_nonneg hb.1, IntKind.wrap_u64]; omega
      go_wp2_with fail
      go_round
      case rel => exact ⟨k + 1, by omega, by go_num, by rw [HN.out]⟩
      case measure => simp [intOf]; omega
    · have hkK : k = K := by omega
      have HK := Lib.hid hkK
      clear hkK
      have e2 : IntKind.u64.wrap (v.tmod 2) = v % 2 := by rw [Int.tmod_eq_emod_of_nonneg hb.1, IntKind.wrap_u64]; omega
      go_wp2_with fail
      go_ret
      refine ⟨retb ?_, rfl⟩
      rw [← HK.out, ← HV.out]
      first | rfl | (exact beq_int _ _)
theorem RefDouble_calls (n times : Int) (w : World) (h0 : 1 ≤ n) (h1 : n ≤ 64) (h2 : 0 ≤ times) (h3 : times ≤ 9) :
    Calls Tryz.prog 139 #[.int .i64 n, .int .i64 times, .int .i64 1048576] w fun e w' => e = .returned (.int .i64 (n * 2 ^ times.toNat)) ∧ w = w' := by
  obtain ⟨t, rfl⟩ := Int.eq_ofNat_of_zero_le h2
  have ht : t ≤ 9 := by omega
  rw [Int.toNat_natCast]
  have hpow : ∀ k : Nat, k ≤ 9 → 1 ≤ n * 2 ^ k ∧ n * 2 ^ k ≤ 32768 := fun k hk => by
    have h5 : (2 : Int) ^ k ≤ 2 ^ 9 := pow2_le hk
    have h6 : (0 : Int) < 2 ^ k := Int.pow_pos (by decide)
    have h7 : n * 2 ^ k ≤ 64 * 2 ^ 9 := Int.mul_le_mul h1 h5 (by omega) (by decide)
    have h8 : 1 * (1 : Int) ≤ n * 2 ^ k := Int.mul_le_mul h0 (by omega) (by decide) (by omega)
    omega
  have HP := Lib.hid hpow
  clear hpow
  go_enter Tryz.func139, Tryz.ntmps139
  go_wp2_with fail
  go_loop [0, 7] (fun v i => ∃ k : Nat, k ≤ t ∧ i = .int .i64 k ∧ v = .int .i64 (n * 2 ^ k)) (fun _ i => t - (intOf i).toNat)
  case atStart => exact ⟨0, Nat.zero_le _, rfl, by simp⟩
  case round =>
    obtain ⟨k, hk, rfl, rfl⟩ := hrel
    have hp1 := HP.out k (by omega)
    have hnext : n * 2 ^ (k + 1) = 2 * (n * 2 ^ k) := by rw [Int.pow_succ, ← Int.mul_assoc]; omega
    have HN := Lib.hid hnext
    clear hnext
    by_cases hlt : k < t
    · obtain ⟨v, hv⟩ : ∃ v, v = n * 2 ^ k := ⟨_, rfl⟩
      rw [← hv] at hp1 HN ⊢
      clear hv
      have hd : decide (524288 < v) = false := by simp; omega
      go_wp2_with fail
      go_round
      case rel => exact ⟨k + 1, by omega, by go_num, by rw [HN.out]⟩
      case measure => simp [intOf]; omega
    · obtain rfl : k = t := by omega
      go_wp2_with fail
      go_ret
      exact ⟨rfl, rfl⟩
theorem RefStart_calls (wait : Int) (w : World) : Calls Tryz.prog 102 #[.int .i64 wait] w (Pure w (.agg #[.int .i64 (Timer.start wait).left, .int .i64 0, .bool false])) := by
  by_cases q : wait < 1
  · have q' : decide (wait < 1) = true := by simpa using q
    have e : (Timer.start wait).left = 1 := by simp [Timer.start]; omega
    rw [e]
    clear q e
    go_enter Tryz.func102, Tryz.ntmps102
    go_wp2_with fail
    (try simp only [Exit.inBlock, Exit.then])
    refine bodyRet1 _ rfl rfl (ResIs.row Tryz.underlying114 rfl (by kernel_rfl) rfl (by simp [go_sem]; exact ⟨rfl, rfl, rfl⟩)) ?_
    exact pure_of rfl (by repeat (first | with_reducible exact Chg.refl _ _ | with_reducible exact chg0 | with_reducible refine Chg.drewN ?_ _ | with_reducible refine Chg.drew ?_ | with_reducible refine Chg.alloc ?_ _ | with_reducible refine Chg.setCell ?_ _ _ (by first | (simp; done) | omega | (simp; omega)) | with_reducible refine Chg.setBlock ?_ _ _ (by first | (simp; done) | omega | (simp; omega)) | exact Chg.refl _ _))
  · have q' : decide (wait < 1) = false := by simpa using q
    have e : (Timer.start wait).left = wait := by simp [Timer.start]; omega
    rw [e]
    clear q e
    go_enter Tryz.func102, Tryz.ntmps102
    go_wp2_with fail
    (try simp only [Exit.inBlock, Exit.then])
    refine bodyRet1 _ rfl rfl (ResIs.row Tryz.underlying114 rfl (by kernel_rfl) rfl (by simp [go_sem]; exact ⟨rfl, rfl, rfl⟩)) ?_
    exact pure_of rfl (by repeat (first | with_reducible exact Chg.refl _ _ | with_reducible exact chg0 | with_reducible refine Chg.drewN ?_ _ | with_reducible refine Chg.drew ?_ | with_reducible refine Chg.alloc ?_ _ | with_reducible refine Chg.setCell ?_ _ _ (by first | (simp; done) | omega | (simp; omega)) | with_reducible refine Chg.setBlock ?_ _ _ (by first | (simp; done) | omega | (simp; omega)) | exact Chg.refl _ _))
set_option maxHeartbeats 4000000 in
theorem RefTTick_calls (t : Timer) (wait tries : Int) (w : World) (h : t.Ok tries) (w1 : 1 ≤ wait) (w2 : wait ≤ 64) (t1 : tries ≤ 8) :
    Calls Tryz.prog 106 #[t.val, .int .i64 wait, .int .i64 tries] w (Pure w (.tuple #[(t.tick wait tries).1.val, .int .i64 (t.tick wait tries).2])) := by
  have l0 := h.l0
  have l1 := h.l1
  have r0 := h.t0
  have r1 := h.t1
  clear h
  obtain ⟨tl, tt, tv⟩ := t
  simp only at l0 l1 r0 r1
  have htk : Timer.tick ⟨tl, tt, tv⟩ wait tries = if tv = true then (⟨tl, tt, tv⟩, 0) else if 1 < tl then (⟨tl - 1, tt, tv⟩, 0) else if tt < tries then (⟨wait * 2 ^ (tt + 1).toNat, tt + 1, false⟩, 1) else (⟨0, tt, true⟩, 2) := rfl
  rw [htk]
  have HD := Lib.hid (fun (h : tt < tries) (W : World) => RefDouble_calls wait (tt + 1) W w1 w2 (by omega) (by omega))
  have hpos : tt < tries → 1 ≤ wait * 2 ^ (tt + 1).toNat := fun h => by
    have h6 : (0 : Int) < 2 ^ (tt + 1).toNat := Int.pow_pos (by decide)
    have h8 : 1 * (1 : Int) ≤ wait * 2 ^ (tt + 1).toNat := Int.mul_le_mul w1 (by omega) (by decide) (by omega)
    omega
  have HPOS := Lib.hid hpos
  clear htk hpos
  simp only [Timer.val]
  cases tv
  · by_cases q1 : 1 < tl
    · have q1' : decide (1 < tl) = true := by simpa using q1
      rw [if_neg (by decide), if_pos q1]
      go_enter Tryz.func106, Tryz.ntmps106
      go_wp2_with fail
      (try simp only [Exit.inBlock, Exit.then])
      refine bodyRet2 _ _ rfl rfl (ResIs.row Tryz.underlying114 rfl (by kernel_rfl) rfl (by simp [go_sem]; exact ⟨rfl, rfl, rfl⟩)) ResIs.tmp ?_
      exact pure_of rfl (by repeat (first | with_reducible exact Chg.refl _ _ | with_reducible exact chg0 | with_reducible refine Chg.drewN ?_ _ | with_reducible refine Chg.drew ?_ | with_reducible refine Chg.alloc ?_ _ | with_reducible refine Chg.setCell ?_ _ _ (by first | (simp; done) | omega | (simp; omega)) | with_reducible refine Chg.setBlock ?_ _ _ (by first | (simp; done) | omega | (simp; omega)) | exact Chg.refl _ _))
    · have q1' : decide (1 < tl) = false := by simpa using q1
      by_cases q2 : tt < tries
      · have q2' : decide (tries ≤ tt) = false := by simpa using q2
        rw [if_neg (by decide), if_neg q1, if_pos q2]
        have hp := HPOS.out q2
        obtain ⟨v, hv⟩ : ∃ v, v = wait * 2 ^ (tt + 1).toNat := ⟨_, rfl⟩
        have hD := HD.out q2
        rw [← hv] at hD hp ⊢
        have HDD := Lib.hid hD
        have hmax : decide (v < 1) = false := by simp; omega
        clear hv hD
        go_enter Tryz.func106, Tryz.ntmps106
        go_wp2_with (go_at_call 139; refine (HDD.out _).mono ?_; rintro e w' ⟨rfl, rfl⟩)
        (try simp only [Exit.inBlock, Exit.then])
        refine bodyRet2 _ _ rfl rfl (ResIs.row Tryz.underlying114 rfl (by kernel_rfl) rfl (by simp [go_sem]; exact ⟨rfl, rfl, rfl⟩)) ResIs.tmp ?_
        exact pure_of rfl (by repeat (first | with_reducible exact Chg.refl _ _ | with_reducible exact chg0 | with_reducible refine Chg.drewN ?_ _ | with_reducible refine Chg.drew ?_ | with_reducible refine Chg.alloc ?_ _ | with_reducible refine Chg.setCell ?_ _ _ (by first | (simp; done) | omega | (simp; omega)) | with_reducible refine Chg.setBlock ?_ _ _ (by first | (simp; done) | omega | (simp; omega)) | exact Chg.refl _ _))
      · have q2' : decide (tries ≤ tt) = true := by simpa using q2
        rw [if_neg (by decide), if_neg q1, if_neg q2]
        go_enter Tryz.func106, Tryz.ntmps106
        go_wp2_with fail
        (try simp only [Exit.inBlock, Exit.then])
        refine bodyRet2 _ _ rfl rfl (ResIs.row Tryz.underlying114 rfl (by kernel_rfl) rfl (by simp [go_sem]; exact ⟨rfl, rfl, rfl⟩)) ResIs.tmp ?_
        exact pure_of rfl (by repeat (first | with_reducible exact Chg.refl _ _ | with_reducible exact chg0 | with_reducible refine Chg.drewN ?_ _ | with_reducible refine Chg.drew ?_ | with_reducible refine Chg.alloc ?_ _ | with_reducible refine Chg.setCell ?_ _ _ (by first | (simp; done) | omega | (simp; omega)) | with_reducible refine Chg.setBlock ?_ _ _ (by first | (simp; done) | omega | (simp; omega)) | exact Chg.refl _ _))
  · rw [if_pos rfl]
    go_enter Tryz.func106, Tryz.ntmps106
    go_wp2_with fail
    (try simp only [Exit.inBlock, Exit.then])
    refine bodyRet2 _ _ rfl rfl (ResIs.row Tryz.underlying114 rfl (by kernel_rfl) rfl (by simp [go_sem]; exact ⟨rfl, rfl, rfl⟩)) ResIs.tmp ?_
    exact pure_of rfl (by repeat (first | with_reducible exact Chg.refl _ _ | with_reducible exact chg0 | with_reducible refine Chg.drewN ?_ _ | with_reducible refine Chg.drew ?_ | with_reducible refine Chg.alloc ?_ _ | with_reducible refine Chg.setCell ?_ _ _ (by first | (simp; done) | omega | (simp; omega)) | with_reducible refine Chg.setBlock ?_ _ _ (by first | (simp; done) | omega | (simp; omega)) | exact Chg.refl _ _))
end Go.Proofs.YtchlioikkhnidaaGreat

/-
  The document's processor and its advice: what its calls come to.
-/
namespace Go.Proofs.YtchlioikkhnidaaGreat
open Go.RowKit Go.Sort Go.ChangeShapes Go.WideShapes Go.ChangeAt
open Go.ChangeMaps (setBlock)
set_option linter.unusedVariables false
set_option linter.unusedSimpArgs false
def RProcAt (w : World) (p : Nat) (s : Proc) : Prop :=
  ob w p = some (.cells #[.int .i64 s.wait, .int .i64 s.tries, .int .i64 s.number, .int .i64 s.op.block, .bool s.op.write, .int .i64 s.op.value, .bool s.busy, .int .i64 s.timer.left, .int .i64 s.timer.tries, .bool s.timer.over] 116 (0, 0)) ∧ s.Ok
section
variable {w w' : World} {p : Nat} {s : Proc}
theorem RProcAt.chg {S : Nat → Prop} (h : RProcAt w p s) (hc : Chg S w w') (hn : ¬ S p) : RProcAt w' p s := ⟨hc.ob h.1 hn, h.2⟩
theorem RProcAt.below (h : RProcAt w p s) (hb : Below w.heap.size w w') : RProcAt w' p s := h.chg (S := fun _ => False) (Chg.of_below hb) (fun h => h)
theorem RProcAt.lt (h : RProcAt w p s) : p < w.heap.size := ob_lt h.1
set_option maxHeartbeats 4000000 in
theorem RPinned_calls (h : RProcAt w p s) : Calls Tryz.prog 60 #[.pointer (some ⟨p, 0, none⟩)] w (Pure w (.int .i64 s.pinned)) := by
  obtain ⟨c0, c1, c2, c3, c4, c5, c6, c7, c8, c9, cf, cl⟩ := ob_cells10 h.1
  clear h
  obtain ⟨b, hb⟩ : ∃ b, b = s.busy := ⟨_, rfl⟩
  have hp : s.pinned = if b = true then s.op.block else -1 := by rw [hb]; rfl
  rw [← hb] at c6
  rw [hp]
  clear hp hb
  cases b
  all_goals
    go_enter Tryz.func60, Tryz.ntmps60
    go_wp2_with fail
    go_ret
    exact pure_of (by simp) (by repeat (first | with_reducible exact Chg.refl _ _ | with_reducible exact chg0 | with_reducible refine Chg.drewN ?_ _ | with_reducible refine Chg.drew ?_ | with_reducible refine Chg.alloc ?_ _ | with_reducible refine Chg.setCell ?_ _ _ (by first | (simp; done) | omega | (simp; omega)) | with_reducible refine Chg.setBlock ?_ _ _ (by first | (simp; done) | omega | (simp; omega)) | exact Chg.refl _ _))
set_option maxHeartbeats 4000000 in
theorem RIssue_calls (op : Op) (h : RProcAt w p s) (hn : s.number < 1000000000) :
    Calls Tryz.prog 52 #[.pointer (some ⟨p, 0, none⟩), op.val] w fun e w' => e = .returned (.bool (s.issue op).2) ∧ RProcAt w' p (s.issue op).1 ∧ Chg (fun j => j = p) w w' := by
  have hok := h.2
  have num0 := hok.number.1
  have w0 := hok.wait.1
  have w1 := hok.wait.2
  have HOK := Lib.hid hok
  have H := Lib.hid h
  obtain ⟨c0, c1, c2, c3, c4, c5, c6, c7, c8, c9, cf, cl⟩ := ob_cells10 h.1
  have hob := h.1
  have his : s.issue op = if s.busy = true then (s, false) else ({ s with timer := Timer.start s.wait, number := s.number + 1, op := op, busy := true }, true) := rfl
  obtain ⟨b, hb⟩ : ∃ b, b = s.busy := ⟨_, rfl⟩
  rw [← hb] at his c6 hob
  rw [his]
  clear his h hok
  simp only [Op.val, Op.cells]
  cases b
  · rw [if_neg (by decide)]
    clear hb
    go_enter Tryz.func52, Tryz.ntmps52
    go_wp2_with fail
    refine (RefStart_calls s.wait _).mono ?_
    rintro e w1 ⟨rfl, hb1⟩
    have hob1 : ob w1 p = some (.cells #[.int .i64 s.wait, .int .i64 s.tries, .int .i64 (s.number + 1), .int .i64 op.block, .bool op.write, .int .i64 op.value, .bool true, .int .i64 s.timer.left, .int .i64 s.timer.tries, .bool s.timer.over] 116 (0, 0)) := (Chg.of_below (S := fun _ => False) hb1).ob (by simp [go_sem, hob, cl, setAt]) (fun h => h)
    have hch1 : Chg (fun j => j = p) w w1 := Chg.trans (S' := fun _ => False) (by repeat (first | with_reducible exact Chg.refl _ _ | with_reducible exact chg0 | with_reducible refine Chg.drewN ?_ _ | with_reducible refine Chg.drew ?_ | with_reducible refine Chg.alloc ?_ _ | with_reducible refine Chg.setCell ?_ _ _ (by first | (simp; done) | omega | (simp; omega)) | with_reducible refine Chg.setBlock ?_ _ _ (by first | (simp; done) | omega | (simp; omega)) | exact Chg.refl _ _)) (Chg.of_below hb1) (fun _ _ h => h.elim)
    clear c0 c1 c2 c3 c4 c5 c6 c7 c8 c9 cf cl hob
    obtain ⟨c0, c1, c2, c3, c4, c5, c6, c7, c8, c9, cf, cl⟩ := ob_cells10 hob1
    clear hb1
    go_wp2_with fail
    go_ret
    refine ⟨rfl, ⟨by simp [go_sem, hob1, cl, setAt, Timer.start], ⟨?_, HOK.out.wait, HOK.out.tries, by simp only; omega⟩⟩, hch1.trans (S' := fun j => j = p) (by repeat (first | exact Chg.refl _ _ | refine Chg.drewN ?_ _ | refine Chg.drew ?_ | refine Chg.setCell ?_ _ _ (fun _ => rfl))) (fun _ _ h => h)⟩
    have h8 := HOK.out.tries
    exact ⟨by simp [Timer.start], by simp only [Timer.start]; exact h8.1, by simp only [Timer.start]; omega, by simp only [Timer.start]; omega⟩
  · rw [if_pos rfl]
    clear hb
    go_enter Tryz.func52, Tryz.ntmps52
    go_wp2_with fail
    go_ret
    exact ⟨rfl, H.out.chg (S := fun _ => False) (by repeat (first | with_reducible exact Chg.refl _ _ | with_reducible exact chg0 | with_reducible refine Chg.drewN ?_ _ | with_reducible refine Chg.drew ?_ | with_reducible refine Chg.alloc ?_ _ | with_reducible refine Chg.setCell ?_ _ _ (by first | (simp; done) | omega | (simp; omega)) | with_reducible refine Chg.setBlock ?_ _ _ (by first | (simp; done) | omega | (simp; omega)) | exact Chg.refl _ _)) (fun h => h), (by repeat (first | with_reducible exact Chg.refl _ _ | with_reducible exact chg0 | with_reducible refine Chg.drewN ?_ _ | with_reducible refine Chg.drew ?_ | with_reducible refine Chg.alloc ?_ _ | with_reducible refine Chg.setCell ?_ _ _ (by first | (simp; done) | omega | (simp; omega)) | with_reducible refine Chg.setBlock ?_ _ _ (by first | (simp; done) | omega | (simp; omega)) | exact Chg.refl _ _))⟩
set_option maxHeartbeats 4000000 in
theorem RFinish_calls (h : RProcAt w p s) :
    Calls Tryz.prog 104 #[.pointer (some ⟨p, 0, none⟩)] w fun e w' => e = .returned (.tuple #[.int .i64 s.finish.2.1, .bool s.finish.2.2]) ∧ RProcAt w' p s.finish.1 ∧ Chg (fun j => j = p) w w' := by
  have HOK := Lib.hid h.2
  have H := Lib.hid h
  obtain ⟨c0, c1, c2, c3, c4, c5, c6, c7, c8, c9, cf, cl⟩ := ob_cells10 h.1
  have hob := h.1
  have his : s.finish = if s.busy = true then ({ s with op := Op.zero, busy := false }, s.number, true) else (s, 0, false) := rfl
  obtain ⟨b, hb⟩ : ∃ b, b = s.busy := ⟨_, rfl⟩
  rw [← hb] at his c6 hob
  rw [his]
  clear his h
  cases b
  · rw [if_neg (by decide)]
    clear hb
    go_enter Tryz.func104, Tryz.ntmps104
    go_wp2_with fail
    go_ret2
    exact ⟨rfl, H.out.chg (S := fun _ => False) (by repeat (first | with_reducible exact Chg.refl _ _ | with_reducible exact chg0 | with_reducible refine Chg.drewN ?_ _ | with_reducible refine Chg.drew ?_ | with_reducible refine Chg.alloc ?_ _ | with_reducible refine Chg.setCell ?_ _ _ (by first | (simp; done) | omega | (simp; omega)) | with_reducible refine Chg.setBlock ?_ _ _ (by first | (simp; done) | omega | (simp; omega)) | exact Chg.refl _ _)) (fun h => h), (by repeat (first | with_reducible exact Chg.refl _ _ | with_reducible exact chg0 | with_reducible refine Chg.drewN ?_ _ | with_reducible refine Chg.drew ?_ | with_reducible refine Chg.alloc ?_ _ | with_reducible refine Chg.setCell ?_ _ _ (by first | (simp; done) | omega | (simp; omega)) | with_reducible refine Chg.setBlock ?_ _ _ (by first | (simp; done) | omega | (simp; omega)) | exact Chg.refl _ _))⟩
  · rw [if_pos rfl]
    clear hb
    go_enter Tryz.func104, Tryz.ntmps104
    go_wp2_with fail
    go_ret2
    exact ⟨rfl, ⟨by simp [go_sem, hob, cl, setAt, Op.zero], ⟨HOK.out.timer, HOK.out.wait, HOK.out.tries, HOK.out.number⟩⟩, (by repeat (first | exact Chg.refl _ _ | refine Chg.drewN ?_ _ | refine Chg.drew ?_ | refine Chg.setCell ?_ _ _ (fun _ => rfl)))⟩
set_option maxHeartbeats 4000000 in
theorem RPTick_calls (h : RProcAt w p s) :
    Calls Tryz.prog 55 #[.pointer (some ⟨p, 0, none⟩)] w fun e w' => e = .returned (.int .i64 s.tick.2) ∧ RProcAt w' p s.tick.1 ∧ Chg (fun j => j = p) w w' := by
  have HOK := Lib.hid h.2
  have H := Lib.hid h
  obtain ⟨c0, c1, c2, c3, c4, c5, c6, c7, c8, c9, cf, cl⟩ := ob_cells10 h.1
  have hob := h.1
  have hT := fun (W : World) => RefTTick_calls s.timer s.wait s.tries W h.2.timer h.2.wait.1 h.2.wait.2 h.2.tries.2
  have htok := Timer.tick_ok h.2.timer h.2.wait.1 h.2.wait.2 h.2.tries.2
  have his : s.tick = if s.busy = true then ({ s with timer := (s.timer.tick s.wait s.tries).1 }, (s.timer.tick s.wait s.tries).2) else (s, 0) := rfl
  obtain ⟨b, hb⟩ : ∃ b, b = s.busy := ⟨_, rfl⟩
  obtain ⟨⟨t, k⟩, ht⟩ : ∃ x, x = s.timer.tick s.wait s.tries := ⟨_, rfl⟩
  rw [← hb, ← ht] at his
  rw [← hb] at c6 hob
  simp only [← ht] at hT htok
  rw [his]
  have HT := Lib.hid hT
  have HTO := Lib.hid htok
  clear his h ht hT htok
  simp only [Timer.val] at HT
  cases b
  · rw [if_neg (by decide)]
    clear hb
    go_enter Tryz.func55, Tryz.ntmps55
    go_wp2_with fail
    go_ret
    exact ⟨rfl, H.out.chg (S := fun _ => False) (by repeat (first | with_reducible exact Chg.refl _ _ | with_reducible exact chg0 | with_reducible refine Chg.drewN ?_ _ | with_reducible refine Chg.drew ?_ | with_reducible refine Chg.alloc ?_ _ | with_reducible refine Chg.setCell ?_ _ _ (by first | (simp; done) | omega | (simp; omega)) | with_reducible refine Chg.setBlock ?_ _ _ (by first | (simp; done) | omega | (simp; omega)) | exact Chg.refl _ _)) (fun h => h), (by repeat (first | with_reducible exact Chg.refl _ _ | with_reducible exact chg0 | with_reducible refine Chg.drewN ?_ _ | with_reducible refine Chg.drew ?_ | with_reducible refine Chg.alloc ?_ _ | with_reducible refine Chg.setCell ?_ _ _ (by first | (simp; done) | omega | (simp; omega)) | with_reducible refine Chg.setBlock ?_ _ _ (by first | (simp; done) | omega | (simp; omega)) | exact Chg.refl _ _))⟩
  · rw [if_pos rfl]
    clear hb
    go_enter Tryz.func55, Tryz.ntmps55
    go_wp2_with fail
    have lp := cl
    go_upto_region 3 with fail
    go_cut [3, 4] (fun s3 s4 wx => ∃ t0, s3 = .pointer (some ⟨t0, 0, none⟩) ∧ s4 = .int .i64 k ∧ w.heap.size ≤ t0 ∧ ob wx t0 = some (.cells #[.int .i64 t.left, .int .i64 t.tries, .bool t.over] 114 (0, 0)) ∧ Below w.heap.size w wx)
    case first =>
      go_region_law (first
        | (go_simp; go_at_call 106; refine (HT.out _).mono ?_; rintro e w1 ⟨rfl, hb1⟩; have hbw := below_trans (w := w) (Chg.below (by repeat (first | with_reducible exact Chg.refl _ _ | with_reducible exact chg0 | with_reducible refine Chg.drewN ?_ _ | with_reducible refine Chg.drew ?_ | with_reducible refine Chg.alloc ?_ _ | with_reducible refine Chg.setCell ?_ _ _ (by first | (simp; done) | omega | (simp; omega)) | with_reducible refine Chg.setBlock ?_ _ _ (by first | (simp; done) | omega | (simp; omega)) | exact Chg.refl _ _))) hb1; (try (have hz := (Chg.of_below (S := fun _ => False) hb1).ob (b := w.heap.size) (o := .cells #[.int .i64 0, .int .i64 0, .bool false] 114 (0, 0)) (by first | exact ob_last1 _ _ | exact ob_last2 _ _ | exact ob_alloc_at _ _) (fun h => h); obtain ⟨z0, z1, z2, zf⟩ := ob_cells3 hz; have lz := ob_lt hz)); have cl' := ob_lt (ob_step hbw hob))
        | fail)
      all_goals (go_wp2_with fail)
      all_goals go_meet
      all_goals first
        | exact ⟨_, rfl, rfl, Nat.le_refl _, by simp [go_sem, hz, lz, setAt], below_chg hbw (S := fun j => j = w.heap.size) (by (repeat (first | with_reducible exact Chg.refl _ _ | with_reducible refine Chg.drewN ?_ _ | with_reducible refine Chg.drew ?_ | with_reducible refine Chg.alloc ?_ _ | with_reducible refine Chg.setCell ?_ _ _ (fun _ => rfl)))) (fun j hj e => by omega)⟩
        | exact ⟨_, rfl, rfl, hbw.size, by simp [go_sem, setAt], below_trans hbw (Chg.below (by repeat (first | with_reducible exact Chg.refl _ _ | with_reducible exact chg0 | with_reducible refine Chg.drewN ?_ _ | with_reducible refine Chg.drew ?_ | with_reducible refine Chg.alloc ?_ _ | with_reducible refine Chg.setCell ?_ _ _ (by first | (simp; done) | omega | (simp; omega)) | with_reducible refine Chg.setBlock ?_ _ _ (by first | (simp; done) | omega | (simp; omega)) | exact Chg.refl _ _)))⟩
    case rest =>
    obtain ⟨t0, rfl, rfl, hlt0, ho0, hb0⟩ := hcut
    have hob1 := ob_step hb0 hob
    have hch1 : Chg (fun j => j = p) w wc := (Chg.of_below hb0)
    obtain ⟨z0, z1, z2, zf⟩ := ob_cells3 ho0
    have lz := ob_lt ho0
    clear c0 c1 c2 c3 c4 c5 c6 c7 c8 c9 cf cl lp
    obtain ⟨c0, c1, c2, c3, c4, c5, c6, c7, c8, c9, cf, cl⟩ := ob_cells10 hob1
    go_wp2_with fail
    go_ret
    exact ⟨rfl, ⟨by simp [go_sem, hob1, cl, setAt], ⟨HTO.out, HOK.out.wait, HOK.out.tries, HOK.out.number⟩⟩, hch1.trans (S' := fun j => j = p) (by (repeat (first | with_reducible exact Chg.refl _ _ | with_reducible refine Chg.drewN ?_ _ | with_reducible refine Chg.drew ?_ | with_reducible refine Chg.alloc ?_ _ | with_reducible refine Chg.setCell ?_ _ _ (fun _ => rfl)))) (fun _ _ h => h)⟩
end
set_option maxHeartbeats 8000000 in
set_option maxRecDepth 20000 in
theorem RefReply_calls (policy : Int) (h : Bundle) (write : Bool) (d : Draws) (w : World) :
    Calls Tryz.prog 61 #[.int .i64 policy, h.val, .bool write, d.val] w (Pure w (.tuple #[.int .i64 (reply policy h write d).1, .bool (reply policy h write d).2.1, .bool (reply policy h write d).2.2])) := by
  have hr : reply policy h write d = if policy = 2 then (d.d0, bitI d.d1 0, bitI d.d1 1) else if policy ≠ 1 then (0, false, false) else if write = true then (h.count, true, h.owner) else if h.owner = true then (1, decide (h.count ≤ 1), true) else (0, false, false) := by
    unfold reply
    rw [show decide (h.count < 2) = decide (h.count ≤ 1) from by rw [decide_eq_decide]; omega]
  rw [hr]
  clear hr
  obtain ⟨hc, ho, hh, hd⟩ := h
  simp only [Bundle.val, Bundle.cells, Draws.val, Draws.cells]
  by_cases p2 : policy = 2
  · subst p2
    rw [if_pos rfl]
    go_enter Tryz.func61, Tryz.ntmps61
    go_wp2_with fail
    go_quiet ((go_at_call 114; exact Calls.quiet_of_same ((RefBit_calls _ _ _ (by decide) (by decide)).mono fun _ _ h => ⟨h.1, h.2.symm⟩)))
    go_wp2_with fail
    go_ret3
    exact pure_of rfl (by repeat (first | with_reducible exact Chg.refl _ _ | with_reducible exact chg0 | with_reducible refine Chg.drewN ?_ _ | with_reducible refine Chg.drew ?_ | with_reducible refine Chg.alloc ?_ _ | with_reducible refine Chg.setCell ?_ _ _ (by first | (simp; done) | omega | (simp; omega)) | with_reducible refine Chg.setBlock ?_ _ _ (by first | (simp; done) | omega | (simp; omega)) | exact Chg.refl _ _))
  have p2' : (policy == 2) = false := by simpa using p2
  rw [if_neg p2]
  by_cases p1 : policy = 1
  · subst p1
    rw [if_neg (by simp)]
    cases write
    · rw [if_neg (by simp)]
      cases ho
      · rw [if_neg (by simp)]
        go_enter Tryz.func61, Tryz.ntmps61
        go_wp2_with fail
        go_ret3
        exact pure_of rfl (by repeat (first | with_reducible exact Chg.refl _ _ | with_reducible exact chg0 | with_reducible refine Chg.drewN ?_ _ | with_reducible refine Chg.drew ?_ | with_reducible refine Chg.alloc ?_ _ | with_reducible refine Chg.setCell ?_ _ _ (by first | (simp; done) | omega | (simp; omega)) | with_reducible refine Chg.setBlock ?_ _ _ (by first | (simp; done) | omega | (simp; omega)) | exact Chg.refl _ _))
      · rw [if_pos (by simp)]
        go_enter Tryz.func61, Tryz.ntmps61
        go_wp2_with fail
        go_quiet (fail)
        go_wp2_with fail
        go_ret3
        exact pure_of rfl (by repeat (first | with_reducible exact Chg.refl _ _ | with_reducible exact chg0 | with_reducible refine Chg.drewN ?_ _ | with_reducible refine Chg.drew ?_ | with_reducible refine Chg.alloc ?_ _ | with_reducible refine Chg.setCell ?_ _ _ (by first | (simp; done) | omega | (simp; omega)) | with_reducible refine Chg.setBlock ?_ _ _ (by first | (simp; done) | omega | (simp; omega)) | exact Chg.refl _ _))
    · rw [if_pos (by simp)]
      go_enter Tryz.func61, Tryz.ntmps61
      go_wp2_with fail
      go_quiet (fail)
      go_wp2_with fail
      go_ret3
      exact pure_of rfl (by repeat (first | with_reducible exact Chg.refl _ _ | with_reducible exact chg0 | with_reducible refine Chg.drewN ?_ _ | with_reducible refine Chg.drew ?_ | with_reducible refine Chg.alloc ?_ _ | with_reducible refine Chg.setCell ?_ _ _ (by first | (simp; done) | omega | (simp; omega)) | with_reducible refine Chg.setBlock ?_ _ _ (by first | (simp; done) | omega | (simp; omega)) | exact Chg.refl _ _))
  · have p1' : (policy != 1) = true := by simpa using p1
    rw [if_pos p1]
    go_enter Tryz.func61, Tryz.ntmps61
    go_wp2_with fail
    go_ret3
    exact pure_of rfl (by repeat (first | with_reducible exact Chg.refl _ _ | with_reducible exact chg0 | with_reducible refine Chg.drewN ?_ _ | with_reducible refine Chg.drew ?_ | with_reducible refine Chg.alloc ?_ _ | with_reducible refine Chg.setCell ?_ _ _ (by first | (simp; done) | omega | (simp; omega)) | with_reducible refine Chg.setBlock ?_ _ _ (by first | (simp; done) | omega | (simp; omega)) | exact Chg.refl _ _))
end Go.Proofs.YtchlioikkhnidaaGreat

/-
  The document's advice: whom a node asks.
-/
namespace Go.Proofs.YtchlioikkhnidaaGreat
open Go.RowKit Go.Sort Go.ChangeShapes Go.WideShapes Go.ChangeAt
open Go.ChangeMaps (setBlock)
set_option linter.unusedVariables false
set_option linter.unusedSimpArgs false
set_option maxHeartbeats 8000000 in
set_option maxRecDepth 20000 in
theorem RefTargets_calls (c : Config) (self : Int) (d : Draws) (w : World) (hn0 : 0 ≤ c.nodes) (hn : c.nodes ≤ 64) :
    Calls Tryz.prog 105 #[c.val, .int .i64 self, d.val] w fun e w' => ∃ v, e = .returned v ∧ OwnSl w' 3 1 v (ints (targets c self d)) ∧ (∀ j, v.ownBlock = some j → w.heap.size ≤ j) ∧ Below w.heap.size w w' := by
  obtain ⟨M, hM⟩ := Int.eq_ofNat_of_zero_le hn0
  have HM := Lib.hid hM
  have hM64 : M ≤ 64 := by omega
  have hAD : ∀ n, asked c d n = (decide (c.policy = 1) || (decide (c.policy = 2) && bitI (d.at (n / 64)) (n % 64))) := fun n => rfl
  have HAD := Lib.hid hAD
  have hdec : decide (64 < c.nodes) = false := by simpa using hn
  have hdec0 : decide (c.nodes < 0) = false := by simpa using hn0
  clear hM hAD
  simp only [Config.val, Config.cells, Draws.val, Draws.cells]
  go_enter Tryz.func105, Tryz.ntmps105
  go_wp2_with fail
  go_loopw [7, 8] (fun v i wr => ∃ k : Nat, k ≤ M + 1 ∧ i = .int .i64 k ∧ OwnSl wr 3 1 v (ints (((List.range k).map Int.ofNat).filter fun n => asked c d n && decide (n ≠ self))) ∧ (∀ j, v.ownBlock = some j → w.heap.size + 2 ≤ j) ∧
      ob wr w.heap.size = some (.cells #[.int .i64 c.nodes, .int .i64 c.blocks, .int .i64 c.tokens, .int .i64 c.sets, .int .i64 c.ways, .int .i64 c.cap, .int .i64 c.wait, .int .i64 c.tries, .int .i64 c.policy] 23 (0, 0)) ∧
      ob wr (w.heap.size + 1) = some (.cells #[.int .i64 d.d0, .int .i64 d.d1, .int .i64 d.d2] 38 (0, 0)) ∧ Below w.heap.size w wr) (fun _ i _ => M + 1 - (intOf i).toNat)
  case atStart => exact ⟨0, Nat.zero_le _, rfl, OwnSl.made (e := 3) (rows := []) (ob_alloc_new _ _ _ (by simp)) RowsOk.nil rfl (by decide), fun j hj => by simp [Value.ownBlock] at hj; omega, by simp [go_sem], by simp [go_sem], Chg.below (by repeat (first | with_reducible exact Chg.refl _ _ | with_reducible exact chg0 | with_reducible refine Chg.drewN ?_ _ | with_reducible refine Chg.drew ?_ | with_reducible refine Chg.alloc ?_ _ | with_reducible refine Chg.setCell ?_ _ _ (by first | (simp; done) | omega | (simp; omega)) | with_reducible refine Chg.setBlock ?_ _ _ (by first | (simp; done) | omega | (simp; omega)) | exact Chg.refl _ _))⟩
  case round =>
    obtain ⟨k, hk, rfl, hown, hlo, ho0, ho1, hbr⟩ := hrel
    have Hown := Lib.hid hown
    have Hlo := Lib.hid hlo
    have Hbr := Lib.hid hbr
    have HO := Lib.hid (And.intro ho0 ho1)
    have k0 : wr.cell? ⟨w.heap.size, 0, none⟩ = some (.int .i64 c.nodes) := cell_ob ho0 0
    have k8 : wr.cell? ⟨w.heap.size, 8, none⟩ = some (.int .i64 c.policy) := cell_ob ho0 8
    have m0 : wr.cell? ⟨w.heap.size + 1, 0, none⟩ = some (.int .i64 d.d0) := cell_ob ho1 0
    have m1 : wr.cell? ⟨w.heap.size + 1, 1, none⟩ = some (.int .i64 d.d1) := cell_ob ho1 1
    have l1 := ob_lt ho1
    have l0 := ob_lt ho0
    clear hown hlo hbr ho0 ho1
    have HST := Lib.hid (targets_step c self d k)
    have hlen : (((List.range k).map Int.ofNat).filter fun n => asked c d n && decide (n ≠ self)).length ≤ 65 := by
      refine Nat.le_trans (List.length_filter_le _ _) ?_
      simp; omega
    have HTG := Lib.hid (show k = M + 1 → targets c self d = (((List.range k).map Int.ofNat).filter fun n => asked c d n && decide (n ≠ self)) from fun e => by
      unfold targets
      rw [HM.out, show ((M : Int) + 1).toNat = k by omega])
    generalize (((List.range k).map Int.ofNat).filter fun n => asked c d n && decide (n ≠ self)) = L at *
    by_cases hlt : k ≤ M
    · have hle : decide ((k : Int) ≤ c.nodes) = true := by rw [HM.out]; simpa using hlt
      by_cases q : (k : Int) = self
      · have q' : ((k : Int) == self) = true := by simpa using q
        have Q := Lib.hid q
        clear q
        go_wp2_with fail
        exact ⟨⟨k + 1, by omega, by go_num, by rw [HST.out]; simpa [Q.out] using Hown.out.chg (S := fun _ => False) (by repeat (first | with_reducible exact Chg.refl _ _ | with_reducible exact chg0 | with_reducible refine Chg.drewN ?_ _ | with_reducible refine Chg.drew ?_ | with_reducible refine Chg.alloc ?_ _ | with_reducible refine Chg.setCell ?_ _ _ (by first | (simp; done) | omega | (simp; omega)) | with_reducible refine Chg.setBlock ?_ _ _ (by first | (simp; done) | omega | (simp; omega)) | exact Chg.refl _ _)) (fun _ _ h => h), Hlo.out, HO.out.1, HO.out.2, Hbr.out⟩, by simp [intOf]; omega⟩
      · have q' : ((k : Int) == self) = false := by simpa using q
        have Q := Lib.hid q
        clear q
        by_cases p1 : c.policy = 1
        · have p1' : (c.policy == 1) = true := by simpa using p1
          have p2' : (c.policy == 2) = false := by rw [p1]; rfl
          have ha : asked c d k = true := by rw [HAD.out, p1]; rfl
          have HA := Lib.hid ha
          clear p1 ha
          go_upto_region 9 with fail
          go_cut [7] (fun s7 wx => OwnSl wx 3 1 s7 (ints (L ++ [(k : Int)])) ∧ (∀ j, s7.ownBlock = some j → w.heap.size + 2 ≤ j) ∧ ob wx w.heap.size = some (.cells #[.int .i64 c.nodes, .int .i64 c.blocks, .int .i64 c.tokens, .int .i64 c.sets, .int .i64 c.ways, .int .i64 c.cap, .int .i64 c.wait, .int .i64 c.tries, .int .i64 c.policy] 23 (0, 0)) ∧
            ob wx (w.heap.size + 1) = some (.cells #[.int .i64 d.d0, .int .i64 d.d1, .int .i64 d.d2] 38 (0, 0)) ∧ Below w.heap.size w wx)
          case first =>
            go_wp2_with (at_builtin; refine wpList_append_sl (xs := ints L) (ys := [[.int .i64 (k : Int)]]) rfl _ _ rfl tyInts rfl rfl (Hown.out.chg (S := fun _ => False) (by repeat (first | with_reducible exact Chg.refl _ _ | with_reducible exact chg0 | with_reducible refine Chg.drewN ?_ _ | with_reducible refine Chg.drew ?_ | with_reducible refine Chg.alloc ?_ _ | with_reducible refine Chg.setCell ?_ _ _ (by first | (simp; done) | omega | (simp; omega)) | with_reducible refine Chg.setBlock ?_ _ _ (by first | (simp; done) | omega | (simp; omega)) | exact Chg.refl _ _)) (fun _ _ h => h)) (OwnSl.made (e := 3) (ob_alloc_new _ _ _ rfl) (ints_ok [(k : Int)]) rfl (by simp)).slice (ints_ok [(k : Int)]) (by simp; omega) ?_; intro v5 w5 ho hc5 hloc)
            have hcc : Chg (fun j => u7.ownBlock = some j) wr w5 := Chg.trans (S' := fun j => u7.ownBlock = some j) (by repeat (first | with_reducible exact Chg.refl _ _ | with_reducible exact chg0 | with_reducible refine Chg.drewN ?_ _ | with_reducible refine Chg.drew ?_ | with_reducible refine Chg.alloc ?_ _ | with_reducible refine Chg.setCell ?_ _ _ (by first | (simp; done) | omega | (simp; omega)) | with_reducible refine Chg.setBlock ?_ _ _ (by first | (simp; done) | omega | (simp; omega)) | exact Chg.refl _ _)) hc5 (fun _ _ h => h)
            go_meet
            refine ⟨by rw [ints_append]; exact ho, ?_, hcc.ob HO.out.1 (fun e => by have := Hlo.out _ e; omega), hcc.ob HO.out.2 (fun e => by have := Hlo.out _ e; omega), below_chg Hbr.out hcc (fun j hj e => by have := Hlo.out j e; omega)⟩
            intro j hj
            rcases hloc with h | h
            · rw [h] at hj; exact Hlo.out j hj
            · rw [h] at hj; injection hj with hj; rw [← hj]; simp; omega
          case rest =>
          obtain ⟨h1, h2, h3, h4, h5⟩ := hcut
          have H1 := Lib.hid h1
          have H2 := Lib.hid h2
          have H3 := Lib.hid (And.intro h3 (And.intro h4 h5))
          have n8 : wc.cell? ⟨w.heap.size, 8, none⟩ = some (.int .i64 c.policy) := cell_ob h3 8
          have nl := ob_lt h3
          clear h1 h2 h3 h4 h5 k0 k8 m0 m1 l0 l1
          go_wp2_with fail
          exact ⟨⟨k + 1, by omega, by go_num, by rw [HST.out, HA.out]; simpa [Q.out] using H1.out.chg (S := fun _ => False) (by repeat (first | with_reducible exact Chg.refl _ _ | with_reducible exact chg0 | with_reducible refine Chg.drewN ?_ _ | with_reducible refine Chg.drew ?_ | with_reducible refine Chg.alloc ?_ _ | with_reducible refine Chg.setCell ?_ _ _ (by first | (simp; done) | omega | (simp; omega)) | with_reducible refine Chg.setBlock ?_ _ _ (by first | (simp; done) | omega | (simp; omega)) | exact Chg.refl _ _)) (fun _ _ h => h), H2.out, H3.out.1, H3.out.2.1, H3.out.2.2⟩, by simp [intOf]; omega⟩
        · have p1' : (c.policy == 1) = false := by simpa using p1
          obtain ⟨a, haa⟩ : ∃ a, a = asked c d k := ⟨_, rfl⟩
          rw [← haa] at HST
          have HAA := Lib.hid haa
          have P1 := Lib.hid p1
          clear haa p1
          go_upto_region 10 with fail
          go_cut [56] (fun s9 wx => s9 = .bool a ∧ wx = wr)
          case first =>
            by_cases p2 : c.policy = 2
            · have p2' : (c.policy == 2) = true := by simpa using p2
              have P2 := Lib.hid p2
              clear p2
              by_cases q : k < 64
              · have e1 : (k : Int) / 64 = 0 := by omega
                have e2 : (k : Int) % 64 = k := by omega
                have HB := Lib.hid (fun (W : World) => RefBit_calls d.d0 k W (by omega) (by omega))
                have ha : a = bitI d.d0 k := by rw [HAA.out, HAD.out, P2.out, e1, e2]; rfl
                have HA2 := Lib.hid ha
                have hk64 : ((k : Int) == 64) = false := by simp; omega
                clear ha e1 e2
                generalize bitI d.d0 k = bb at HB HA2
                cases bb <;> (go_wp2_with (go_at_call 114; refine (HB.out _).mono ?_; rintro e w' ⟨rfl, rfl⟩); go_meet; exact ⟨by rw [HA2.out], rfl⟩)
              · obtain rfl : k = 64 := by omega
                have HB := Lib.hid (fun (W : World) => RefBit_calls d.d1 0 W (by omega) (by omega))
                have ha : a = bitI d.d1 0 := by rw [HAA.out, HAD.out, P2.out]; rfl
                have HA2 := Lib.hid ha
                clear ha
                generalize bitI d.d1 0 = bb at HB HA2
                cases bb <;> (go_wp2_with (go_at_call 114; refine (HB.out _).mono ?_; rintro e w' ⟨rfl, rfl⟩); go_meet; exact ⟨by rw [HA2.out], rfl⟩)
            · have p2' : (c.policy == 2) = false := by simpa using p2
              have P2 := Lib.hid p2
              clear p2
              go_wp2_with fail
              go_meet
              exact ⟨by rw [HAA.out, HAD.out]; simp [P1.out, P2.out], rfl⟩
          case rest =>
          obtain ⟨rfl, hw⟩ := hcut
          replace hw := hw.symm
          subst hw
          cases a
          · go_wp2_with fail
            exact ⟨⟨k + 1, by omega, by go_num, by rw [HST.out]; simpa using Hown.out.chg (S := fun _ => False) (by repeat (first | with_reducible exact Chg.refl _ _ | with_reducible exact chg0 | with_reducible refine Chg.drewN ?_ _ | with_reducible refine Chg.drew ?_ | with_reducible refine Chg.alloc ?_ _ | with_reducible refine Chg.setCell ?_ _ _ (by first | (simp; done) | omega | (simp; omega)) | with_reducible refine Chg.setBlock ?_ _ _ (by first | (simp; done) | omega | (simp; omega)) | exact Chg.refl _ _)) (fun _ _ h => h), Hlo.out, HO.out.1, HO.out.2, Hbr.out⟩, by simp [intOf]; omega⟩
          · go_wp2_with (at_builtin; refine wpList_append_sl (xs := ints L) (ys := [[.int .i64 (k : Int)]]) rfl _ _ rfl tyInts rfl rfl (Hown.out.chg (S := fun _ => False) (by repeat (first | with_reducible exact Chg.refl _ _ | with_reducible exact chg0 | with_reducible refine Chg.drewN ?_ _ | with_reducible refine Chg.drew ?_ | with_reducible refine Chg.alloc ?_ _ | with_reducible refine Chg.setCell ?_ _ _ (by first | (simp; done) | omega | (simp; omega)) | with_reducible refine Chg.setBlock ?_ _ _ (by first | (simp; done) | omega | (simp; omega)) | exact Chg.refl _ _)) (fun _ _ h => h)) (OwnSl.made (e := 3) (ob_alloc_new _ _ _ rfl) (ints_ok [(k : Int)]) rfl (by simp)).slice (ints_ok [(k : Int)]) (by simp; omega) ?_; intro v5 w5 ho hc5 hloc)
            have hcc : Chg (fun j => u7.ownBlock = some j) wr w5 := Chg.trans (S' := fun j => u7.ownBlock = some j) (by repeat (first | with_reducible exact Chg.refl _ _ | with_reducible exact chg0 | with_reducible refine Chg.drewN ?_ _ | with_reducible refine Chg.drew ?_ | with_reducible refine Chg.alloc ?_ _ | with_reducible refine Chg.setCell ?_ _ _ (by first | (simp; done) | omega | (simp; omega)) | with_reducible refine Chg.setBlock ?_ _ _ (by first | (simp; done) | omega | (simp; omega)) | exact Chg.refl _ _)) hc5 (fun _ _ h => h)
            refine ⟨⟨k + 1, by omega, by go_num, by rw [HST.out, if_pos (by simpa using Q.out), ints_append]; exact ho, ?_, hcc.ob HO.out.1 (fun e => by have := Hlo.out _ e; omega), hcc.ob HO.out.2 (fun e => by have := Hlo.out _ e; omega), below_chg Hbr.out hcc (fun j hj e => by have := Hlo.out j e; omega)⟩, by simp [intOf]; omega⟩
            intro j hj
            rcases hloc with h | h
            · rw [h] at hj; exact Hlo.out j hj
            · rw [h] at hj; injection hj with hj; rw [← hj]; simp; omega
    · have hle : decide ((k : Int) ≤ c.nodes) = false := by rw [HM.out]; simp; omega
      have HT := Lib.hid (HTG.out (by omega))
      go_wp2_with fail
      go_ret
      exact ⟨_, rfl, by rw [HT.out]; exact Hown.out.chg (S := fun _ => False) (by repeat (first | with_reducible exact Chg.refl _ _ | with_reducible exact chg0 | with_reducible refine Chg.drewN ?_ _ | with_reducible refine Chg.drew ?_ | with_reducible refine Chg.alloc ?_ _ | with_reducible refine Chg.setCell ?_ _ _ (by first | (simp; done) | omega | (simp; omega)) | with_reducible refine Chg.setBlock ?_ _ _ (by first | (simp; done) | omega | (simp; omega)) | exact Chg.refl _ _)) (fun _ _ h => h), fun j hj => by have := Hlo.out j hj; omega, below_trans Hbr.out (Chg.below (by repeat (first | with_reducible exact Chg.refl _ _ | with_reducible exact chg0 | with_reducible refine Chg.drewN ?_ _ | with_reducible refine Chg.drew ?_ | with_reducible refine Chg.alloc ?_ _ | with_reducible refine Chg.setCell ?_ _ _ (by first | (simp; done) | omega | (simp; omega)) | with_reducible refine Chg.setBlock ?_ _ _ (by first | (simp; done) | omega | (simp; omega)) | exact Chg.refl _ _)))⟩
end Go.Proofs.YtchlioikkhnidaaGreat
