/-
  NodeLoads: an operation that a node waits for is over with just those tokens that let it be: a load with one that has the value, a store with all. No condition.
-/
import Derived.Test.YtchlioikkhnidaaGreatMN12
import Derived.Test.YtchlioikkhnidaaGreatMN2
import Derived.Test.YtchlioikkhnidaaGreatMA
set_option linter.unusedVariables false
set_option linter.unusedSimpArgs false
namespace Go.Proofs.YtchlioikkhnidaaGreat
open Go.RowKit Go.Sort Go.ChangeShapes Go.WideShapes Go.ChangeAt
open Go.ChangeMaps (setBlock)
set_option linter.unusedVariables false
set_option linter.unusedSimpArgs false
theorem placeBusy (v1 v2 : Value) (b : Bool) (x y : Int) (z : Bool) (w : World) : (Instr.field 50 (.agg #[v1, .bool b, .int .i64 x, .bool z, .int .i64 y, v2]) 1).run Tryz.prog w = .ok (.bool b) w := by kernel_rfl
theorem Nd0.base {w w1 w2 : World} {a : NAddr} {n : Node} {FC : Nat → Prop} (h : Nd0 w1 w2 a n FC) (hb : Below w.heap.size w w1) : Nd0 w w2 a n FC :=
  ⟨h.here, fun j hj => Nat.le_trans hb.size (h.low j hj), below_trans hb h.below⟩
def cfgOb (w : World) (b : Nat) (c : Config) : Prop := ob w b = some (.cells #[.int .i64 c.nodes, .int .i64 c.blocks, .int .i64 c.tokens, .int .i64 c.sets, .int .i64 c.ways, .int .i64 c.cap, .int .i64 c.wait, .int .i64 c.tries, .int .i64 c.policy] 23 (0, 0))
def opOb (w : World) (b : Nat) (op : Op) : Prop := ob w b = some (.cells #[.int .i64 op.block, .bool op.write, .int .i64 op.value] 25 (0, 0))
def bunOb (w : World) (k : Nat) (b : Bundle) : Prop := ob w k = some (.cells #[.int .i64 b.count, .bool b.owner, .bool b.has, .int .i64 b.data] 42 (0, 0))
def loadL (c : Config) (op : Op) (b : Bundle) : Letter := ⟨1, c.nodes, 0, op.block, 0, 0, false, b⟩
set_option maxHeartbeats 8000000 in
set_option maxRecDepth 20000 in
theorem nodeLoads_walk (c : Config) (hc : c.ok) (op : Op) (ho : op.ok) (b : Bundle) (hb : b.ok) (w : World) :
    Calls Tryz.prog 5 #[c.val, op.val, b.val] w fun e w' => e = .returned (.bool true) ∧ Below w.heap.size w w' := by
  have hpb := placeBusy
  clear hc ho hb
  by_cases hf : c.Fine
  · have HF := Lib.hid hf
    have HMY := Lib.hid (fun V => made15_yes c 0 none 0 0 V hf (by have := hf.nodes; omega) (by decide))
    have HLC := Lib.hid (fun V => RefLCheck_calls c (loadL c op b) V)
    have HLE := Lib.hid (Letter.err_zero (c := c) (l := loadL c op b))
    have HPL := Lib.hid (fun d hl hb' => loads_plain c op b d hl hb')
    obtain ⟨er, her⟩ : ∃ e, e = (loadL c op b).err c := ⟨_, rfl⟩
    rw [← her] at HLC HLE
    simp only [loadL, Config.val, Config.cells, Op.val, Op.cells, Bundle.val, Bundle.cells, Letter.val, Letter.cells] at HLC HMY ⊢
    clear hf her
    go_enter Tryz.func5, Tryz.ntmps5
    go_wp2_with fail
    refine (HMY.out _).mono ?_
    rintro e w1 ⟨a, FC, m, wm, rfl, hN, _, _, _, _⟩
    have oC : cfgOb w1 w.heap.size c := ob_step hN.below (by simp [go_sem])
    have oO : opOb w1 (w.heap.size + 1) op := ob_step hN.below (by simp [go_sem])
    have oB : bunOb w1 (w.heap.size + 1 + 1) b := ob_step hN.below (by simp [go_sem])
    have HLOW := Lib.hid (show ∀ j, nFp a FC j → w.heap.size + 3 ≤ j from fun j hj => by have := hN.low j hj; simp at this; omega)
    have HLT := Lib.hid (show ∀ j, nFp a FC j → j < w1.heap.size from hN.here.lt)
    have HN1 := Lib.hid (show Nd0 w w1 a (Node.new c 0) FC from hN.base (Chg.below (by repeat (first | with_reducible exact Chg.refl _ _ | with_reducible exact chg0 | with_reducible refine Chg.drewN ?_ _ | with_reducible refine Chg.drew ?_ | with_reducible refine Chg.alloc ?_ _ | with_reducible refine Chg.setCell ?_ _ _ (by first | (simp; done) | omega | (simp; omega)) | with_reducible refine Chg.setBlock ?_ _ _ (by first | (simp; done) | omega | (simp; omega)) | exact Chg.refl _ _))))
    obtain ⟨c0, c1, c2, c3, c4, c5, c6, c7, c8, cf, cl⟩ := ob_cells9 oC
    obtain ⟨p0, p1, p2, pf⟩ := ob_cells3 oO
    obtain ⟨b0, b1, b2, b3, bf⟩ := ob_cells4 oB
    have lo := ob_lt oO
    have lb := ob_lt oB
    have OC := Lib.hid oC
    have OO := Lib.hid oO
    have OB := Lib.hid oB
    clear hN oC oO oB HMY
    go_wp2_with fail
    refine (ndAwake_calls _).mono ?_
    rintro e w2 ⟨rfl, hb2⟩
    have hb12 : Below w1.heap.size w1 w2 := below_trans (Chg.below (by repeat (first | with_reducible exact Chg.refl _ _ | with_reducible exact chg0 | with_reducible refine Chg.drewN ?_ _ | with_reducible refine Chg.drew ?_ | with_reducible refine Chg.alloc ?_ _ | with_reducible refine Chg.setCell ?_ _ _ (by first | (simp; done) | omega | (simp; omega)) | with_reducible refine Chg.setBlock ?_ _ _ (by first | (simp; done) | omega | (simp; omega)) | exact Chg.refl _ _))) hb2
    have oL : lOb w2 w1.heap.size (loadL c op b) := ob_step hb2 (ob_alloc_at w1 _)
    have HN2 := Lib.hid (HN1.out.same hb12)
    have OC2 := Lib.hid (show cfgOb w2 w.heap.size c from ob_step hb12 OC.out)
    have OO2 := Lib.hid (show opOb w2 (w.heap.size + 1) op from ob_step hb12 OO.out)
    have OB2 := Lib.hid (show bunOb w2 (w.heap.size + 1 + 1) b from ob_step hb12 OB.out)
    have OL2 := Lib.hid oL
    clear c0 c1 c2 c3 c4 c5 c6 c7 c8 cf cl p0 p1 p2 pf b0 b1 b2 b3 bf lo lb hb2 hb12 oL OC OO OB HN1
    obtain ⟨c0, c1, c2, c3, c4, c5, c6, c7, c8, cf, cl⟩ := ob_cells9 OC2.out
    obtain ⟨x0, x1, x2, x3, x4, x5, x6, x7, x8, x9, x10⟩ := OL2.out.cells
    have ll := ob_lt OL2.out
    simp only [loadL] at x0 x1 x2 x3 x4 x5 x6 x7 x8 x9 x10
    go_wp2_with fail
    refine (HLC.out _).mono ?_
    rintro e w3 ⟨rfl, hb3⟩
    have hb23 : Below w2.heap.size w2 w3 := below_trans (Chg.below (by repeat (first | with_reducible exact Chg.refl _ _ | with_reducible exact chg0 | with_reducible refine Chg.drewN ?_ _ | with_reducible refine Chg.drew ?_ | with_reducible refine Chg.alloc ?_ _ | with_reducible refine Chg.setCell ?_ _ _ (by first | (simp; done) | omega | (simp; omega)) | with_reducible refine Chg.setBlock ?_ _ _ (by first | (simp; done) | omega | (simp; omega)) | exact Chg.refl _ _))) hb3
    by_cases q0 : er = 0
    · have q0' : (er != 0) = false := by simpa using q0
      have Q0 := Lib.hid q0
      clear q0
      have HLg := Lib.hid (HLE.out.1 Q0.out)
      have hlb := HLg.out.block
      have HBl := Lib.hid (show 0 ≤ op.block ∧ op.block < c.blocks from hlb)
      have HN3 := Lib.hid (HN2.out.same hb23)
      have OC3 := Lib.hid (show cfgOb w3 w.heap.size c from ob_step hb23 OC2.out)
      have OO3 := Lib.hid (show opOb w3 (w.heap.size + 1) op from ob_step hb23 OO2.out)
      have OB3 := Lib.hid (show bunOb w3 (w.heap.size + 1 + 1) b from ob_step hb23 OB2.out)
      have OL3 := Lib.hid (show lOb w3 w1.heap.size (loadL c op b) from ob_step hb23 OL2.out)
      clear c0 c1 c2 c3 c4 c5 c6 c7 c8 cf cl x0 x1 x2 x3 x4 x5 x6 x7 x8 x9 x10 hb3 hb23 ll OC2 OO2 OB2 OL2 HN2 hlb HLC
      obtain ⟨p0, p1, p2, pf⟩ := ob_cells3 OO3.out
      have lo := ob_lt OO3.out
      have HI := Lib.hid (fun (V : World) (hV : NodeIn V a (Node.new c 0) FC) => NodeIssue_calls op ⟨0, 0, 0⟩ hV (by simp [Node.new, Proc.new]))
      rw [issue_new c 0 op ⟨0, 0, 0⟩ HBl.out] at HI
      simp only [Op.val, Op.cells, Draws.val, Draws.cells] at HI
      go_wp2_with fail
      refine (HI.out _ (HN3.out.same (Chg.below (by repeat (first | with_reducible exact Chg.refl _ _ | with_reducible exact chg0 | with_reducible refine Chg.drewN ?_ _ | with_reducible refine Chg.drew ?_ | with_reducible refine Chg.alloc ?_ _ | with_reducible refine Chg.setCell ?_ _ _ (by first | (simp; done) | omega | (simp; omega)) | with_reducible refine Chg.setBlock ?_ _ _ (by first | (simp; done) | omega | (simp; omega)) | exact Chg.refl _ _)))).here).mono ?_
      rintro e w4 ⟨FC4, u1, u2, rfl, hs4⟩
      have hm4 := hs4.moves
      obtain ⟨a0, n0⟩ := hm4.aside (Chg.ob (S := fun _ => False) (by repeat (first | with_reducible exact Chg.refl _ _ | with_reducible exact chg0 | with_reducible refine Chg.drewN ?_ _ | with_reducible refine Chg.drew ?_ | with_reducible refine Chg.alloc ?_ _ | with_reducible refine Chg.setCell ?_ _ _ (by first | (simp; done) | omega | (simp; omega)) | with_reducible refine Chg.setBlock ?_ _ _ (by first | (simp; done) | omega | (simp; omega)) | exact Chg.refl _ _)) OC3.out (fun h => h)) (fun hf => by have := HLOW.out _ hf; omega)
      obtain ⟨a1, n1⟩ := hm4.aside (Chg.ob (S := fun _ => False) (by repeat (first | with_reducible exact Chg.refl _ _ | with_reducible exact chg0 | with_reducible refine Chg.drewN ?_ _ | with_reducible refine Chg.drew ?_ | with_reducible refine Chg.alloc ?_ _ | with_reducible refine Chg.setCell ?_ _ _ (by first | (simp; done) | omega | (simp; omega)) | with_reducible refine Chg.setBlock ?_ _ _ (by first | (simp; done) | omega | (simp; omega)) | exact Chg.refl _ _)) OO3.out (fun h => h)) (fun hf => by have := HLOW.out _ hf; omega)
      obtain ⟨a2, n2⟩ := hm4.aside (Chg.ob (S := fun _ => False) (by repeat (first | with_reducible exact Chg.refl _ _ | with_reducible exact chg0 | with_reducible refine Chg.drewN ?_ _ | with_reducible refine Chg.drew ?_ | with_reducible refine Chg.alloc ?_ _ | with_reducible refine Chg.setCell ?_ _ _ (by first | (simp; done) | omega | (simp; omega)) | with_reducible refine Chg.setBlock ?_ _ _ (by first | (simp; done) | omega | (simp; omega)) | exact Chg.refl _ _)) OB3.out (fun h => h)) (fun hf => by have := HLOW.out _ hf; omega)
      obtain ⟨a3, n3⟩ := hm4.aside (Chg.ob (S := fun _ => False) (by repeat (first | with_reducible exact Chg.refl _ _ | with_reducible exact chg0 | with_reducible refine Chg.drewN ?_ _ | with_reducible refine Chg.drew ?_ | with_reducible refine Chg.alloc ?_ _ | with_reducible refine Chg.setCell ?_ _ _ (by first | (simp; done) | omega | (simp; omega)) | with_reducible refine Chg.setBlock ?_ _ _ (by first | (simp; done) | omega | (simp; omega)) | exact Chg.refl _ _)) OL3.out (fun h => h)) (fun hf => by have := HLT.out _ hf; omega)
      have HN4 := Lib.hid ((HN3.out.same (Chg.below (by repeat (first | with_reducible exact Chg.refl _ _ | with_reducible exact chg0 | with_reducible refine Chg.drewN ?_ _ | with_reducible refine Chg.drew ?_ | with_reducible refine Chg.alloc ?_ _ | with_reducible refine Chg.setCell ?_ _ _ (by first | (simp; done) | omega | (simp; omega)) | with_reducible refine Chg.setBlock ?_ _ _ (by first | (simp; done) | omega | (simp; omega)) | exact Chg.refl _ _)))).sent hs4)
      have A0 := Lib.hid (And.intro (show cfgOb w4 w.heap.size c from a0) n0)
      have A1 := Lib.hid (And.intro (show opOb w4 (w.heap.size + 1) op from a1) n1)
      have A2 := Lib.hid (And.intro (show bunOb w4 (w.heap.size + 1 + 1) b from a2) n2)
      have A3 := Lib.hid (And.intro (show lOb w4 w1.heap.size (loadL c op b) from a3) n3)
      clear hs4 hm4 a0 a1 a2 a3 n0 n1 n2 n3 p0 p1 p2 pf lo HI OC3 OO3 OB3 OL3 HN3
      have hpl := HPL.out ⟨0, 0, 0⟩ HLg.out HBl.out
      have HT := Lib.hid (fun (V : World) (hV : NodeIn V a ({ Node.new c 0 with cpu := ((Proc.new c.wait c.tries).issue op).1 } : Node) FC4) => NodeTake_calls (loadL c op b) ⟨0, 0, 0⟩ hV (fun b' => by simp [Node.new, CacheM.new, Bundle.none]))
      obtain ⟨r, hr⟩ : ∃ r, r = ({ Node.new c 0 with cpu := ((Proc.new c.wait c.tries).issue op).1 } : Node).take (loadL c op b) ⟨0, 0, 0⟩ := ⟨_, rfl⟩
      change (({ Node.new c 0 with cpu := ((Proc.new c.wait c.tries).issue op).1 } : Node).take (loadL c op b) ⟨0, 0, 0⟩).2.1 = [] ∧ (({ Node.new c 0 with cpu := ((Proc.new c.wait c.tries).issue op).1 } : Node).take (loadL c op b) ⟨0, 0, 0⟩).1.cpu.busy = _ ∧ (({ Node.new c 0 with cpu := ((Proc.new c.wait c.tries).issue op).1 } : Node).take (loadL c op b) ⟨0, 0, 0⟩).2.2 = _ at hpl
      rw [← hr] at hpl HT
      have HR := Lib.hid hpl
      simp only [loadL, Letter.val, Letter.cells, Draws.val, Draws.cells] at HT
      clear hr hpl
      obtain ⟨x0, x1, x2, x3, x4, x5, x6, x7, x8, x9, x10⟩ := A3.out.1.cells
      have ll := ob_lt A3.out.1
      simp only [loadL] at x0 x1 x2 x3 x4 x5 x6 x7 x8 x9 x10
      go_wp2_with fail
      refine (HT.out _ (HN4.out.same (Chg.below (by repeat (first | with_reducible exact Chg.refl _ _ | with_reducible exact chg0 | with_reducible refine Chg.drewN ?_ _ | with_reducible refine Chg.drew ?_ | with_reducible refine Chg.alloc ?_ _ | with_reducible refine Chg.setCell ?_ _ _ (by first | (simp; done) | omega | (simp; omega)) | with_reducible refine Chg.setBlock ?_ _ _ (by first | (simp; done) | omega | (simp; omega)) | exact Chg.refl _ _)))).here).mono ?_
      rintro e w5 ⟨FC5, u1, u2, rfl, hs5⟩
      have hm5 := hs5.moves
      obtain ⟨a0, n0⟩ := hm5.aside (Chg.ob (S := fun _ => False) (by repeat (first | with_reducible exact Chg.refl _ _ | with_reducible exact chg0 | with_reducible refine Chg.drewN ?_ _ | with_reducible refine Chg.drew ?_ | with_reducible refine Chg.alloc ?_ _ | with_reducible refine Chg.setCell ?_ _ _ (by first | (simp; done) | omega | (simp; omega)) | with_reducible refine Chg.setBlock ?_ _ _ (by first | (simp; done) | omega | (simp; omega)) | exact Chg.refl _ _)) A0.out.1 (fun h => h)) A0.out.2
      obtain ⟨a1, n1⟩ := hm5.aside (Chg.ob (S := fun _ => False) (by repeat (first | with_reducible exact Chg.refl _ _ | with_reducible exact chg0 | with_reducible refine Chg.drewN ?_ _ | with_reducible refine Chg.drew ?_ | with_reducible refine Chg.alloc ?_ _ | with_reducible refine Chg.setCell ?_ _ _ (by first | (simp; done) | omega | (simp; omega)) | with_reducible refine Chg.setBlock ?_ _ _ (by first | (simp; done) | omega | (simp; omega)) | exact Chg.refl _ _)) A1.out.1 (fun h => h)) A1.out.2
      obtain ⟨a2, n2⟩ := hm5.aside (Chg.ob (S := fun _ => False) (by repeat (first | with_reducible exact Chg.refl _ _ | with_reducible exact chg0 | with_reducible refine Chg.drewN ?_ _ | with_reducible refine Chg.drew ?_ | with_reducible refine Chg.alloc ?_ _ | with_reducible refine Chg.setCell ?_ _ _ (by first | (simp; done) | omega | (simp; omega)) | with_reducible refine Chg.setBlock ?_ _ _ (by first | (simp; done) | omega | (simp; omega)) | exact Chg.refl _ _)) A2.out.1 (fun h => h)) A2.out.2
      have HN5 := Lib.hid ((HN4.out.same (Chg.below (by repeat (first | with_reducible exact Chg.refl _ _ | with_reducible exact chg0 | with_reducible refine Chg.drewN ?_ _ | with_reducible refine Chg.drew ?_ | with_reducible refine Chg.alloc ?_ _ | with_reducible refine Chg.setCell ?_ _ _ (by first | (simp; done) | omega | (simp; omega)) | with_reducible refine Chg.setBlock ?_ _ _ (by first | (simp; done) | omega | (simp; omega)) | exact Chg.refl _ _)))).sent hs5)
      have HO5 := Lib.hid ((HN4.out.same (Chg.below (by repeat (first | with_reducible exact Chg.refl _ _ | with_reducible exact chg0 | with_reducible refine Chg.drewN ?_ _ | with_reducible refine Chg.drew ?_ | with_reducible refine Chg.alloc ?_ _ | with_reducible refine Chg.setCell ?_ _ _ (by first | (simp; done) | omega | (simp; omega)) | with_reducible refine Chg.setBlock ?_ _ _ (by first | (simp; done) | omega | (simp; omega)) | exact Chg.refl _ _)))).outs hs5)
      have C0 := Lib.hid (show cfgOb w5 w.heap.size c from a0)
      have C1 := Lib.hid (show opOb w5 (w.heap.size + 1) op from a1)
      have C2 := Lib.hid (show bunOb w5 (w.heap.size + 1 + 1) b from a2)
      obtain ⟨B1, m1, s1, e1⟩ := hs5.letters.shape
      obtain ⟨B2, m2, s2, e2⟩ := hs5.done.shape
      subst e1
      subst e2
      have hz1 : m1 = 0 := by
        obtain ⟨_, _, e, _⟩ := hs5.letters.slice
        rw [HR.out.1] at e
        injection e
      subst hz1
      clear hs5 hm5 a0 a1 a2 n0 n1 n2 x0 x1 x2 x3 x4 x5 x6 x7 x8 x9 x10 ll HT A0 A1 A2 A3 HN4
      obtain ⟨c0, c1, c2, c3, c4, c5, c6, c7, c8, cf, cl⟩ := ob_cells9 C0.out
      obtain ⟨p0, p1, p2, pf⟩ := ob_cells3 C1.out
      obtain ⟨b0, b1, b2, b3, bf⟩ := ob_cells4 C2.out
      have lo := ob_lt C1.out
      have lb := ob_lt C2.out
      obtain ⟨mv, hmv⟩ : ∃ m, m = loadMay c op b := ⟨_, rfl⟩
      rw [← hmv] at HR
      have hmv' : mv = (b.has && (!op.write || decide (b.count = c.tokens))) := hmv
      have HMV := Lib.hid hmv'
      clear hmv hmv'
      go_upto_region 7 with fail
      go_cut [12] (fun s12 wx => s12 = .bool mv ∧ wx = w5.alloc (Obj.cells #[Value.slice B1 0 s1, Value.slice B2 m2 s2] 35))
      case first =>
        obtain ⟨bh, hbh⟩ : ∃ x, x = b.has := ⟨_, rfl⟩
        obtain ⟨ow, how⟩ : ∃ x, x = op.write := ⟨_, rfl⟩
        rw [← hbh] at b2
        rw [← how] at p1
        have HBH := Lib.hid hbh
        have HOW := Lib.hid how
        clear hbh how
        cases bh
        · go_wp2_with fail
          go_meet
          exact ⟨congrArg Value.bool (by rw [HMV.out, ← HBH.out]; rfl), rfl⟩
        · cases ow
          · go_wp2_with fail
            go_meet
            exact ⟨congrArg Value.bool (by rw [HMV.out, ← HBH.out, ← HOW.out]; rfl), rfl⟩
          · go_wp2_with fail
            go_meet
            exact ⟨congrArg Value.bool (by rw [HMV.out, ← HBH.out, ← HOW.out]; simp [beq_int]), rfl⟩
      case rest =>
        obtain ⟨rfl, rfl⟩ := hcut
        have HP := Lib.hid (fun (V : World) (hV : NodeIn V a r.1 FC5) => NodePlace_calls hV)
        rw [HR.out.2.1] at HP
        cases mv
        · simp only [Bool.not_false] at HP
          go_wp2_with fail
          refine (HP.out _ (HN5.out.same (Chg.below (by repeat (first | with_reducible exact Chg.refl _ _ | with_reducible exact chg0 | with_reducible refine Chg.drewN ?_ _ | with_reducible refine Chg.drew ?_ | with_reducible refine Chg.alloc ?_ _ | with_reducible refine Chg.setCell ?_ _ _ (by first | (simp; done) | omega | (simp; omega)) | with_reducible refine Chg.setBlock ?_ _ _ (by first | (simp; done) | omega | (simp; omega)) | exact Chg.refl _ _)))).here).mono ?_
          rintro e w7 ⟨u1, u2, rfl, hl7, ha7, hb7⟩
          have hb57 : Below w5.heap.size w5 w7 := below_trans (Chg.below (by repeat (first | with_reducible exact Chg.refl _ _ | with_reducible exact chg0 | with_reducible refine Chg.drewN ?_ _ | with_reducible refine Chg.drew ?_ | with_reducible refine Chg.alloc ?_ _ | with_reducible refine Chg.setCell ?_ _ _ (by first | (simp; done) | omega | (simp; omega)) | with_reducible refine Chg.setBlock ?_ _ _ (by first | (simp; done) | omega | (simp; omega)) | exact Chg.refl _ _))) hb7
          have e6 := ob_step hb7 (ob_alloc_at w5 (Obj.cells #[Value.slice B1 0 s1, Value.slice B2 m2 s2] 35))
          have k1 : w7.cell? ⟨w5.heap.size, 1, none⟩ = some (.slice B2 m2 s2) := cell_ob e6 1
          have l6 := ob_lt e6
          have hz2 : m2 = 0 := by
            obtain ⟨_, _, e, _⟩ := HO5.out.2.1.slice
            rw [HR.out.2.2] at e
            injection e
          subst hz2
          have HB7 := Lib.hid (below_trans HN5.out.below hb57)
          clear hl7 ha7 hb7 hb57 e6 c0 c1 c2 c3 c4 c5 c6 c7 c8 cf cl p0 p1 p2 pf b0 b1 b2 b3 bf lo lb
          go_wp2_with fail
          go_ret
          exact ⟨by simp, HB7.out⟩
        · simp only [Bool.not_true] at HP
          go_wp2_with fail
          refine (HP.out _ (HN5.out.same (Chg.below (by repeat (first | with_reducible exact Chg.refl _ _ | with_reducible exact chg0 | with_reducible refine Chg.drewN ?_ _ | with_reducible refine Chg.drew ?_ | with_reducible refine Chg.alloc ?_ _ | with_reducible refine Chg.setCell ?_ _ _ (by first | (simp; done) | omega | (simp; omega)) | with_reducible refine Chg.setBlock ?_ _ _ (by first | (simp; done) | omega | (simp; omega)) | exact Chg.refl _ _)))).here).mono ?_
          rintro e w7 ⟨u1, u2, rfl, hl7, ha7, hb7⟩
          have hb57 : Below w5.heap.size w5 w7 := below_trans (Chg.below (by repeat (first | with_reducible exact Chg.refl _ _ | with_reducible exact chg0 | with_reducible refine Chg.drewN ?_ _ | with_reducible refine Chg.drew ?_ | with_reducible refine Chg.alloc ?_ _ | with_reducible refine Chg.setCell ?_ _ _ (by first | (simp; done) | omega | (simp; omega)) | with_reducible refine Chg.setBlock ?_ _ _ (by first | (simp; done) | omega | (simp; omega)) | exact Chg.refl _ _))) hb7
          have e6 := ob_step hb7 (ob_alloc_at w5 (Obj.cells #[Value.slice B1 0 s1, Value.slice B2 m2 s2] 35))
          have k1 : w7.cell? ⟨w5.heap.size, 1, none⟩ = some (.slice B2 m2 s2) := cell_ob e6 1
          have l6 := ob_lt e6
          have HB7 := Lib.hid (below_trans HN5.out.below hb57)
          have hD := (HO5.out.2.step hb57).1.slice
          have hr2 : r.2.2 = [(⟨0, 1, op, if op.write = true then op.value else b.data, 0⟩ : Done)] := by rw [HR.out.2.2]; rfl
          rw [hr2] at hD
          have HD := Lib.hid hD
          have D1 := ob_step hb57 C1.out
          have D2 := ob_step hb57 C2.out
          clear hl7 ha7 hb7 hb57 e6 hD c0 c1 c2 c3 c4 c5 c6 c7 c8 cf cl p0 p1 p2 pf b0 b1 b2 b3 bf lo lb
          obtain ⟨ow, how⟩ : ∃ x, x = op.write := ⟨_, rfl⟩
          rw [← how] at HD
          obtain ⟨p0, p1, p2, pf⟩ := ob_cells3 (show opOb w7 (w.heap.size + 1) op from D1)
          obtain ⟨b0, b1, b2, b3, bf⟩ := ob_cells4 (show bunOb w7 (w.heap.size + 1 + 1) b from D2)
          have lo := ob_lt D1
          have lb := ob_lt D2
          rw [← how] at p1
          have HOW := Lib.hid how
          clear D1 D2 how
          cases ow
          · go_wp2_with fail
            refine (done_same [⟨0, 1, op, b.data, 0⟩] _ _ _ ((show SliceIs w7 7 _ ([(⟨0, 1, op, b.data, 0⟩ : Done)].map Done.cells) from HD.out).below (Chg.below (by repeat (first | with_reducible exact Chg.refl _ _ | with_reducible exact chg0 | with_reducible refine Chg.drewN ?_ _ | with_reducible refine Chg.drew ?_ | with_reducible refine Chg.alloc ?_ _ | with_reducible refine Chg.setCell ?_ _ _ (by first | (simp; done) | omega | (simp; omega)) | with_reducible refine Chg.setBlock ?_ _ _ (by first | (simp; done) | omega | (simp; omega)) | exact Chg.refl _ _)))) (laid_slice (e := 60) (rows := [⟨0, 1, op, b.data, 0⟩].map Done.cells) (by first | exact ob_alloc_new _ _ _ (by simp) | (rw [ob_drewN]; exact ob_alloc_new _ _ _ (by simp))) (dones_ok _) (by simp [Done.cells, ← HOW.out]) (by simp))).mono ?_
            rintro e w9 ⟨rfl, m9, rfl⟩
            go_wp2_with fail
            go_ret
            exact ⟨rfl, below_trans HB7.out (Chg.below (by repeat (first | with_reducible exact Chg.refl _ _ | with_reducible exact chg0 | with_reducible refine Chg.drewN ?_ _ | with_reducible refine Chg.drew ?_ | with_reducible refine Chg.alloc ?_ _ | with_reducible refine Chg.setCell ?_ _ _ (by first | (simp; done) | omega | (simp; omega)) | with_reducible refine Chg.setBlock ?_ _ _ (by first | (simp; done) | omega | (simp; omega)) | exact Chg.refl _ _)))⟩
          · go_wp2_with fail
            refine (done_same [⟨0, 1, op, op.value, 0⟩] _ _ _ ((show SliceIs w7 7 _ ([(⟨0, 1, op, op.value, 0⟩ : Done)].map Done.cells) from HD.out).below (Chg.below (by repeat (first | with_reducible exact Chg.refl _ _ | with_reducible exact chg0 | with_reducible refine Chg.drewN ?_ _ | with_reducible refine Chg.drew ?_ | with_reducible refine Chg.alloc ?_ _ | with_reducible refine Chg.setCell ?_ _ _ (by first | (simp; done) | omega | (simp; omega)) | with_reducible refine Chg.setBlock ?_ _ _ (by first | (simp; done) | omega | (simp; omega)) | exact Chg.refl _ _)))) (laid_slice (e := 60) (rows := [⟨0, 1, op, op.value, 0⟩].map Done.cells) (by first | exact ob_alloc_new _ _ _ (by simp) | (rw [ob_drewN]; exact ob_alloc_new _ _ _ (by simp))) (dones_ok _) (by simp [Done.cells, ← HOW.out]) (by simp))).mono ?_
            rintro e w9 ⟨rfl, m9, rfl⟩
            go_wp2_with fail
            go_ret
            exact ⟨rfl, below_trans HB7.out (Chg.below (by repeat (first | with_reducible exact Chg.refl _ _ | with_reducible exact chg0 | with_reducible refine Chg.drewN ?_ _ | with_reducible refine Chg.drew ?_ | with_reducible refine Chg.alloc ?_ _ | with_reducible refine Chg.setCell ?_ _ _ (by first | (simp; done) | omega | (simp; omega)) | with_reducible refine Chg.setBlock ?_ _ _ (by first | (simp; done) | omega | (simp; omega)) | exact Chg.refl _ _)))⟩
    · have q0' : (er != 0) = true := by simpa using q0
      clear q0
      have HN3 := Lib.hid (HN2.out.same hb23)
      go_wp2_with fail
      refine (ndAwake_calls _).mono ?_
      rintro e w4 ⟨rfl, hb4⟩
      go_wp2_with fail
      go_ret
      exact ⟨rfl, below_trans HN3.out.below (below_trans (Chg.below (by repeat (first | with_reducible exact Chg.refl _ _ | with_reducible exact chg0 | with_reducible refine Chg.drewN ?_ _ | with_reducible refine Chg.drew ?_ | with_reducible refine Chg.alloc ?_ _ | with_reducible refine Chg.setCell ?_ _ _ (by first | (simp; done) | omega | (simp; omega)) | with_reducible refine Chg.setBlock ?_ _ _ (by first | (simp; done) | omega | (simp; omega)) | exact Chg.refl _ _))) hb4)⟩
  · have HMN := Lib.hid (fun V => made15_no c 0 none 0 0 V (fun h => hf h.1))
    simp only [Config.val, Config.cells, Op.val, Op.cells, Bundle.val, Bundle.cells] at HMN ⊢
    clear hf
    go_enter Tryz.func5, Tryz.ntmps5
    go_wp2_with fail
    refine (HMN.out _).mono ?_
    rintro e w1 ⟨rfl, hb1⟩
    have oC : cfgOb w1 w.heap.size c := ob_step hb1 (by simp [go_sem])
    have oO : opOb w1 (w.heap.size + 1) op := ob_step hb1 (by simp [go_sem])
    have oB : bunOb w1 (w.heap.size + 1 + 1) b := ob_step hb1 (by simp [go_sem])
    have HB1 := Lib.hid (show Below w.heap.size w w1 from below_trans (Chg.below (by repeat (first | with_reducible exact Chg.refl _ _ | with_reducible exact chg0 | with_reducible refine Chg.drewN ?_ _ | with_reducible refine Chg.drew ?_ | with_reducible refine Chg.alloc ?_ _ | with_reducible refine Chg.setCell ?_ _ _ (by first | (simp; done) | omega | (simp; omega)) | with_reducible refine Chg.setBlock ?_ _ _ (by first | (simp; done) | omega | (simp; omega)) | exact Chg.refl _ _))) hb1)
    obtain ⟨c0, c1, c2, c3, c4, c5, c6, c7, c8, cf, cl⟩ := ob_cells9 oC
    obtain ⟨p0, p1, p2, pf⟩ := ob_cells3 oO
    obtain ⟨b0, b1, b2, b3, bf⟩ := ob_cells4 oB
    have lo := ob_lt oO
    have lb := ob_lt oB
    clear oC oO oB hb1
    go_wp2_with fail
    refine (ndAwake_calls _).mono ?_
    rintro e w2 ⟨rfl, hb2⟩
    have hb12 : Below w1.heap.size w1 w2 := below_trans (Chg.below (by repeat (first | with_reducible exact Chg.refl _ _ | with_reducible exact chg0 | with_reducible refine Chg.drewN ?_ _ | with_reducible refine Chg.drew ?_ | with_reducible refine Chg.alloc ?_ _ | with_reducible refine Chg.setCell ?_ _ _ (by first | (simp; done) | omega | (simp; omega)) | with_reducible refine Chg.setBlock ?_ _ _ (by first | (simp; done) | omega | (simp; omega)) | exact Chg.refl _ _))) hb2
    clear c0 c1 c2 c3 c4 c5 c6 c7 c8 cf cl p0 p1 p2 pf b0 b1 b2 b3 bf lo lb hb2
    go_wp2_with fail
    refine (ndAwake_calls _).mono ?_
    rintro e w3 ⟨rfl, hb3⟩
    go_wp2_with fail
    go_ret
    exact ⟨rfl, below_trans HB1.out (below_trans hb12 (below_trans (Chg.below (by repeat (first | with_reducible exact Chg.refl _ _ | with_reducible exact chg0 | with_reducible refine Chg.drewN ?_ _ | with_reducible refine Chg.drew ?_ | with_reducible refine Chg.alloc ?_ _ | with_reducible refine Chg.setCell ?_ _ _ (by first | (simp; done) | omega | (simp; omega)) | with_reducible refine Chg.setBlock ?_ _ _ (by first | (simp; done) | omega | (simp; omega)) | exact Chg.refl _ _))) hb3))⟩

set_option maxRecDepth 100000 in
theorem nodeLoads_lifted (os : Os) (started : os.Started) (H : Type) (enc : TypeId × Value → H) :
    ReturnsInHanded {} Tryz.checked os 5 .any (Rows.nodeLoadsSpec.pre6 enc Tryz.prog Tryz.f5 Rows.nodeLoadsRow.domain false) (Rows.nodeLoadsSpec.post enc Tryz.prog Tryz.f5 false true false false) := by
  refine returnsInHanded_of_change (C := Tryz.checked) law_own started (by kernel_rfl) Tryz.func5
    (ChangeSpec.witness6 (enc := enc) (C := Tryz.checked) false ⟨#[], #[.agg #[.int .i64 0, .int .i64 0, .int .i64 0, .int .i64 0, .int .i64 0, .int .i64 0, .int .i64 0, .int .i64 0, .int .i64 0], .agg #[.int .i64 0, .bool false, .int .i64 0], .agg #[.int .i64 0, .bool false, .bool false, .int .i64 0]], []⟩ 8 (by kernel_rfl) (by kernel_rfl) (by kernel_rfl) (by kernel_rfl)) ?_
  intro W base args ds gs before hval0 hW hcnd _
  have hval : ∀ (j : Nat) t v, Tryz.f5.params[j]? = some t → args[j]? = some v → Value.okWide Tryz.prog W .any base t v := hval0
  have hW' := hW
  obtain ⟨p, q, hA0, hV, rfl, hfz, hnd⟩ := hW
  have hA : DataW.TrodAll enc Tryz.prog W 0 (fun _ => true) true Tryz.f5.params.toList args.toList ds p := hA0
  rw [Tryz.params5] at hA hval
  obtain ⟨v0, vs0, d0, ds0, p0, q0, hargs, rfl, rfl, h0, r0⟩ := trodAll_cons hA
  obtain ⟨v1, vs1, d1, ds1, p1, q1, rfl, rfl, rfl, h1, r1⟩ := trodAll_cons r0
  obtain ⟨v2, vs2, d2, ds2, p2, q2, rfl, rfl, rfl, h2, r2⟩ := trodAll_cons r1
  obtain ⟨rfl, rfl, rfl⟩ := trodAll_nil r2
  obtain rfl : args = #[v0, v1, v2] := by cases args; simp_all
  obtain ⟨rfl, rfl⟩ := trodVars_none hV
  have k0 := h0
  have lt0 : ∀ x ∈ p0, x.block < W.heap.size := by obtain ⟨m, hm⟩ := k0; exact DataW.trod_lt m _ _ _ hm
  obtain ⟨f0, g0⟩ := h0
  obtain ⟨cs0, rfl, _⟩ := okWide_struct Tryz.underlying23 (hval 0 23 v0 rfl rfl)
  obtain ⟨x0, e0, o0⟩ := Config.of_trod g0
  obtain rfl : cs0 = x0.cells.toArray := by simp only [Value.cells] at e0; rw [← e0]
  have k1 := h1
  have lt1 : ∀ x ∈ p1, x.block < W.heap.size := by obtain ⟨m, hm⟩ := k1; exact DataW.trod_lt m _ _ _ hm
  obtain ⟨f1, g1⟩ := h1
  obtain ⟨cs1, rfl, _⟩ := okWide_struct Tryz.underlying25 (hval 1 25 v1 rfl rfl)
  obtain ⟨x1, e1, o1⟩ := Op.of_trod g1
  obtain rfl : cs1 = x1.cells.toArray := by simp only [Value.cells] at e1; rw [← e1]
  have k2 := h2
  have lt2 : ∀ x ∈ p2, x.block < W.heap.size := by obtain ⟨m, hm⟩ := k2; exact DataW.trod_lt m _ _ _ hm
  obtain ⟨f2, g2⟩ := h2
  obtain ⟨cs2, rfl, _⟩ := okWide_struct Tryz.underlying42 (hval 2 42 v2 rfl rfl)
  obtain ⟨x2, e2, o2⟩ := Bundle.of_trod g2
  obtain rfl : cs2 = x2.cells.toArray := by simp only [Value.cells] at e2; rw [← e2]
  clear hA0 hval0
  refine (nodeLoads_walk x0 o0 x1 o1 x2 o2 W).mono fun e W' ⟨he, bel⟩ => ?_
  subst he
  exact ⟨_, rfl, _, _, _, [], _, [], hW', trodAll_mk1 (shut_bool Tryz.underlying4 _), (trodAll_cons_mk (Below.trod law_laidOut (by kernel_rfl) (of_decide_eq_true (by kernel_rfl)) k0 bel lt0) (trodAll_cons_mk (Below.trod law_laidOut (by kernel_rfl) (of_decide_eq_true (by kernel_rfl)) k1 bel lt1) (trodAll_cons_mk (Below.trod law_laidOut (by kernel_rfl) (of_decide_eq_true (by kernel_rfl)) k2 bel lt2) trodAll_mk0))), rfl, bel.frame _, fun h => by cases h⟩

theorem nodeLoads_holds : Rows.NodeLoadsSaid :=
  OpenClaim.holds_of_wide 5 Tryz.f5 rfl rfl rfl rfl rfl rfl rfl ⟨rfl, rfl, rfl, rfl, rfl⟩ rfl rfl rfl rfl rfl (by kernel_rfl) Tryz.func5 (by kernel_rfl)
    (of_decide_eq_true (by kernel_rfl)) (by unfold Func.isWrapper; first | (rw [if_pos (by decide +kernel)]; kernel_rfl) | (rw [if_neg (by decide +kernel)]; exact ⟨rfl, rfl⟩))
    (fun os started H enc _ => nodeLoads_lifted os started H enc)
end Go.Proofs.YtchlioikkhnidaaGreat
