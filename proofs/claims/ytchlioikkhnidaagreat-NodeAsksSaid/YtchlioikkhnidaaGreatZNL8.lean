/-
  NodeAsks: an operation that isn't over is asked for persistently once, with the tick that is said; whatever else comes that brings no tokens. No condition.
-/
import Derived.Test.YtchlioikkhnidaaGreatMD3
import Derived.Test.YtchlioikkhnidaaGreatMQ1
import Derived.Test.YtchlioikkhnidaaGreatMQ2
set_option linter.unusedVariables false
set_option linter.unusedSimpArgs false
namespace Go.Proofs.YtchlioikkhnidaaGreat
open Go.RowKit Go.Sort Go.ChangeShapes Go.WideShapes Go.ChangeAt
open Go.ChangeMaps (setBlock)
set_option linter.unusedVariables false
set_option linter.unusedSimpArgs false
def kinds (k : Int) (L : List Letter) : Nat := L.countP fun x => decide (x.kind = k)
theorem kinds_append (k : Int) (A B : List Letter) : kinds k (A ++ B) = kinds k A + kinds k B := by simp [kinds]
theorem kinds_none {k : Int} {L : List Letter} (h : ∀ x ∈ L, x.kind ≠ k) : kinds k L = 0 := by
  unfold kinds
  rw [List.countP_eq_zero]
  intro x hx
  simpa using h x hx
theorem ask_kind {n : Node} {op : Op} {d : Draws} : ∀ x ∈ n.ask op d, x.kind = 2 := fun x hx => by
  unfold Node.ask at hx
  obtain ⟨y, _, rfl⟩ := List.mem_map.1 hx
  rfl
theorem letter_one (x : Letter) : x.cells.toArray.all (·.oneCell') = true := all_oneCell_toArray (by intro v hv; simp only [Letter.cells, List.mem_cons, List.not_mem_nil, or_false] at hv; rcases hv with rfl | rfl | rfl | rfl | rfl | rfl | rfl | rfl | rfl | rfl | rfl <;> rfl)
def letO (x : Letter) : Obj := .cells x.cells.toArray 44 (0, 0)
/-- The program's node and the document's, side by side. -/
structure Asks (w wr : World) (a : NAddr) (n : Node) (F : Nat → Prop) (r : RAddr) (n' : Node) (F' : Nat → Prop) (vA vT : Value) (oT : Obj) : Prop where
  one : Nd0 w wr a n F
  two : RNodeIn wr r n' F' vA vT oT
  low : ∀ j, (rFp r F' j ∨ vA.ownBlock = some j) → w.heap.size ≤ j
  apart : ∀ j, nFp a F j → ¬ (rFp r F' j ∨ vA.ownBlock = some j)
section
variable {w wr wx : World} {a : NAddr} {n n' m : Node} {F F' FF : Nat → Prop} {r : RAddr} {vA vB vT v1 v2 : Value} {oT : Obj} {L : List Letter} {D : List Done}
theorem Asks.same (h : Asks w wr a n F r n' F' vA vT oT) (hb : Below wr.heap.size wr wx) : Asks w wx a n F r n' F' vA vT oT := ⟨h.one.same hb, h.two.below hb, h.low, h.apart⟩
theorem Asks.left (h : Asks w wr a n F r n' F' vA vT oT) (hs : Sent wr wx a m F FF v1 v2 L D) : Asks w wx a m FF r n' F' vA vT oT :=
  ⟨h.one.sent hs, h.two.chg hs.moves.chg (fun j hj hf => h.apart j hf hj), h.low, fun j hj hr => (hs.moves.fresh j hj).elim (fun hf => h.apart j hf hr) (fun hl => by have := h.two.lt j hr; omega)⟩
theorem Asks.right (h : Asks w wr a n F r n' F' vA vT oT) (h2 : RNodeIn wx r m FF vB vT oT) (hm : Moves wr wx (rFp r F') (rFp r FF)) (hv : ∀ j, vB.ownBlock = some j → vA.ownBlock = some j ∨ wr.heap.size ≤ j) : Asks w wx a n F r m FF vB vT oT := by
  have hsz := h.one.below.size
  have key : ∀ j, (rFp r FF j ∨ vB.ownBlock = some j) → (rFp r F' j ∨ vA.ownBlock = some j) ∨ wr.heap.size ≤ j := fun j hj => by
    rcases hj with hj | hj
    · exact (hm.fresh j hj).imp .inl id
    · exact (hv j hj).imp .inr id
  refine ⟨⟨h.one.here.chg hm.chg (fun j hj hr => h.apart j hj (.inl hr)), h.one.low, below_chg h.one.below hm.chg (fun j hj hr => by have := h.low j (.inl hr); omega)⟩, h2, fun j hj => ?_, fun j hj hr => ?_⟩
  · rcases key j hj with h1 | h1
    · exact h.low j h1
    · omega
  · rcases key j hr with h1 | h1
    · exact h.apart j hj h1
    · have := h.one.here.lt j hj; omega
end
theorem newProc_ok {c : Config} (hc : c.Fine) : (Proc.new c.wait c.tries).Ok := ⟨⟨by simp [Proc.new], by have := hc.tries; simp [Proc.new]; omega, by simp [Proc.new], by simp [Proc.new]⟩, hc.wait, hc.tries, by simp [Proc.new]⟩
theorem RefNew15.rnode {w0 w : World} {p : Nat} {c : Config} {id : Int} (h : RefNew15 w0 w p c id) (hp : w0.heap.size ≤ p) (hc : c.Fine) (hi : 0 ≤ id ∧ id < c.nodes) :
    ∃ r F vT oT, r.p = p ∧ RNodeIn w r (Node.new c id) F (.slice none 0 0) vT oT ∧ ∀ j, rFp r F j → w0.heap.size ≤ j := by
  obtain ⟨p1, lp1, F1, p2, p3, h1, h2, h3, h4, ⟨h5, h6, h7⟩, h8, h9, h10, h11, h12⟩ := h
  refine ⟨⟨p, p1, p2, p3⟩, F1, _, _, rfl, ⟨h1, ⟨lp1, [], h2, Toks.nil, CacheM.new_ok _ _⟩, h3, ⟨h4, newProc_ok hc⟩, ⟨[], OwnSl.nil, by simp, fun b => by simp [Node.new]⟩, ⟨by show p ≠ p2; omega, by show p ≠ p3; omega, h7, fun hf => by have := (h8 _ hf).2; exact Nat.lt_irrefl _ this, h5, h6⟩, fun j hj => (by cases hj), hc, hi⟩, fun j hj => ?_⟩
  rcases hj with rfl | rfl | rfl | hj
  · exact hp
  · exact h9
  · exact h10
  · exact (h8 j hj).1
theorem wrap64_small {z : Int} (h0 : 0 ≤ z) (h1 : z < 1000) : RowKit.wrap64 z = z := by
  exact Go.IntWalk.wrap64_in z ⟨by omega, by omega⟩
/-! ### What is asked -/
structure AskInv (c : Config) (op : Op) (n : Node) (k : Nat) : Prop where
  runs : n.Runs k
  nc : n.c = c
  busy : n.cpu.busy = true
  op : n.cpu.op = op
theorem tick_keeps {c : Config} {op : Op} {n : Node} {k : Nat} (h : AskInv c op n k) (hc : c.Fine) (d : Draws) : AskInv c op (n.tick d).1 (k + 1) ∧ kinds 3 (n.tick d).2 + (if n.asked op.block = true then 1 else 0) = (if (n.tick d).1.asked op.block = true then 1 else 0) := by
  have ht : n.cpu.tick.1.busy = n.cpu.busy ∧ n.cpu.tick.1.op = n.cpu.op := by unfold Proc.tick; split <;> exact ⟨rfl, rfl⟩
  have hr : (n.tick d).1.Runs (k + 1) := by
    have := h.runs.step (by rw [h.nc]; exact hc) ⟨3, op, default, d⟩
    have e : (n.step ⟨3, op, default, d⟩).1 = (n.tick d).1 := by unfold Node.step; simp
    rw [e] at this
    exact this
  have hs : n.tick d = if n.cpu.tick.2 = 1 then ({ n with cpu := n.cpu.tick.1 }, n.ask n.cpu.op d) else if n.cpu.tick.2 = 2 ∧ n.asked n.cpu.op.block = false then ({ n with cpu := n.cpu.tick.1, asked := fun j => if j = n.cpu.op.block then true else n.asked j }, [n.home 3 n.cpu.op.block 0]) else ({ n with cpu := n.cpu.tick.1 }, []) := rfl
  rw [h.op] at hs
  have hb := h.busy
  have ho := h.op
  by_cases q1 : n.cpu.tick.2 = 1
  · rw [if_pos q1] at hs
    rw [hs] at hr ⊢
    refine ⟨⟨hr, h.nc, ht.1.trans hb, ht.2.trans ho⟩, ?_⟩
    rw [kinds_none (fun x hx => by rw [ask_kind x hx]; decide)]
    simp
  · rw [if_neg q1] at hs
    by_cases q2 : n.cpu.tick.2 = 2 ∧ n.asked op.block = false
    · rw [if_pos q2] at hs
      rw [hs] at hr ⊢
      refine ⟨⟨hr, h.nc, ht.1.trans hb, ht.2.trans ho⟩, ?_⟩
      simp [kinds, Node.home, Letter.plain, q2.2]
    · rw [if_neg q2] at hs
      rw [hs] at hr ⊢
      refine ⟨⟨hr, h.nc, ht.1.trans hb, ht.2.trans ho⟩, ?_⟩
      simp [kinds]
theorem outField0 (v1 v2 : Value) (w : World) : (Instr.field 35 (.agg #[v1, v2]) 0).run Tryz.prog w = .ok v1 w := by kernel_rfl
theorem kinds_take {k : Int} {L : List Letter} {j : Nat} {x : Letter} (h : L.take (j + 1) = L.take j ++ [x]) : kinds k (L.take (j + 1)) = kinds k (L.take j) + if x.kind = k then 1 else 0 := by
  rw [h, kinds_append]
  simp [kinds]
set_option maxHeartbeats 8000000 in
set_option maxRecDepth 20000 in
theorem nodeAsks_walk (c : Config) (hc : c.ok) (op : Op) (ho : op.ok) (ticks : Int) (ht : i64ok ticks) (w : World) :
    Calls Tryz.prog 7 #[c.val, op.val, .int .i64 ticks] w fun e w' => e = .returned (.bool true) ∧ Below w.heap.size w w' := by
  clear ho hc
  by_cases hf : c.Fine
  · have HF := Lib.hid hf
    have hi0 : (0 : Int) ≤ 0 ∧ 0 < c.nodes := ⟨by omega, by have := hf.nodes; omega⟩
    have HMY := Lib.hid (fun V => made15_yes c 0 none 0 0 V hf hi0 (by decide))
    have HI0 := Lib.hid hi0
    simp only [Config.val, Config.cells, Op.val, Op.cells, Int.natCast_zero] at HMY ⊢
    clear hf hi0
    go_enter Tryz.func7, Tryz.ntmps7
    go_wp2_with fail
    refine (HMY.out _).mono ?_
    rintro e w1 ⟨a, FC, m, wm, rfl, hN, hRf, hlo, hwm, hww⟩
    have oC : cfgOb w1 w.heap.size c := ob_step hN.below (by simp [go_sem])
    have oO : opOb w1 (w.heap.size + 1) op := ob_step hN.below (by simp [go_sem])
    obtain ⟨r, FR, vT, oT, hrp, hR, hrl⟩ := hRf.rnode hwm HF.out HI0.out
    have hsz : w.heap.size + 2 ≤ wm.heap.size := by have h1 := hww; simp at h1; omega
    have HK := Lib.hid (show Asks w w1 a (Node.new c 0) FC r (Node.new c 0) FR (.slice none 0 0) vT oT from by
      refine ⟨hN.base (Chg.below (by repeat (first | with_reducible exact Chg.refl _ _ | with_reducible exact chg0 | with_reducible refine Chg.drewN ?_ _ | with_reducible refine Chg.drew ?_ | with_reducible refine Chg.alloc ?_ _ | with_reducible refine Chg.setCell ?_ _ _ (by first | (simp; done) | omega | (simp; omega)) | with_reducible refine Chg.setBlock ?_ _ _ (by first | (simp; done) | omega | (simp; omega)) | exact Chg.refl _ _))), hR, fun j hj => ?_, fun j hj hr => ?_⟩
      · rcases hj with hj | hj
        · have := hrl j hj; omega
        · cases hj
      · rcases hr with hr | hr
        · have h1 := hrl j hr; have h2 := hlo j hj; omega
        · cases hr)
    have HLOW := Lib.hid (show ∀ j, nFp a FC j → w.heap.size + 2 ≤ j from fun j hj => by have := hN.low j hj; simp at this; omega)
    have HLR := Lib.hid (show ∀ j, rFp r FR j → w.heap.size + 2 ≤ j from fun j hj => by have := hrl j hj; omega)
    have OCO := Lib.hid (And.intro oC oO)
    subst hrp
    clear hN hRf hlo hwm hww oC oO hR hrl hsz HMY
    go_wp2_with fail
    refine (ndAwake_calls _).mono ?_
    rintro e w2 ⟨rfl, hb2⟩
    have hb12 : Below w1.heap.size w1 w2 := below_trans (Chg.below (by repeat (first | with_reducible exact Chg.refl _ _ | with_reducible exact chg0 | with_reducible refine Chg.drewN ?_ _ | with_reducible refine Chg.drew ?_ | with_reducible refine Chg.alloc ?_ _ | with_reducible refine Chg.setCell ?_ _ _ (by first | (simp; done) | omega | (simp; omega)) | with_reducible refine Chg.setBlock ?_ _ _ (by first | (simp; done) | omega | (simp; omega)) | exact Chg.refl _ _))) hb2
    have HK2 := Lib.hid (HK.out.same hb12)
    have OC2 := Lib.hid (And.intro (show cfgOb w2 w.heap.size c from ob_step hb12 OCO.out.1) (show opOb w2 (w.heap.size + 1) op from ob_step hb12 OCO.out.2))
    clear hb2 hb12 HK OCO
    obtain ⟨c0, c1, c2, c3, c4, c5, c6, c7, c8, cf, cl⟩ := ob_cells9 OC2.out.1
    obtain ⟨p0, p1, p2, pf⟩ := ob_cells3 OC2.out.2
    have lo := ob_lt OC2.out.2
    by_cases q1 : op.block < 0
    · have q1' : decide (op.block < 0) = true := by simpa using q1
      clear q1
      go_wp2_with fail
      refine (ndAwake_calls _).mono ?_
      rintro e w4 ⟨rfl, hb4⟩
      go_wp2_with fail
      go_ret
      exact ⟨rfl, below_trans HK2.out.one.below (below_trans (Chg.below (by repeat (first | with_reducible exact Chg.refl _ _ | with_reducible exact chg0 | with_reducible refine Chg.drewN ?_ _ | with_reducible refine Chg.drew ?_ | with_reducible refine Chg.alloc ?_ _ | with_reducible refine Chg.setCell ?_ _ _ (by first | (simp; done) | omega | (simp; omega)) | with_reducible refine Chg.setBlock ?_ _ _ (by first | (simp; done) | omega | (simp; omega)) | exact Chg.refl _ _))) hb4)⟩
    have q1' : decide (op.block < 0) = false := by simpa using q1
    by_cases q2 : c.blocks ≤ op.block
    · have q2' : decide (c.blocks ≤ op.block) = true := by simpa using q2
      clear q1 q2
      go_wp2_with fail
      refine (ndAwake_calls _).mono ?_
      rintro e w4 ⟨rfl, hb4⟩
      go_wp2_with fail
      go_ret
      exact ⟨rfl, below_trans HK2.out.one.below (below_trans (Chg.below (by repeat (first | with_reducible exact Chg.refl _ _ | with_reducible exact chg0 | with_reducible refine Chg.drewN ?_ _ | with_reducible refine Chg.drew ?_ | with_reducible refine Chg.alloc ?_ _ | with_reducible refine Chg.setCell ?_ _ _ (by first | (simp; done) | omega | (simp; omega)) | with_reducible refine Chg.setBlock ?_ _ _ (by first | (simp; done) | omega | (simp; omega)) | exact Chg.refl _ _))) hb4)⟩
    have q2' : decide (c.blocks ≤ op.block) = false := by simpa using q2
    have hbk : 0 ≤ op.block ∧ op.block < c.blocks := ⟨by omega, by omega⟩
    have hiss := issue_new c 0 op ⟨0, 0, 0⟩ hbk
    have HI := Lib.hid (fun (V : World) (hV : NodeIn V a (Node.new c 0) FC) => NodeIssue_calls op ⟨0, 0, 0⟩ hV (show (0 : Int) < 1000000000 by decide))
    rw [hiss] at HI
    have hdn : ((Node.new c 0).cache.does op c.tokens).2.2 = false := by simp [CacheM.does, Node.new, CacheM.new, Bundle.may, Bundle.none]
    have HJ := Lib.hid (fun (V : World) (hV : RNodeIn V r (Node.new c 0) FR (.slice none 0 0) vT oT) => RefIssue15_new op ⟨0, 0, 0⟩ hV hbk rfl (show (0 : Int) < 1000000000 by decide) hdn)
    have hinv : AskInv c op { Node.new c 0 with cpu := ((Proc.new c.wait c.tries).issue op).1 } 1 := by
      have h1 := (Node.Runs.new c 0).step HF.out ⟨1, op, default, ⟨0, 0, 0⟩⟩
      have e : ((Node.new c 0).step ⟨1, op, default, ⟨0, 0, 0⟩⟩).1 = { Node.new c 0 with cpu := ((Proc.new c.wait c.tries).issue op).1 } := by unfold Node.step; simp [hiss]
      rw [e] at h1
      exact ⟨h1, rfl, by simp [Proc.issue, Proc.new], by simp [Proc.issue, Proc.new]⟩
    have HIN := Lib.hid hinv
    have HA0 := Lib.hid (show ∀ b, ({ Node.new c 0 with cpu := ((Proc.new c.wait c.tries).issue op).1 } : Node).asked b = false from fun _ => rfl)
    simp only [Op.val, Op.cells, Draws.val, Draws.cells] at HI HJ
    rw [show (Node.new c 0).cpu.issue op = (Proc.new c.wait c.tries).issue op from rfl] at HJ
    generalize ({ Node.new c 0 with cpu := ((Proc.new c.wait c.tries).issue op).1 } : Node) = n1 at HI HJ HIN HA0
    clear hiss hdn hinv hbk q1 q2
    go_wp2_with fail
    refine (HI.out _ (HK2.out.same (Chg.below (by repeat (first | with_reducible exact Chg.refl _ _ | with_reducible exact chg0 | with_reducible refine Chg.drewN ?_ _ | with_reducible refine Chg.drew ?_ | with_reducible refine Chg.alloc ?_ _ | with_reducible refine Chg.setCell ?_ _ _ (by first | (simp; done) | omega | (simp; omega)) | with_reducible refine Chg.setBlock ?_ _ _ (by first | (simp; done) | omega | (simp; omega)) | exact Chg.refl _ _)))).one.here).mono ?_
    rintro e w3 ⟨F3, u1, u2, rfl, hs3⟩
    have HK3 := Lib.hid ((HK2.out.same (Chg.below (by repeat (first | with_reducible exact Chg.refl _ _ | with_reducible exact chg0 | with_reducible refine Chg.drewN ?_ _ | with_reducible refine Chg.drew ?_ | with_reducible refine Chg.alloc ?_ _ | with_reducible refine Chg.setCell ?_ _ _ (by first | (simp; done) | omega | (simp; omega)) | with_reducible refine Chg.setBlock ?_ _ _ (by first | (simp; done) | omega | (simp; omega)) | exact Chg.refl _ _)))).left hs3)
    have nA : ¬ nFp a FC (w.heap.size + 1) := fun hf => by have := HLOW.out _ hf; omega
    have hO3 : opOb w3 (w.heap.size + 1) op := hs3.moves.chg.ob (Chg.ob (S := fun _ => False) (w := w2) (by repeat (first | with_reducible exact Chg.refl _ _ | with_reducible exact chg0 | with_reducible refine Chg.drewN ?_ _ | with_reducible refine Chg.drew ?_ | with_reducible refine Chg.alloc ?_ _ | with_reducible refine Chg.setCell ?_ _ _ (by first | (simp; done) | omega | (simp; omega)) | with_reducible refine Chg.setBlock ?_ _ _ (by first | (simp; done) | omega | (simp; omega)) | exact Chg.refl _ _)) OC2.out.2 (fun h => h)) nA
    clear hs3 c0 c1 c2 c3 c4 c5 c6 c7 c8 cf cl p0 p1 p2 pf lo HK2 HI OC2 nA q1' q2' HLOW
    obtain ⟨p0, p1, p2, pf⟩ := ob_cells3 hO3
    have lo := ob_lt hO3
    go_wp2_with fail
    refine (HJ.out _ (HK3.out.same (Chg.below (by repeat (first | with_reducible exact Chg.refl _ _ | with_reducible exact chg0 | with_reducible refine Chg.drewN ?_ _ | with_reducible refine Chg.drew ?_ | with_reducible refine Chg.alloc ?_ _ | with_reducible refine Chg.setCell ?_ _ _ (by first | (simp; done) | omega | (simp; omega)) | with_reducible refine Chg.setBlock ?_ _ _ (by first | (simp; done) | omega | (simp; omega)) | exact Chg.refl _ _)))).two).mono ?_
    rintro e w4 ⟨v4, F4, rfl, hR4, hm4⟩
    have HK4 := Lib.hid ((HK3.out.same (Chg.below (by repeat (first | with_reducible exact Chg.refl _ _ | with_reducible exact chg0 | with_reducible refine Chg.drewN ?_ _ | with_reducible refine Chg.drew ?_ | with_reducible refine Chg.alloc ?_ _ | with_reducible refine Chg.setCell ?_ _ _ (by first | (simp; done) | omega | (simp; omega)) | with_reducible refine Chg.setBlock ?_ _ _ (by first | (simp; done) | omega | (simp; omega)) | exact Chg.refl _ _)))).right hR4 hm4 (fun j hj => .inl hj))
    have HLL := Lib.hid (show ∃ LA, OwnSl w4 3 1 (.slice none 0 0) (ints LA) ∧ (LA.length ≤ 0 ∧ ∀ b, n1.asked b = decide (b ∈ LA)) from ⟨[], OwnSl.nil, by simp, fun b => by rw [HA0.out b]; simp⟩)
    clear hR4 hm4 hO3 p0 p1 p2 pf lo HK3 HJ HLR
    have hu : IntKind.u64.wrap ticks = ticks % 18446744073709551616 := IntKind.wrap_u64 ticks
    obtain ⟨u, hue⟩ : ∃ u, u = ticks % 18446744073709551616 := ⟨_, rfl⟩
    have hu0 : 0 ≤ u ∧ u < 18446744073709551616 := by omega
    rw [← hue] at hu
    have HU := Lib.hid hu
    clear hue hu ht
    go_upto_region 7 with fail
    go_cut [51, 52] (fun s51 s52 wx => ∃ N : Nat, N < 300 ∧ s51 = .int .i64 N ∧ s52 = .int .i64 0 ∧ wx = w4)
    case first =>
      go_wp2_with fail
      go_meet
      refine ⟨(u % 300).toNat, by omega, ?_, rfl, rfl⟩
      have e1 : u.tmod 300 = u % 300 := Int.tmod_eq_emod_of_nonneg hu0.1
      have e2 : ((u % 300).toNat : Int) = u % 300 := by omega
      rw [e2]
      have hu2 := HU.out
      simp [hu2, e1, IntKind.wrap_u64, IntKind.wrap_i64]
      (try (rw [wrap64_small (by omega) (by omega)]))
      try omega
    case rest =>
    obtain ⟨N, hN300, rfl, rfl, hw⟩ := hcut
    replace hw := hw.symm
    subst hw
    clear hu0 HU
    go_wp2_with fail
    go_loopg [52, 10] N (fun g i s10 wx => ∃ (wr : World) (k : Nat) (n : Node) (F F' : Nat → Prop) (vA : Value), wx = wr ∧ k ≤ N ∧ g = N - k ∧ i = .int .i64 k ∧ s10 = .int .i64 (if n.asked op.block = true then 1 else 0) ∧ Asks w wr a n F r n F' vA vT oT ∧ AskInv c op n (k + 1) ∧ ∃ LA, OwnSl wr 3 1 vA (ints LA) ∧ (LA.length ≤ k ∧ ∀ b, n.asked b = decide (b ∈ LA)))
    case atStart => exact ⟨_, 0, n1, F3, F4, _, rfl, Nat.zero_le _, rfl, rfl, by rw [HA0.out]; rfl, HK4.out, HIN.out, HLL.out⟩
    case round =>
      obtain ⟨wr, k, n, F, F', vA, hwx, hk, rfl, rfl, rfl, hK, hIn, hL⟩ := hrel
      replace hwx := hwx.symm
      subst hwx
      clear HK4 HIN HLL HA0
      have HK := Lib.hid hK
      have HIn := Lib.hid hIn
      have HL := Lib.hid hL
      clear hK hIn hL
      by_cases hlt : k < N
      · obtain ⟨t1, t2⟩ := tick_keeps HIn.out HF.out ⟨0, 0, 0⟩
        have HT := Lib.hid (fun (V : World) (hV : RNodeIn V r n F' vA vT oT) (hL : ∃ LA, OwnSl V 3 1 vA (ints LA) ∧ (LA.length ≤ k ∧ ∀ b, n.asked b = decide (b ∈ LA))) => RefTick15_calls ⟨0, 0, 0⟩ hV hL (by omega))
        have HP := Lib.hid (fun (V : World) (hV : NodeIn V a n F) => NodeTick_calls ⟨0, 0, 0⟩ hV)
        obtain ⟨⟨n', L⟩, htk⟩ : ∃ t, t = n.tick ⟨0, 0, 0⟩ := ⟨_, rfl⟩
        simp only [← htk] at HT HP t1 t2
        have HI1 := Lib.hid t1
        have HI2 := Lib.hid t2
        obtain ⟨ba, hba⟩ : ∃ ba : Nat, ba = if n.asked op.block = true then 1 else 0 := ⟨_, rfl⟩
        have hbi : (if n.asked op.block = true then (1 : Int) else 0) = (ba : Int) := by rw [hba]; split <;> rfl
        rw [← hba] at HI2
        simp only [hbi]
        simp only [Draws.val, Draws.cells] at HT HP
        have HLAst := Lib.hid (HK.out.one.here.lt)
        clear htk t1 t2 hba hbi
        go_wp2_with fail
        refine (HT.out _ (HK.out.same (Chg.below (by repeat (first | with_reducible exact Chg.refl _ _ | with_reducible exact chg0 | with_reducible refine Chg.drewN ?_ _ | with_reducible refine Chg.drew ?_ | with_reducible refine Chg.alloc ?_ _ | with_reducible refine Chg.setCell ?_ _ _ (by first | (simp; done) | omega | (simp; omega)) | with_reducible refine Chg.setBlock ?_ _ _ (by first | (simp; done) | omega | (simp; omega)) | exact Chg.refl _ _)))).two (by obtain ⟨LA, h1, h2⟩ := HL.out; exact ⟨LA, h1.chg (S := fun _ => False) (by repeat (first | with_reducible exact Chg.refl _ _ | with_reducible exact chg0 | with_reducible refine Chg.drewN ?_ _ | with_reducible refine Chg.drew ?_ | with_reducible refine Chg.alloc ?_ _ | with_reducible refine Chg.setCell ?_ _ _ (by first | (simp; done) | omega | (simp; omega)) | with_reducible refine Chg.setBlock ?_ _ _ (by first | (simp; done) | omega | (simp; omega)) | exact Chg.refl _ _)) (fun _ _ h => h), h2⟩)).mono ?_
        rintro e w5 ⟨v5, vB, rfl, hR5, hm5, ho5, hl5, hLA5, hv5⟩
        have HK5 := Lib.hid ((HK.out.same (Chg.below (by repeat (first | with_reducible exact Chg.refl _ _ | with_reducible exact chg0 | with_reducible refine Chg.drewN ?_ _ | with_reducible refine Chg.drew ?_ | with_reducible refine Chg.alloc ?_ _ | with_reducible refine Chg.setCell ?_ _ _ (by first | (simp; done) | omega | (simp; omega)) | with_reducible refine Chg.setBlock ?_ _ _ (by first | (simp; done) | omega | (simp; omega)) | exact Chg.refl _ _)))).right hR5 hm5 hv5)
        have HV5 := Lib.hid ho5
        have HLA5 := Lib.hid hLA5
        have hnv : ∀ j, v5.ownBlock = some j → ¬ nFp a F j := fun j hj hf => by have h1 := hl5 j hj; have h2 := HLAst.out j hf; (try simp at h1); omega
        have HNV := Lib.hid hnv
        clear hR5 hm5 ho5 hl5 hLA5 hv5 hnv HK HL HT
        have hfld := outField0
        go_wp2_with fail
        refine (HP.out _ (HK5.out.same (Chg.below (by repeat (first | with_reducible exact Chg.refl _ _ | with_reducible exact chg0 | with_reducible refine Chg.drewN ?_ _ | with_reducible refine Chg.drew ?_ | with_reducible refine Chg.alloc ?_ _ | with_reducible refine Chg.setCell ?_ _ _ (by first | (simp; done) | omega | (simp; omega)) | with_reducible refine Chg.setBlock ?_ _ _ (by first | (simp; done) | omega | (simp; omega)) | exact Chg.refl _ _)))).one.here).mono ?_
        rintro e w6 ⟨F6, u1, u2, rfl, hs6⟩
        obtain ⟨B1, s1, e1⟩ := hs6.letters.form
        rw [List.length_map] at e1
        subst e1
        have HK6 := Lib.hid ((HK5.out.same (Chg.below (by repeat (first | with_reducible exact Chg.refl _ _ | with_reducible exact chg0 | with_reducible refine Chg.drewN ?_ _ | with_reducible refine Chg.drew ?_ | with_reducible refine Chg.alloc ?_ _ | with_reducible refine Chg.setCell ?_ _ _ (by first | (simp; done) | omega | (simp; omega)) | with_reducible refine Chg.setBlock ?_ _ _ (by first | (simp; done) | omega | (simp; omega)) | exact Chg.refl _ _)))).left hs6)
        have HV6 := Lib.hid ((HV5.out.chg (S := fun _ => False) (Chg.of_below (Chg.below (w := w5) (by repeat (first | with_reducible exact Chg.refl _ _ | with_reducible exact chg0 | with_reducible refine Chg.drewN ?_ _ | with_reducible refine Chg.drew ?_ | with_reducible refine Chg.alloc ?_ _ | with_reducible refine Chg.setCell ?_ _ _ (by first | (simp; done) | omega | (simp; omega)) | with_reducible refine Chg.setBlock ?_ _ _ (by first | (simp; done) | omega | (simp; omega)) | exact Chg.refl _ _)))) (fun _ _ h => h)).chg hs6.moves.chg (fun j hj hf => HNV.out j hj hf))
        have HL6 := Lib.hid hs6.letters
        have HLA6 := Lib.hid (show ∃ LA, OwnSl w6 3 1 vB (ints LA) ∧ (LA.length ≤ k + 1 ∧ ∀ b, n'.asked b = decide (b ∈ LA)) from by
          obtain ⟨LA, h1, h2⟩ := HLA5.out
          exact ⟨LA, (h1.chg (S := fun _ => False) (Chg.of_below (Chg.below (w := w5) (by repeat (first | with_reducible exact Chg.refl _ _ | with_reducible exact chg0 | with_reducible refine Chg.drewN ?_ _ | with_reducible refine Chg.drew ?_ | with_reducible refine Chg.alloc ?_ _ | with_reducible refine Chg.setCell ?_ _ _ (by first | (simp; done) | omega | (simp; omega)) | with_reducible refine Chg.setBlock ?_ _ _ (by first | (simp; done) | omega | (simp; omega)) | exact Chg.refl _ _)))) (fun _ _ h => h)).chg hs6.moves.chg (fun j hj hf => HK5.out.apart j hf (.inr hj)), h2⟩)
        have hkl : kinds 3 L ≤ 1 := by have := HI2.out; split at this <;> omega
        have hba1 : ba ≤ 1 := by have := HI2.out; split at this <;> omega
        clear hs6 HK5 HV5 HLA5 HNV HP HLAst
        go_wp2_with fail
        go_loopg [63, 10] L.length (fun g i s10 wx => ∃ (wq : World) (j : Nat), wx = wq ∧ j ≤ L.length ∧ g = L.length - j ∧ i = .int .i64 j ∧ s10 = .int .i64 ((ba + kinds 3 (L.take j) : Nat) : Int) ∧ Below w6.heap.size w6 wq)
        case atStart => exact ⟨_, 0, rfl, Nat.zero_le _, rfl, rfl, by simp [kinds], Chg.below (by repeat (first | with_reducible exact Chg.refl _ _ | with_reducible exact chg0 | with_reducible refine Chg.drewN ?_ _ | with_reducible refine Chg.drew ?_ | with_reducible refine Chg.alloc ?_ _ | with_reducible refine Chg.setCell ?_ _ _ (by first | (simp; done) | omega | (simp; omega)) | with_reducible refine Chg.setBlock ?_ _ _ (by first | (simp; done) | omega | (simp; omega)) | exact Chg.refl _ _))⟩
        case round =>
          obtain ⟨wq, j, hwx, hj, rfl, rfl, rfl, hb⟩ := hrel
          replace hwx := hwx.symm
          subst hwx
          have HB := Lib.hid hb
          by_cases hlj : j < L.length
          · obtain ⟨A5, s5, e7, _, _, hat⟩ := sliceOf (cells := Letter.cells) (HL6.out.slice.below hb)
            cases e7
            obtain ⟨qb, qo, e8, hr⟩ := hat (by omega)
            subst e8
            have hrow := hr j hlj
            have htk : L.take (j + 1) = L.take j ++ [L[j]] := List.take_succ_eq_append_getElem hlj
            have hkt := kinds_take (k := 3) htk
            have hle : kinds 3 (L.take (j + 1)) ≤ 1 := Nat.le_trans ((List.take_sublist _ _).countP_le) hkl
            generalize L[j] = x at hrow hkt
            have HROW := Lib.hid hrow
            have HKT := Lib.hid hkt
            clear hr hrow htk hat hb hkt
            obtain ⟨kj, hkj⟩ : ∃ kj, kj = kinds 3 (L.take j) := ⟨_, rfl⟩
            rw [← hkj] at HKT
            simp only [← hkj]
            clear hkj
            go_upto_region 13 with fail
            go_cut [14] (fun s16 wx => s16 = .pointer (some ⟨wq.heap.size, 0, none⟩) ∧ ob wx wq.heap.size = some (letO x) ∧ Below wq.heap.size wq wx)
            case first =>
              have h18 : x.cells.toArray.size = 11 := rfl
              have hone : x.cells.toArray.all (·.oneCell') = true := letter_one x
              have HFIN := Lib.hid (fun W : World => show ob (W.alloc (.cells x.cells.toArray 44)) W.heap.size = some (letO x) from ob_alloc_at _ _)
              have HR := HROW
              generalize x.cells = CS at HR h18 hone HFIN
              go_wp2_with (first | (refine wpList_load_row rfl 44 _ rfl qb (qo + j * 11) rfl CS HR.out (by kernel_rfl) (Eq.trans (by kernel_rfl : _ = some 11) (by simpa using h18.symm)) ?_) | (refine wpList_store_new rfl 44 _ _ rfl _ CS.toArray rfl rfl (Eq.trans (by kernel_rfl : _ = some 11) (by simpa using h18.symm)) (by simpa using h18.symm) hone ?_))
              go_meet
              exact ⟨rfl, HFIN.out _, Chg.below (by repeat (first | with_reducible exact Chg.refl _ _ | with_reducible exact chg0 | with_reducible refine Chg.drewN ?_ _ | with_reducible refine Chg.drew ?_ | with_reducible refine Chg.alloc ?_ _ | with_reducible refine Chg.setCell ?_ _ _ (by first | (simp; done) | omega | (simp; omega)) | with_reducible refine Chg.setBlock ?_ _ _ (by first | (simp; done) | omega | (simp; omega)) | exact Chg.refl _ _))⟩
            case rest =>
            obtain ⟨rfl, hA, hbA⟩ := hcut
            have x0 : wc.cell? ⟨wq.heap.size, 0, none⟩ = some (.int .i64 x.kind) := cell_ob hA 0
            have lA := ob_lt hA
            have HB2 := Lib.hid (below_trans HB.out hbA)
            clear hA hbA HROW HB
            by_cases q3 : x.kind = 3
            · have q3' : (x.kind == 3) = true := by simpa using q3
              have hk1 := HKT.out
              rw [if_pos q3] at hk1
              have HK1 := Lib.hid hk1
              have hkb : kj ≤ 1 := by omega
              clear q3 hk1
              go_wp2_with fail
              go_roundg (L.length - (j + 1))
              case rel => exact ⟨_, j + 1, rfl, by omega, rfl, by go_num, by rw [HK1.out]; go_num, below_trans HB2.out (Chg.below (by repeat (first | with_reducible exact Chg.refl _ _ | with_reducible exact chg0 | with_reducible refine Chg.drewN ?_ _ | with_reducible refine Chg.drew ?_ | with_reducible refine Chg.alloc ?_ _ | with_reducible refine Chg.setCell ?_ _ _ (by first | (simp; done) | omega | (simp; omega)) | with_reducible refine Chg.setBlock ?_ _ _ (by first | (simp; done) | omega | (simp; omega)) | exact Chg.refl _ _)))⟩
              case measure => omega
            · have q3' : (x.kind == 3) = false := by simpa using q3
              have hk1 := HKT.out
              rw [if_neg q3] at hk1
              have HK1 := Lib.hid hk1
              clear q3 hk1
              go_wp2_with fail
              go_roundg (L.length - (j + 1))
              case rel => exact ⟨_, j + 1, rfl, by omega, rfl, by go_num, by rw [HK1.out]; rfl, below_trans HB2.out (Chg.below (by repeat (first | with_reducible exact Chg.refl _ _ | with_reducible exact chg0 | with_reducible refine Chg.drewN ?_ _ | with_reducible refine Chg.drew ?_ | with_reducible refine Chg.alloc ?_ _ | with_reducible refine Chg.setCell ?_ _ _ (by first | (simp; done) | omega | (simp; omega)) | with_reducible refine Chg.setBlock ?_ _ _ (by first | (simp; done) | omega | (simp; omega)) | exact Chg.refl _ _)))⟩
              case measure => omega
          · have hfin : L.take j = L := List.take_of_length_le (by omega)
            rw [hfin]
            obtain ⟨kt, hkt⟩ : ∃ kt, kt = ba + kinds 3 L := ⟨_, rfl⟩
            have HKT := Lib.hid (show ((kt : Nat) : Int) = if n'.asked op.block = true then 1 else 0 from by
              have h := HI2.out
              cases ha : n'.asked op.block with
              | true => rw [ha, if_pos rfl] at h; rw [if_pos rfl, hkt]; omega
              | false => rw [ha, if_neg (by simp)] at h; rw [if_neg (by simp), hkt]; omega)
            rw [← hkt]
            have hd1 : decide ((1 : Int) < (kt : Int)) = false := by simp; rw [hkt]; have := HI2.out; split at this <;> omega
            have HQ := Lib.hid (fun (W : World) (hW : Below w6.heap.size w6 W) => letter_same L (.slice B1 L.length s1) v5 W (HL6.out.slice.below hW) (HV6.out.slice.below hW))
            clear hkt hfin
            go_wp2_with fail
            refine (HQ.out _ (below_trans HB.out (Chg.below (by repeat (first | with_reducible exact Chg.refl _ _ | with_reducible exact chg0 | with_reducible refine Chg.drewN ?_ _ | with_reducible refine Chg.drew ?_ | with_reducible refine Chg.alloc ?_ _ | with_reducible refine Chg.setCell ?_ _ _ (by first | (simp; done) | omega | (simp; omega)) | with_reducible refine Chg.setBlock ?_ _ _ (by first | (simp; done) | omega | (simp; omega)) | exact Chg.refl _ _))))).mono ?_
            rintro e w7 ⟨rfl, nn, rfl⟩
            go_wp2_with fail
            go_roundg (N - (k + 1))
            case rel => exact ⟨_, k + 1, n', F6, F', vB, rfl, by omega, rfl, by go_num, by rw [HKT.out], HK6.out.same (below_trans HB.out (Chg.below (by repeat (first | with_reducible exact Chg.refl _ _ | with_reducible exact chg0 | with_reducible refine Chg.drewN ?_ _ | with_reducible refine Chg.drew ?_ | with_reducible refine Chg.alloc ?_ _ | with_reducible refine Chg.setCell ?_ _ _ (by first | (simp; done) | omega | (simp; omega)) | with_reducible refine Chg.setBlock ?_ _ _ (by first | (simp; done) | omega | (simp; omega)) | exact Chg.refl _ _)))), HI1.out, by obtain ⟨LA, h1, h2⟩ := HLA6.out; exact ⟨LA, h1.chg (S := fun _ => False) (Chg.of_below (below_trans HB.out (Chg.below (by repeat (first | with_reducible exact Chg.refl _ _ | with_reducible exact chg0 | with_reducible refine Chg.drewN ?_ _ | with_reducible refine Chg.drew ?_ | with_reducible refine Chg.alloc ?_ _ | with_reducible refine Chg.setCell ?_ _ _ (by first | (simp; done) | omega | (simp; omega)) | with_reducible refine Chg.setBlock ?_ _ _ (by first | (simp; done) | omega | (simp; omega)) | exact Chg.refl _ _))))) (fun _ _ h => h), h2⟩⟩
            case measure => omega
      · go_wp2_with fail
        all_goals go_ret
        all_goals exact ⟨rfl, below_trans HK.out.one.below (Chg.below (by repeat (first | with_reducible exact Chg.refl _ _ | with_reducible exact chg0 | with_reducible refine Chg.drewN ?_ _ | with_reducible refine Chg.drew ?_ | with_reducible refine Chg.alloc ?_ _ | with_reducible refine Chg.setCell ?_ _ _ (by first | (simp; done) | omega | (simp; omega)) | with_reducible refine Chg.setBlock ?_ _ _ (by first | (simp; done) | omega | (simp; omega)) | exact Chg.refl _ _)))⟩
  · have HMN := Lib.hid (fun V => made15_no c 0 none 0 0 V (fun h => hf h.1))
    simp only [Config.val, Config.cells, Op.val, Op.cells, Int.natCast_zero] at HMN ⊢
    clear hf
    go_enter Tryz.func7, Tryz.ntmps7
    go_wp2_with fail
    refine (HMN.out _).mono ?_
    rintro e w1 ⟨rfl, hb1⟩
    have HB1 := Lib.hid (show Below w.heap.size w w1 from below_trans (Chg.below (by repeat (first | with_reducible exact Chg.refl _ _ | with_reducible exact chg0 | with_reducible refine Chg.drewN ?_ _ | with_reducible refine Chg.drew ?_ | with_reducible refine Chg.alloc ?_ _ | with_reducible refine Chg.setCell ?_ _ _ (by first | (simp; done) | omega | (simp; omega)) | with_reducible refine Chg.setBlock ?_ _ _ (by first | (simp; done) | omega | (simp; omega)) | exact Chg.refl _ _))) hb1)
    clear hb1
    go_wp2_with fail
    refine (ndAwake_calls _).mono ?_
    rintro e w2 ⟨rfl, hb2⟩
    go_wp2_with fail
    refine (ndAwake_calls _).mono ?_
    rintro e w3 ⟨rfl, hb3⟩
    go_wp2_with fail
    go_ret
    exact ⟨rfl, below_trans HB1.out (below_trans (below_trans (Chg.below (by repeat (first | with_reducible exact Chg.refl _ _ | with_reducible exact chg0 | with_reducible refine Chg.drewN ?_ _ | with_reducible refine Chg.drew ?_ | with_reducible refine Chg.alloc ?_ _ | with_reducible refine Chg.setCell ?_ _ _ (by first | (simp; done) | omega | (simp; omega)) | with_reducible refine Chg.setBlock ?_ _ _ (by first | (simp; done) | omega | (simp; omega)) | exact Chg.refl _ _))) hb2) (below_trans (Chg.below (by repeat (first | with_reducible exact Chg.refl _ _ | with_reducible exact chg0 | with_reducible refine Chg.drewN ?_ _ | with_reducible refine Chg.drew ?_ | with_reducible refine Chg.alloc ?_ _ | with_reducible refine Chg.setCell ?_ _ _ (by first | (simp; done) | omega | (simp; omega)) | with_reducible refine Chg.setBlock ?_ _ _ (by first | (simp; done) | omega | (simp; omega)) | exact Chg.refl _ _))) hb3))⟩
set_option maxRecDepth 100000 in
theorem nodeAsks_lifted (os : Os) (started : os.Started) (H : Type) (enc : TypeId × Value → H) :
    ReturnsInHanded {} Tryz.checked os 7 .any (Rows.nodeAsksSpec.pre6 enc Tryz.prog Tryz.f7 Rows.nodeAsksRow.domain false) (Rows.nodeAsksSpec.post enc Tryz.prog Tryz.f7 false true false false) := by
  refine returnsInHanded_of_change (C := Tryz.checked) law_own started (by kernel_rfl) Tryz.func7
    (ChangeSpec.witness6 (enc := enc) (C := Tryz.checked) false ⟨#[], #[.agg #[.int .i64 0, .int .i64 0, .int .i64 0, .int .i64 0, .int .i64 0, .int .i64 0, .int .i64 0, .int .i64 0, .int .i64 0], .agg #[.int .i64 0, .bool false, .int .i64 0], .int .i64 0], []⟩ 8 (by kernel_rfl) (by kernel_rfl) (by kernel_rfl) (by kernel_rfl)) ?_
  intro W base args ds gs before hval0 hW hcnd _
  have hval : ∀ (j : Nat) t v, Tryz.f7.params[j]? = some t → args[j]? = some v → Value.okWide Tryz.prog W .any base t v := hval0
  have hW' := hW
  obtain ⟨p, q, hA0, hV, rfl, hfz, hnd⟩ := hW
  have hA : DataW.TrodAll enc Tryz.prog W 0 (fun _ => true) true Tryz.f7.params.toList args.toList ds p := hA0
  rw [Tryz.params7] at hA hval
  obtain ⟨v0, vs0, d0, ds0, p0, q0, hargs, rfl, rfl, h0, r0⟩ := trodAll_cons hA
  obtain ⟨v1, vs1, d1, ds1, p1, q1, rfl, rfl, rfl, h1, r1⟩ := trodAll_cons r0
  obtain ⟨v2, vs2, d2, ds2, p2, q2, rfl, rfl, rfl, h2, r2⟩ := trodAll_cons r1
  obtain ⟨rfl, rfl, rfl⟩ := trodAll_nil r2
  obtain rfl : args = #[v0, v1, v2] := by cases args; simp_all
  obtain ⟨rfl, rfl⟩ := trodVars_none hV
  have k0 := h0
  have lt0 : ∀ x ∈ p0, x.block < W.heap.size := by obtain ⟨m, hm⟩ := k0; exact DataW.trod_lt m _ _ _ hm
  obtain ⟨f0, g0⟩ := h0
  obtain ⟨cs0, rfl, _⟩ := okWide_struct Tryz.underlying23 (hval 0 23 v0 rfl rfl)
  obtain ⟨x0, e0, o0⟩ := Config.of_trod g0
  obtain rfl : cs0 = x0.cells.toArray := by simp only [Value.cells] at e0; rw [← e0]
  have k1 := h1
  have lt1 : ∀ x ∈ p1, x.block < W.heap.size := by obtain ⟨m, hm⟩ := k1; exact DataW.trod_lt m _ _ _ hm
  obtain ⟨f1, g1⟩ := h1
  obtain ⟨cs1, rfl, _⟩ := okWide_struct Tryz.underlying25 (hval 1 25 v1 rfl rfl)
  obtain ⟨x1, e1, o1⟩ := Op.of_trod g1
  obtain rfl : cs1 = x1.cells.toArray := by simp only [Value.cells] at e1; rw [← e1]
  have k2 := h2
  have lt2 : ∀ x ∈ p2, x.block < W.heap.size := by obtain ⟨m, hm⟩ := k2; exact DataW.trod_lt m _ _ _ hm
  obtain ⟨f2, g2⟩ := h2
  obtain ⟨x2, e2, o2⟩ := int_of_trod g2
  obtain rfl := one_value (hval 2 3 v2 rfl rfl) Tryz.underlying3 e2
  clear hA0 hval0
  refine (nodeAsks_walk x0 o0 x1 o1 x2 o2 W).mono fun e W' ⟨he, bel⟩ => ?_
  subst he
  exact ⟨_, rfl, _, _, _, [], _, [], hW', trodAll_mk1 (shut_bool Tryz.underlying4 _), (trodAll_cons_mk (Below.trod law_laidOut (by kernel_rfl) (of_decide_eq_true (by kernel_rfl)) k0 bel lt0) (trodAll_cons_mk (Below.trod law_laidOut (by kernel_rfl) (of_decide_eq_true (by kernel_rfl)) k1 bel lt1) (trodAll_cons_mk (Below.trod law_laidOut (by kernel_rfl) (of_decide_eq_true (by kernel_rfl)) k2 bel lt2) trodAll_mk0))), rfl, bel.frame _, fun h => by cases h⟩

theorem nodeAsks_holds : Rows.NodeAsksSaid :=
  OpenClaim.holds_of_wide 7 Tryz.f7 rfl rfl rfl rfl rfl rfl rfl ⟨rfl, rfl, rfl, rfl, rfl⟩ rfl rfl rfl rfl rfl (by kernel_rfl) Tryz.func7 (by kernel_rfl)
    (of_decide_eq_true (by kernel_rfl)) (by unfold Func.isWrapper; first | (rw [if_pos (by decide +kernel)]; kernel_rfl) | (rw [if_neg (by decide +kernel)]; exact ⟨rfl, rfl⟩))
    (fun os started H enc _ => nodeAsks_lifted os started H enc)
end Go.Proofs.YtchlioikkhnidaaGreat
