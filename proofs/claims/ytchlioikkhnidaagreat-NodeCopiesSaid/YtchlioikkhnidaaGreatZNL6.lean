/-
  NodeCopies: a copy is there as the node is, and goes on as it does, whatever becomes of that. No condition.
-/
import Derived.Test.YtchlioikkhnidaaGreatMN16
set_option linter.unusedVariables false
set_option linter.unusedSimpArgs false
namespace Go.Proofs.YtchlioikkhnidaaGreat
open Go.RowKit Go.Sort Go.ChangeShapes Go.WideShapes Go.ChangeAt
open Go.ChangeMaps (setBlock)
set_option linter.unusedVariables false
set_option linter.unusedSimpArgs false
set_option maxHeartbeats 8000000 in
set_option maxRecDepth 20000 in
theorem nodeCopies_walk (c : Config) (hc : c.ok) (id : Int) (hi : i64ok id) (l : List Act15) (v : Value) (w : World) (hsl : SliceIs w 18 v (l.map Act15.cells)) (hok : ∀ d ∈ l, d.ok) :
    Calls Tryz.prog 10 #[c.val, .int .i64 id, v] w fun e w' => e = .returned (.bool true) ∧ Below w.heap.size w w' := by
  have HSL := Lib.hid hsl
  obtain ⟨A, cap, rfl, h1, h2, h3⟩ := hsl
  simp only [List.length_map] at h1 h2 h3 HSL ⊢
  clear h3 hok hc
  by_cases hf : c.Fine ∧ (0 ≤ id ∧ id < c.nodes) ∧ l.length ≤ 200
  · have HF := Lib.hid hf.1
    have HID := Lib.hid hf.2.1
    have hlen := hf.2.2
    have HMY := Lib.hid (fun V => made15_yes c id A l.length cap V hf.1 hf.2.1 hf.2.2)
    simp only [Config.val, Config.cells] at HMY ⊢
    clear hf
    go_enter Tryz.func10, Tryz.ntmps10
    go_wp2_with fail
    refine (HMY.out _).mono ?_
    rintro e w1 ⟨a, FC, m, wm, rfl, hN, _, _, _, _⟩
    have HN1 := Lib.hid (show Nd0 w w1 a (Node.new c id) FC from hN.base (Chg.below (by repeat (first | with_reducible exact Chg.refl _ _ | with_reducible exact chg0 | with_reducible refine Chg.drewN ?_ _ | with_reducible refine Chg.drew ?_ | with_reducible refine Chg.alloc ?_ _ | with_reducible refine Chg.setCell ?_ _ _ (by first | (simp; done) | omega | (simp; omega)) | with_reducible refine Chg.setBlock ?_ _ _ (by first | (simp; done) | omega | (simp; omega)) | exact Chg.refl _ _))))
    clear hN HMY
    go_wp2_with fail
    refine (ndAwake_calls _).mono ?_
    rintro e w2 ⟨rfl, hb2⟩
    have HN2 := Lib.hid (HN1.out.same (below_trans (Chg.below (by repeat (first | with_reducible exact Chg.refl _ _ | with_reducible exact chg0 | with_reducible refine Chg.drewN ?_ _ | with_reducible refine Chg.drew ?_ | with_reducible refine Chg.alloc ?_ _ | with_reducible refine Chg.setCell ?_ _ _ (by first | (simp; done) | omega | (simp; omega)) | with_reducible refine Chg.setBlock ?_ _ _ (by first | (simp; done) | omega | (simp; omega)) | exact Chg.refl _ _))) hb2))
    clear hb2 HN1
    obtain ⟨hh, hhe⟩ : ∃ hh, hh = l.length / 2 := ⟨_, rfl⟩
    have hhl : hh ≤ l.length := by omega
    have HHE := Lib.hid hhe
    obtain ⟨l1, hl1⟩ : ∃ l1, l1 = l.take hh := ⟨_, rfl⟩
    obtain ⟨l2, hl2⟩ : ∃ l2, l2 = l.drop hh := ⟨_, rfl⟩
    have HS1 := Lib.hid (show SliceIs w 18 (.slice A hh cap) (l1.map Act15.cells) from by rw [hl1, List.map_take]; exact HSL.out.take hhl)
    have HS2 := Lib.hid (show SliceIs w 18 (.slice (fromA A cap hh 18) (l.length - hh) (cap - hh)) (l2.map Act15.cells) from by rw [hl2, List.map_drop]; exact HSL.out.from hhl)
    have hln1 := Lib.hid <| show l1.length = hh from by rw [hl1, List.length_take]; omega
    have hln2 := Lib.hid <| show l2.length = l.length - hh from by rw [hl2, List.length_drop]
    clear hl1 hl2 hhe HSL
    go_upto_region 4 with fail
    go_cut [10] (fun s10 wx => s10 = .int .i64 hh ∧ wx = w2)
    case first =>
      go_wp2_with fail
      go_meet
      exact ⟨by rw [HHE.out]; simp, rfl⟩
    case rest =>
    obtain ⟨rfl, rfl⟩ := hcut
    go_wp2_with (first | (refine wpList_slice_to rfl 26 46 _ _ rfl Tryz.underlying26 (info_of_underlying Tryz.underlying46) A l.length cap hh rfl rfl (by omega) ?_))
    go_loopg [42] hh (fun g i wx => ∃ (wr : World) (k : Nat) (n : Node) (F : Nat → Prop), wx = wr ∧ k ≤ hh ∧ g = hh - k ∧ i = .int .i64 k ∧ Nd0 w wr a n F ∧ (n.Runs k ∧ n.c = c))
    case atStart => exact ⟨_, 0, _, _, rfl, Nat.zero_le _, rfl, rfl, HN2.out.same (Chg.below (by repeat (first | with_reducible exact Chg.refl _ _ | with_reducible exact chg0 | with_reducible refine Chg.drewN ?_ _ | with_reducible refine Chg.drew ?_ | with_reducible refine Chg.alloc ?_ _ | with_reducible refine Chg.setCell ?_ _ _ (by first | (simp; done) | omega | (simp; omega)) | with_reducible refine Chg.setBlock ?_ _ _ (by first | (simp; done) | omega | (simp; omega)) | exact Chg.refl _ _))), Node.Runs.new c id, rfl⟩
    case round =>
      obtain ⟨wr, k, n, F, rfl, hk, rfl, rfl, hN, hR⟩ := hrel
      clear HN2
      have HN := Lib.hid hN
      have HR := Lib.hid hR
      clear hN hR
      by_cases hlt : k < hh
      · obtain ⟨A5, s5, e7, _, _, hat⟩ := sliceOf (cells := Act15.cells) (HS1.out.below HN.out.below)
        simp only [Value.slice.injEq] at e7
        obtain ⟨e7, -, -⟩ := e7
        obtain ⟨q, off, e8, hr⟩ := hat (by have := hln1.out; omega)
        subst e7
        subst e8
        have hlt' : k < l1.length := by have := hln1.out; omega
        have hrow := hr k hlt'
        generalize l1[k] = d at hrow
        have HROW := Lib.hid hrow
        clear hrow hr hat hlt'
        go_upto_region 7 with fail
        go_cut [12] (fun s12 wx => s12 = .pointer (some ⟨wr.heap.size, 0, none⟩) ∧ ob wx wr.heap.size = some (actO d) ∧ Below wr.heap.size wr wx)
        case first =>
          have h18 : d.cells.toArray.size = 18 := rfl
          have hone : d.cells.toArray.all (·.oneCell') = true := act15_one d
          have HFIN := Lib.hid (fun W : World => show ob (W.alloc (.cells d.cells.toArray 46)) W.heap.size = some (actO d) from ob_alloc_at _ _)
          have HR := HROW
          generalize d.cells = CS at HR h18 hone HFIN
          go_wp2_with (first | (refine wpList_load_row rfl 46 _ rfl q (off + k * 18) rfl CS HR.out (by kernel_rfl) (Eq.trans (by kernel_rfl : _ = some 18) (by simpa using h18.symm)) ?_) | (refine wpList_store_new rfl 46 _ _ rfl _ CS.toArray rfl rfl (Eq.trans (by kernel_rfl : _ = some 18) (by simpa using h18.symm)) (by simpa using h18.symm) hone ?_))
          go_meet
          exact ⟨rfl, HFIN.out _, Chg.below (by repeat (first | with_reducible exact Chg.refl _ _ | with_reducible exact chg0 | with_reducible refine Chg.drewN ?_ _ | with_reducible refine Chg.drew ?_ | with_reducible refine Chg.alloc ?_ _ | with_reducible refine Chg.setCell ?_ _ _ (by first | (simp; done) | omega | (simp; omega)) | with_reducible refine Chg.setBlock ?_ _ _ (by first | (simp; done) | omega | (simp; omega)) | exact Chg.refl _ _))⟩
        case rest =>
        obtain ⟨rfl, hA, hbA⟩ := hcut
        have rA := range_ob hA
        have HN3 := Lib.hid (HN.out.same hbA)
        have HDo := Lib.hid (fun (V : World) (hV : NodeIn V a n F) => do_calls d hV (HR.out.1.bound (by omega)))
        have hR' : (n.step d).1.Runs (k + 1) ∧ (n.step d).1.c = c := ⟨HR.out.1.step (by rw [HR.out.2]; exact HF.out) d, (step_goes n HR.out.1.ok d).c.trans HR.out.2⟩
        have HR' := Lib.hid hR'
        simp only [Act15.val] at HDo
        generalize n.step d = st at HDo HR'
        generalize d.cells = CS at rA HDo
        clear hA hbA HROW HN hR'
        go_wp2_with (first | (refine wpList_load_row rfl 46 _ rfl wr.heap.size 0 rfl CS rA (by kernel_rfl) (by kernel_rfl) ?_))
        refine (HDo.out _ HN3.out.here).mono ?_
        rintro e w4 ⟨FC4, u1, u2, rfl, hs4⟩
        have HN4 := Lib.hid (HN3.out.sent hs4)
        clear hs4
        go_wp2_with fail
        go_roundg (hh - (k + 1))
        case rel => exact ⟨_, k + 1, _, FC4, rfl, by omega, rfl, by go_num, HN4.out.same (Chg.below (by repeat (first | with_reducible exact Chg.refl _ _ | with_reducible exact chg0 | with_reducible refine Chg.drewN ?_ _ | with_reducible refine Chg.drew ?_ | with_reducible refine Chg.alloc ?_ _ | with_reducible refine Chg.setCell ?_ _ _ (by first | (simp; done) | omega | (simp; omega)) | with_reducible refine Chg.setBlock ?_ _ _ (by first | (simp; done) | omega | (simp; omega)) | exact Chg.refl _ _))), HR'.out⟩
        case measure => omega
      · have hkh : k = hh := by omega
        subst hkh
        have HCP := Lib.hid (fun (V : World) (hV : NodeIn V a n F) => NodeCopy_calls hV)
        go_wp2_with fail
        refine (HCP.out _ (HN.out.same (Chg.below (by repeat (first | with_reducible exact Chg.refl _ _ | with_reducible exact chg0 | with_reducible refine Chg.drewN ?_ _ | with_reducible refine Chg.drew ?_ | with_reducible refine Chg.alloc ?_ _ | with_reducible refine Chg.setCell ?_ _ _ (by first | (simp; done) | omega | (simp; omega)) | with_reducible refine Chg.setBlock ?_ _ _ (by first | (simp; done) | omega | (simp; omega)) | exact Chg.refl _ _)))).here).mono ?_
        rintro e w5 ⟨a2, FK, rfl, hN5, hlo5, hb5⟩
        have HB5 := Lib.hid (show Both w w5 a n F a2 n FK from ⟨HN.out.same (below_trans (Chg.below (by repeat (first | with_reducible exact Chg.refl _ _ | with_reducible exact chg0 | with_reducible refine Chg.drewN ?_ _ | with_reducible refine Chg.drew ?_ | with_reducible refine Chg.alloc ?_ _ | with_reducible refine Chg.setCell ?_ _ _ (by first | (simp; done) | omega | (simp; omega)) | with_reducible refine Chg.setBlock ?_ _ _ (by first | (simp; done) | omega | (simp; omega)) | exact Chg.refl _ _))) hb5), ⟨hN5, fun j hj => Nat.le_trans (HN.out.same (w' := wr) (Chg.below (by repeat (first | with_reducible exact Chg.refl _ _ | with_reducible exact chg0 | with_reducible refine Chg.drewN ?_ _ | with_reducible refine Chg.drew ?_ | with_reducible refine Chg.alloc ?_ _ | with_reducible refine Chg.setCell ?_ _ _ (by first | (simp; done) | omega | (simp; omega)) | with_reducible refine Chg.setBlock ?_ _ _ (by first | (simp; done) | omega | (simp; omega)) | exact Chg.refl _ _)))).below.size (hlo5 j hj), (HN.out.same (below_trans (Chg.below (by repeat (first | with_reducible exact Chg.refl _ _ | with_reducible exact chg0 | with_reducible refine Chg.drewN ?_ _ | with_reducible refine Chg.drew ?_ | with_reducible refine Chg.alloc ?_ _ | with_reducible refine Chg.setCell ?_ _ _ (by first | (simp; done) | omega | (simp; omega)) | with_reducible refine Chg.setBlock ?_ _ _ (by first | (simp; done) | omega | (simp; omega)) | exact Chg.refl _ _))) hb5)).below⟩, fun j h1 h2 => by have h3 := hlo5 j h2; have h4 := HN.out.here.lt j h1; omega⟩)
        clear hN5 hlo5 hb5 HN HCP HS1 hln1
        have HR0 := Lib.hid (show n.Runs (k + 0) ∧ n.c = c from HR.out)
        obtain ⟨A2, hA2⟩ : ∃ A2, A2 = fromA A cap k 18 := ⟨_, rfl⟩
        obtain ⟨cap2, hc2⟩ : ∃ cap2, cap2 = cap - k := ⟨_, rfl⟩
        obtain ⟨M, hM⟩ : ∃ M, M = l.length - k := ⟨_, rfl⟩
        rw [← hA2, ← hc2, ← hM] at HS2
        rw [← hM] at hln2
        have hM2 : k + M ≤ 200 := by omega
        have HSF := Lib.hid (fun (ops : Array Oper) (rest : List Oper) (o : Oper) (b : Act) (W : World) (Q : Exit → Act → World → Prop) (hgd : o.guard = none) (x nn : Operand) (ho : o.op = .slice 26 x (some nn) none none) (hx : b.eval x = .slice A l.length cap) (hn : b.eval nn = .int .i64 k)
          (h : wpList Tryz.prog ops Q rest (b.put o.dst (.slice A2 M cap2)) W) => wpList_slice_from hgd 26 46 x nn 18 ho Tryz.underlying26 act15_info A l.length cap k hx hn (by omega) (by omega) (by rw [← hA2, ← hc2, ← hM]; exact h))
        clear hA2 hc2 hM
        go_wp2_with (first | (refine HSF.out _ _ _ _ _ _ rfl _ _ rfl rfl rfl ?_))
        have HC0 := Lib.hid (show CopyW w w5 a n F a2 n FK (.slice none 0 0) (fun _ => (.slice none 0 0, .slice none 0 0)) (outAt n l2) 0 from CopyW.start HB5.out)
        clear HB5
        go_loopg [58, 14] M (fun g i s14 wx => ∃ (wr : World) (j : Nat) (n1 : Node) (F1 : Nat → Prop) (vo : Value) (vs : Nat → Value × Value), wx = wr ∧ j ≤ M ∧ g = M - j ∧ i = .int .i64 j ∧ s14 = vo ∧ CopyW w wr a n1 F1 a2 n FK vo vs (outAt n l2) j ∧ n1 = stepAll n (l2.take j) ∧ (n1.Runs (k + j) ∧ n1.c = c))
        case atStart => exact ⟨_, 0, n, F, _, _, rfl, Nat.zero_le _, rfl, rfl, rfl, HC0.out, rfl, HR0.out⟩
        case round =>
          obtain ⟨wq, j, n1, F1, vo, vs, hwx, hj, rfl, rfl, hs14, hC, hn1, hR1⟩ := hrel
          replace hwx := hwx.symm
          subst hwx
          replace hs14 := hs14.symm
          subst hs14
          clear HC0
          have HC := Lib.hid hC
          have HN1 := Lib.hid hn1
          have HR1 := Lib.hid hR1
          clear hC hn1 hR1
          by_cases hlj : j < M
          · obtain ⟨A5, s5, e7, _, _, hat⟩ := sliceOf (cells := Act15.cells) (HS2.out.below HC.out.both.one.below)
            simp only [Value.slice.injEq] at e7
            obtain ⟨e7, -, -⟩ := e7
            obtain ⟨q, off, e8, hr⟩ := hat (by have := hln2.out; omega)
            have hlt' : j < l2.length := by have := hln2.out; omega
            have hrow := hr j hlt'
            have hld : l2.getD j default = l2[j] := by simp [List.getD, hlt']
            have htk : l2.take (j + 1) = l2.take j ++ [l2[j]] := List.take_succ_eq_append_getElem hlt'
            generalize l2[j] = d at hrow hld htk
            have HROW := Lib.hid hrow
            have HLD := Lib.hid hld
            have HTK := Lib.hid htk
            clear hrow hr hat hlt' hld htk
            subst e7
            subst e8
            go_upto_region 16 with fail
            go_cut [16] (fun s12 wx => s12 = .pointer (some ⟨wq.heap.size, 0, none⟩) ∧ ob wx wq.heap.size = some (actO d) ∧ Below wq.heap.size wq wx)
            case first =>
              have h18 : d.cells.toArray.size = 18 := rfl
              have hone : d.cells.toArray.all (·.oneCell') = true := act15_one d
              have HFIN := Lib.hid (fun W : World => show ob (W.alloc (.cells d.cells.toArray 46)) W.heap.size = some (actO d) from ob_alloc_at _ _)
              have HR := HROW
              generalize d.cells = CS at HR h18 hone HFIN
              go_wp2_with (first | (refine wpList_load_row rfl 46 _ rfl q (off + j * 18) rfl CS HR.out (by kernel_rfl) (Eq.trans (by kernel_rfl : _ = some 18) (by simpa using h18.symm)) ?_) | (refine wpList_store_new rfl 46 _ _ rfl _ CS.toArray rfl rfl (Eq.trans (by kernel_rfl : _ = some 18) (by simpa using h18.symm)) (by simpa using h18.symm) hone ?_))
              go_meet
              exact ⟨rfl, HFIN.out _, Chg.below (by repeat (first | with_reducible exact Chg.refl _ _ | with_reducible exact chg0 | with_reducible refine Chg.drewN ?_ _ | with_reducible refine Chg.drew ?_ | with_reducible refine Chg.alloc ?_ _ | with_reducible refine Chg.setCell ?_ _ _ (by first | (simp; done) | omega | (simp; omega)) | with_reducible refine Chg.setBlock ?_ _ _ (by first | (simp; done) | omega | (simp; omega)) | exact Chg.refl _ _))⟩
            case rest =>
            obtain ⟨rfl, hA, hbA⟩ := hcut
            have rA := range_ob hA
            have HC3 := Lib.hid (HC.out.same hbA)
            have HDo := Lib.hid (fun (V : World) (hV : NodeIn V a n1 F1) => do_calls d hV (HR1.out.1.bound (by omega)))
            have hR' : (n1.step d).1.Runs (k + (j + 1)) ∧ (n1.step d).1.c = c := ⟨HR1.out.1.step (by rw [HR1.out.2]; exact HF.out) d, (step_goes n1 HR1.out.1.ok d).c.trans HR1.out.2⟩
            have HR' := Lib.hid hR'
            have hout : outAt n l2 j = (n1.step d).2 := by unfold outAt; rw [HLD.out, ← HN1.out]
            have hnn : stepAll n (l2.take (j + 1)) = (n1.step d).1 := by rw [HTK.out, stepAll_snoc, ← HN1.out]
            have HOUT := Lib.hid hout
            have HNN := Lib.hid hnn
            simp only [Act15.val] at HDo
            generalize n1.step d = st at HDo HR' HOUT HNN
            generalize d.cells = CS at rA HDo
            clear hA hbA HROW HC hR' hout hnn HR1 HN1 HLD HTK
            go_wp2_with (first | (refine wpList_load_row rfl 46 _ rfl wq.heap.size 0 rfl CS rA (by kernel_rfl) (by kernel_rfl) ?_))
            refine (HDo.out _ HC3.out.both.one.here).mono ?_
            rintro e w6 ⟨FC4, u1, u2, rfl, hs4⟩
            obtain ⟨B1, i1, s1, e1⟩ := hs4.letters.shape
            obtain ⟨B2, i2, s2, e2⟩ := hs4.done.shape
            subst e1
            subst e2
            obtain ⟨hC4, hap⟩ := HC3.out.left hs4
            have HC4 := Lib.hid hC4
            have HAP := Lib.hid hap
            have HOO := Lib.hid (HC3.out.both.one.outs hs4)
            rw [← HOUT.out] at HOO
            clear hs4 hC4 hap HC3 HDo rA
            go_wp2_with (at_builtin; refine wpList_append_sl (xs := outRows vs j) (ys := [[.slice B1 i1 s1, .slice B2 i2 s2]]) rfl _ _ rfl tyOuts rfl rfl (HC4.out.own.chg (S := fun _ => False) (by repeat (first | with_reducible exact Chg.refl _ _ | with_reducible exact chg0 | with_reducible refine Chg.drewN ?_ _ | with_reducible refine Chg.drew ?_ | with_reducible refine Chg.alloc ?_ _ | with_reducible refine Chg.setCell ?_ _ _ (by first | (simp; done) | omega | (simp; omega)) | with_reducible refine Chg.setBlock ?_ _ _ (by first | (simp; done) | omega | (simp; omega)) | exact Chg.refl _ _)) (fun _ _ h => h)) (OwnSl.made (e := 35) (ob_alloc_new _ _ _ rfl) outRow_ok rfl (by simp)).slice outRow_ok (by simp only [outRows_length, List.length_singleton]; omega) ?_; intro v7 w7 ho hc7 hloc)
            have HC7 := Lib.hid ((HC4.out.same (Chg.below (by repeat (first | with_reducible exact Chg.refl _ _ | with_reducible exact chg0 | with_reducible refine Chg.drewN ?_ _ | with_reducible refine Chg.drew ?_ | with_reducible refine Chg.alloc ?_ _ | with_reducible refine Chg.setCell ?_ _ _ (by first | (simp; done) | omega | (simp; omega)) | with_reducible refine Chg.setBlock ?_ _ _ (by first | (simp; done) | omega | (simp; omega)) | exact Chg.refl _ _)))).push (HOO.out.1.step (Chg.below (by repeat (first | with_reducible exact Chg.refl _ _ | with_reducible exact chg0 | with_reducible refine Chg.drewN ?_ _ | with_reducible refine Chg.drew ?_ | with_reducible refine Chg.alloc ?_ _ | with_reducible refine Chg.setCell ?_ _ _ (by first | (simp; done) | omega | (simp; omega)) | with_reducible refine Chg.setBlock ?_ _ _ (by first | (simp; done) | omega | (simp; omega)) | exact Chg.refl _ _)))) (HOO.out.2.step (Chg.below (by repeat (first | with_reducible exact Chg.refl _ _ | with_reducible exact chg0 | with_reducible refine Chg.drewN ?_ _ | with_reducible refine Chg.drew ?_ | with_reducible refine Chg.alloc ?_ _ | with_reducible refine Chg.setCell ?_ _ _ (by first | (simp; done) | omega | (simp; omega)) | with_reducible refine Chg.setBlock ?_ _ _ (by first | (simp; done) | omega | (simp; omega)) | exact Chg.refl _ _)))) HAP.out ho hc7 (hloc.imp (fun e => e) (fun e => ⟨_, e, Nat.le_refl _⟩)))
            clear ho hc7 hloc
            go_roundg (M - (j + 1))
            case rel => exact ⟨_, j + 1, _, FC4, v7, _, rfl, by omega, rfl, by go_num, rfl, HC7.out, HNN.out.symm, HR'.out⟩
            case measure => omega
          · have hjM : j = M := by omega
            subst hjM
            have HC1 := Lib.hid (show CopyW w wq a n1 F1 a2 n FK vo vs (outAt n l2) j from HC.out)
            have HE1 := Lib.hid (show n1 = stepAll n (l2.take j) from HN1.out)
            clear HC HN1 HR1
            go_wp2_with (first | (refine HSF.out _ _ _ _ _ _ rfl _ _ rfl rfl rfl ?_))
            have HC0 := Lib.hid (HC1.out.same (wx := wq) (Chg.below (by repeat (first | with_reducible exact Chg.refl _ _ | with_reducible exact chg0 | with_reducible refine Chg.drewN ?_ _ | with_reducible refine Chg.drew ?_ | with_reducible refine Chg.alloc ?_ _ | with_reducible refine Chg.setCell ?_ _ _ (by first | (simp; done) | omega | (simp; omega)) | with_reducible refine Chg.setBlock ?_ _ _ (by first | (simp; done) | omega | (simp; omega)) | exact Chg.refl _ _))))
            clear HC1
            go_loopg [73] j (fun g i wx => ∃ (wr : World) (i' : Nat) (m1 : Node) (K1 : Nat → Prop), wx = wr ∧ i' ≤ j ∧ g = j - i' ∧ i = .int .i64 i' ∧ CopyW w wr a n1 F1 a2 m1 K1 vo vs (outAt n l2) j ∧ m1 = stepAll n (l2.take i') ∧ (m1.Runs (k + i') ∧ m1.c = c))
            case atStart => exact ⟨_, 0, n, FK, rfl, Nat.zero_le _, rfl, rfl, HC0.out, rfl, HR0.out⟩
            case round =>
              obtain ⟨wz, i', m1, K1, hwx, hi', rfl, rfl, hC, hm1, hR1⟩ := hrel
              replace hwx := hwx.symm
              subst hwx
              clear HC0
              have HC := Lib.hid hC
              have HN1 := Lib.hid hm1
              have HR1 := Lib.hid hR1
              clear hC hm1 hR1
              by_cases hlj : i' < j
              · obtain ⟨A5, s5, e7, _, _, hat⟩ := sliceOf (cells := Act15.cells) (HS2.out.below HC.out.both.one.below)
                simp only [Value.slice.injEq] at e7
                obtain ⟨e7, -, -⟩ := e7
                obtain ⟨q, off, e8, hr⟩ := hat (by have := hln2.out; omega)
                have hlt' : i' < l2.length := by have := hln2.out; omega
                have hrow := hr i' hlt'
                have hld : l2.getD i' default = l2[i'] := by simp [List.getD, hlt']
                have htk : l2.take (i' + 1) = l2.take i' ++ [l2[i']] := List.take_succ_eq_append_getElem hlt'
                generalize l2[i'] = d at hrow hld htk
                have HROW := Lib.hid hrow
                have HLD := Lib.hid hld
                have HTK := Lib.hid htk
                clear hrow hr hat hlt' hld htk
                subst e7
                subst e8
                go_upto_region 21 with fail
                go_cut [17, 18] (fun s17 s12 wx => s17 = .int .i64 i' ∧ s12 = .pointer (some ⟨wz.heap.size, 0, none⟩) ∧ ob wx wz.heap.size = some (actO d) ∧ Below wz.heap.size wz wx)
                case first =>
                  have h18 : d.cells.toArray.size = 18 := rfl
                  have hone : d.cells.toArray.all (·.oneCell') = true := act15_one d
                  have HFIN := Lib.hid (fun W : World => show ob (W.alloc (.cells d.cells.toArray 46)) W.heap.size = some (actO d) from ob_alloc_at _ _)
                  have HR := HROW
                  generalize d.cells = CS at HR h18 hone HFIN
                  go_wp2_with (first | (refine wpList_load_row rfl 46 _ rfl q (off + i' * 18) rfl CS HR.out (by kernel_rfl) (Eq.trans (by kernel_rfl : _ = some 18) (by simpa using h18.symm)) ?_) | (refine wpList_store_new rfl 46 _ _ rfl _ CS.toArray rfl rfl (Eq.trans (by kernel_rfl : _ = some 18) (by simpa using h18.symm)) (by simpa using h18.symm) hone ?_))
                  go_meet
                  exact ⟨rfl, rfl, HFIN.out _, Chg.below (by repeat (first | with_reducible exact Chg.refl _ _ | with_reducible exact chg0 | with_reducible refine Chg.drewN ?_ _ | with_reducible refine Chg.drew ?_ | with_reducible refine Chg.alloc ?_ _ | with_reducible refine Chg.setCell ?_ _ _ (by first | (simp; done) | omega | (simp; omega)) | with_reducible refine Chg.setBlock ?_ _ _ (by first | (simp; done) | omega | (simp; omega)) | exact Chg.refl _ _))⟩
                case rest =>
                obtain ⟨rfl, rfl, hA, hbA⟩ := hcut
                have rA := range_ob hA
                have HC3 := Lib.hid (HC.out.same hbA)
                have HDo := Lib.hid (fun (V : World) (hV : NodeIn V a2 m1 K1) => do_calls d hV (HR1.out.1.bound (by omega)))
                have hR' : (m1.step d).1.Runs (k + (i' + 1)) ∧ (m1.step d).1.c = c := ⟨HR1.out.1.step (by rw [HR1.out.2]; exact HF.out) d, (step_goes m1 HR1.out.1.ok d).c.trans HR1.out.2⟩
                have HR' := Lib.hid hR'
                have hout : outAt n l2 i' = (m1.step d).2 := by unfold outAt; rw [HLD.out, ← HN1.out]
                have hnn : stepAll n (l2.take (i' + 1)) = (m1.step d).1 := by rw [HTK.out, stepAll_snoc, ← HN1.out]
                have HOUT := Lib.hid hout
                have HNN := Lib.hid hnn
                simp only [Act15.val] at HDo
                generalize m1.step d = st at HDo HR' HOUT HNN
                generalize d.cells = CS at rA HDo
                clear hA hbA HROW HC hR' hout hnn HR1 HN1 HLD HTK
                go_wp2_with (first | (refine wpList_load_row rfl 46 _ rfl wz.heap.size 0 rfl CS rA (by kernel_rfl) (by kernel_rfl) ?_))
                refine (HDo.out _ HC3.out.both.two.here).mono ?_
                rintro e w6 ⟨FC4, u1, u2, rfl, hs4⟩
                obtain ⟨B1, i1, s1, e1⟩ := hs4.letters.shape
                obtain ⟨B2, i2, s2, e2⟩ := hs4.done.shape
                subst e1
                subst e2
                have HC4 := Lib.hid (HC3.out.swap.left hs4).1.swap
                have HOO := Lib.hid (HC3.out.both.two.outs hs4)
                rw [← HOUT.out] at HOO
                clear hs4 HC3 HDo rA
                go_upto_region 23 with fail
                have HC8 := Lib.hid (HC4.out.same (wx := w6.alloc (.cells #[.slice B1 i1 s1, .slice B2 i2 s2] 35)) (Chg.below (by repeat (first | with_reducible exact Chg.refl _ _ | with_reducible exact chg0 | with_reducible refine Chg.drewN ?_ _ | with_reducible refine Chg.drew ?_ | with_reducible refine Chg.alloc ?_ _ | with_reducible refine Chg.setCell ?_ _ _ (by first | (simp; done) | omega | (simp; omega)) | with_reducible refine Chg.setBlock ?_ _ _ (by first | (simp; done) | omega | (simp; omega)) | exact Chg.refl _ _))))
                have HO8 := Lib.hid (And.intro (HOO.out.1.step (w' := w6.alloc (.cells #[.slice B1 i1 s1, .slice B2 i2 s2] 35)) (Chg.below (by repeat (first | with_reducible exact Chg.refl _ _ | with_reducible exact chg0 | with_reducible refine Chg.drewN ?_ _ | with_reducible refine Chg.drew ?_ | with_reducible refine Chg.alloc ?_ _ | with_reducible refine Chg.setCell ?_ _ _ (by first | (simp; done) | omega | (simp; omega)) | with_reducible refine Chg.setBlock ?_ _ _ (by first | (simp; done) | omega | (simp; omega)) | exact Chg.refl _ _)))) (HOO.out.2.step (w' := w6.alloc (.cells #[.slice B1 i1 s1, .slice B2 i2 s2] 35)) (Chg.below (by repeat (first | with_reducible exact Chg.refl _ _ | with_reducible exact chg0 | with_reducible refine Chg.drewN ?_ _ | with_reducible refine Chg.drew ?_ | with_reducible refine Chg.alloc ?_ _ | with_reducible refine Chg.setCell ?_ _ _ (by first | (simp; done) | omega | (simp; omega)) | with_reducible refine Chg.setBlock ?_ _ _ (by first | (simp; done) | omega | (simp; omega)) | exact Chg.refl _ _)))))
                have o8 : ob (w6.alloc (.cells #[.slice B1 i1 s1, .slice B2 i2 s2] 35)) w6.heap.size = some (outO (.slice B1 i1 s1) (.slice B2 i2 s2)) := by simp [go_sem, outO]
                obtain ⟨K8, hK8⟩ : ∃ K8, K8 = w6.heap.size := ⟨_, rfl⟩
                obtain ⟨W8, hW8⟩ : ∃ W8, W8 = w6.alloc (.cells #[.slice B1 i1 s1, .slice B2 i2 s2] 35) := ⟨_, rfl⟩
                rw [← hW8] at HC8 HO8 o8
                rw [← hK8] at o8
                simp only [← hW8, ← hK8]
                clear hW8 hK8 HC4 HOO
                obtain ⟨z0, z1, zf, lz⟩ := outO_cells o8
                obtain ⟨Ao, co, evo⟩ := HC8.out.own.form
                rw [outRows_length] at evo
                subst evo
                obtain ⟨A9, c9, e9, _, _, h9⟩ := HC8.out.own.slice
                simp only [Value.slice.injEq] at e9
                obtain ⟨e9, -, -⟩ := e9
                subst e9
                obtain ⟨qo, oo, e10, hr9⟩ := h9 (by rw [outRows_length]; omega)
                subst e10
                have hr10 := hr9 i' [(vs i').1, (vs i').2] (by simp [outRows, hlj])
                have y0 : W8.cell? ⟨qo, oo + i' * 2, none⟩ = some (vs i').1 := hr10 0 _ rfl
                have y1 : W8.cell? ⟨qo, oo + i' * 2 + 1, none⟩ = some (vs i').2 := hr10 1 _ rfl
                have ly := World.block_lt_of_cell? W8 _ y0
                simp only at ly
                have hS1 : ∀ W, Chg (fun _ => False) W8 W → Calls Tryz.prog 23 #[.slice B1 i1 s1, (vs i').1] W fun e w' => e = .returned (.bool true) ∧ ∃ n, w' = W.drewN n := fun W hW =>
                  letter_same (outAt n l2 i').1 _ _ W (HO8.out.1.step hW.below).1.slice ((HC8.out.outs.at_ i' hlj).1.step hW.below).1.slice
                have hS2 : ∀ W, Chg (fun _ => False) W8 W → Calls Tryz.prog 19 #[.slice B2 i2 s2, (vs i').2] W fun e w' => e = .returned (.bool true) ∧ ∃ n, w' = W.drewN n := fun W hW =>
                  done_same (outAt n l2 i').2 _ _ W (HO8.out.2.step hW.below).1.slice ((HC8.out.outs.at_ i' hlj).2.step hW.below).1.slice
                generalize (vs i').1 = x1 at y0 hS1
                generalize (vs i').2 = x2 at y1 hS2
                have HS3 := Lib.hid hS1
                have HS4 := Lib.hid hS2
                clear hr10 hr9 h9 hS1 hS2 o8
                go_cut [100] (fun s100 wx => s100 = .bool false ∧ ∃ nn, wx = W8.drewN nn)
                case first =>
                  go_quiet (first | (go_at_call 23; refine Calls.quiet_of (HS3.out _ ?_); exact (by repeat (first | with_reducible exact Chg.refl _ _ | with_reducible exact chg0 | with_reducible refine Chg.drewN ?_ _ | with_reducible refine Chg.drew ?_ | with_reducible refine Chg.alloc ?_ _ | with_reducible refine Chg.setCell ?_ _ _ (by first | (simp; done) | omega | (simp; omega)) | with_reducible refine Chg.setBlock ?_ _ _ (by first | (simp; done) | omega | (simp; omega)) | exact Chg.refl _ _))) | (go_at_call 19; refine Calls.quiet_of (HS4.out _ ?_); exact (by repeat (first | with_reducible exact Chg.refl _ _ | with_reducible exact chg0 | with_reducible refine Chg.drewN ?_ _ | with_reducible refine Chg.drew ?_ | with_reducible refine Chg.alloc ?_ _ | with_reducible refine Chg.setCell ?_ _ _ (by first | (simp; done) | omega | (simp; omega)) | with_reducible refine Chg.setBlock ?_ _ _ (by first | (simp; done) | omega | (simp; omega)) | exact Chg.refl _ _))) | fail)
                  all_goals (go_wp2_with fail)
                  all_goals go_meet
                  all_goals exact ⟨rfl, _, rfl⟩
                case rest =>
                obtain ⟨rfl, nn, rfl⟩ := hcut
                clear y0 y1 z0 z1 zf lz ly HS3 HS4
                go_wp2_with fail
                go_roundg (j - (i' + 1))
                case rel => exact ⟨_, i' + 1, _, FC4, rfl, by omega, rfl, by go_num, HC8.out.same (Chg.below (by repeat (first | with_reducible exact Chg.refl _ _ | with_reducible exact chg0 | with_reducible refine Chg.drewN ?_ _ | with_reducible refine Chg.drew ?_ | with_reducible refine Chg.alloc ?_ _ | with_reducible refine Chg.setCell ?_ _ _ (by first | (simp; done) | omega | (simp; omega)) | with_reducible refine Chg.setBlock ?_ _ _ (by first | (simp; done) | omega | (simp; omega)) | exact Chg.refl _ _))), HNN.out.symm, HR'.out⟩
                case measure => omega
              · have hij : i' = j := by omega
                subst hij
                have hnm : m1 = n1 := by rw [HN1.out, HE1.out]
                subst hnm
                have HP1 := Lib.hid (fun (V : World) (hV : NodeIn V a m1 F1) => NodePlace_calls hV)
                have HP2 := Lib.hid (fun (V : World) (hV : NodeIn V a2 m1 K1) => NodePlace_calls hV)
                have HC1 := Lib.hid HC.out.both
                clear HC HN1 HE1 HR1 HR0 HS2 HSF
                generalize m1.cache.all = LL at HP1 HP2
                generalize m1.table.list = LT at HP1 HP2
                generalize m1.cpu.busy = bu at HP1 HP2
                generalize m1.cpu.op = po at HP1 HP2
                go_wp2_with fail
                refine (HP1.out _ (HC1.out.same (Chg.below (by repeat (first | with_reducible exact Chg.refl _ _ | with_reducible exact chg0 | with_reducible refine Chg.drewN ?_ _ | with_reducible refine Chg.drew ?_ | with_reducible refine Chg.alloc ?_ _ | with_reducible refine Chg.setCell ?_ _ _ (by first | (simp; done) | omega | (simp; omega)) | with_reducible refine Chg.setBlock ?_ _ _ (by first | (simp; done) | omega | (simp; omega)) | exact Chg.refl _ _)))).one.here).mono ?_
                rintro e w7 ⟨u1, u2, rfl, hl7, ha7, hb7⟩
                have HC2 := Lib.hid (HC1.out.same (below_trans (Chg.below (by repeat (first | with_reducible exact Chg.refl _ _ | with_reducible exact chg0 | with_reducible refine Chg.drewN ?_ _ | with_reducible refine Chg.drew ?_ | with_reducible refine Chg.alloc ?_ _ | with_reducible refine Chg.setCell ?_ _ _ (by first | (simp; done) | omega | (simp; omega)) | with_reducible refine Chg.setBlock ?_ _ _ (by first | (simp; done) | omega | (simp; omega)) | exact Chg.refl _ _))) hb7))
                have HL7 := Lib.hid (And.intro hl7.1.slice ha7.1.slice)
                clear hl7 ha7 hb7 HC1
                go_wp2_with fail
                refine (HP2.out _ (HC2.out.same (Chg.below (by repeat (first | with_reducible exact Chg.refl _ _ | with_reducible exact chg0 | with_reducible refine Chg.drewN ?_ _ | with_reducible refine Chg.drew ?_ | with_reducible refine Chg.alloc ?_ _ | with_reducible refine Chg.setCell ?_ _ _ (by first | (simp; done) | omega | (simp; omega)) | with_reducible refine Chg.setBlock ?_ _ _ (by first | (simp; done) | omega | (simp; omega)) | exact Chg.refl _ _)))).two.here).mono ?_
                rintro e w8 ⟨u3, u4, rfl, hl8, ha8, hb8⟩
                have hb78 := below_trans (Chg.below (w := w7) (by repeat (first | with_reducible exact Chg.refl _ _ | with_reducible exact chg0 | with_reducible refine Chg.drewN ?_ _ | with_reducible refine Chg.drew ?_ | with_reducible refine Chg.alloc ?_ _ | with_reducible refine Chg.setCell ?_ _ _ (by first | (simp; done) | omega | (simp; omega)) | with_reducible refine Chg.setBlock ?_ _ _ (by first | (simp; done) | omega | (simp; omega)) | exact Chg.refl _ _))) hb8
                have HC3 := Lib.hid (HC2.out.same hb78)
                have HL8 := Lib.hid (And.intro hl8.1.slice ha8.1.slice)
                have HL9 := Lib.hid (And.intro (HL7.out.1.below hb78) (HL7.out.2.below hb78))
                clear hl8 ha8 hb8 HC2 hb78 HL7
                go_wp2_with fail
                refine (place_same LL LT bu po _ _ _ _ _ (HL9.out.1.below (Chg.below (by repeat (first | with_reducible exact Chg.refl _ _ | with_reducible exact chg0 | with_reducible refine Chg.drewN ?_ _ | with_reducible refine Chg.drew ?_ | with_reducible refine Chg.alloc ?_ _ | with_reducible refine Chg.setCell ?_ _ _ (by first | (simp; done) | omega | (simp; omega)) | with_reducible refine Chg.setBlock ?_ _ _ (by first | (simp; done) | omega | (simp; omega)) | exact Chg.refl _ _)))) (HL8.out.1.below (Chg.below (by repeat (first | with_reducible exact Chg.refl _ _ | with_reducible exact chg0 | with_reducible refine Chg.drewN ?_ _ | with_reducible refine Chg.drew ?_ | with_reducible refine Chg.alloc ?_ _ | with_reducible refine Chg.setCell ?_ _ _ (by first | (simp; done) | omega | (simp; omega)) | with_reducible refine Chg.setBlock ?_ _ _ (by first | (simp; done) | omega | (simp; omega)) | exact Chg.refl _ _)))) (HL9.out.2.below (Chg.below (by repeat (first | with_reducible exact Chg.refl _ _ | with_reducible exact chg0 | with_reducible refine Chg.drewN ?_ _ | with_reducible refine Chg.drew ?_ | with_reducible refine Chg.alloc ?_ _ | with_reducible refine Chg.setCell ?_ _ _ (by first | (simp; done) | omega | (simp; omega)) | with_reducible refine Chg.setBlock ?_ _ _ (by first | (simp; done) | omega | (simp; omega)) | exact Chg.refl _ _)))) (HL8.out.2.below (Chg.below (by repeat (first | with_reducible exact Chg.refl _ _ | with_reducible exact chg0 | with_reducible refine Chg.drewN ?_ _ | with_reducible refine Chg.drew ?_ | with_reducible refine Chg.alloc ?_ _ | with_reducible refine Chg.setCell ?_ _ _ (by first | (simp; done) | omega | (simp; omega)) | with_reducible refine Chg.setBlock ?_ _ _ (by first | (simp; done) | omega | (simp; omega)) | exact Chg.refl _ _))))).mono ?_
                rintro e w9 ⟨rfl, hb9⟩
                go_wp2_with fail
                go_ret
                exact ⟨rfl, below_trans HC3.out.one.below (below_trans (Chg.below (by repeat (first | with_reducible exact Chg.refl _ _ | with_reducible exact chg0 | with_reducible refine Chg.drewN ?_ _ | with_reducible refine Chg.drew ?_ | with_reducible refine Chg.alloc ?_ _ | with_reducible refine Chg.setCell ?_ _ _ (by first | (simp; done) | omega | (simp; omega)) | with_reducible refine Chg.setBlock ?_ _ _ (by first | (simp; done) | omega | (simp; omega)) | exact Chg.refl _ _))) hb9)⟩
  · have HMN := Lib.hid (fun V => made15_no c id A l.length cap V hf)
    simp only [Config.val, Config.cells] at HMN ⊢
    clear hf
    go_enter Tryz.func10, Tryz.ntmps10
    go_wp2_with fail
    refine (HMN.out _).mono ?_
    rintro e w1 ⟨rfl, hb1⟩
    have HB1 := Lib.hid (show Below w.heap.size w w1 from below_trans (Chg.below (by repeat (first | with_reducible exact Chg.refl _ _ | with_reducible exact chg0 | with_reducible refine Chg.drewN ?_ _ | with_reducible refine Chg.drew ?_ | with_reducible refine Chg.alloc ?_ _ | with_reducible refine Chg.setCell ?_ _ _ (by first | (simp; done) | omega | (simp; omega)) | with_reducible refine Chg.setBlock ?_ _ _ (by first | (simp; done) | omega | (simp; omega)) | exact Chg.refl _ _))) hb1)
    clear hb1
    go_wp2_with fail
    refine (ndAwake_calls _).mono ?_
    rintro e w2 ⟨rfl, hb2⟩
    go_wp2_with fail
    refine (ndAwake_calls _).mono ?_
    rintro e w3 ⟨rfl, hb3⟩
    go_wp2_with fail
    go_ret
    exact ⟨rfl, below_trans HB1.out (below_trans (below_trans (Chg.below (by repeat (first | with_reducible exact Chg.refl _ _ | with_reducible exact chg0 | with_reducible refine Chg.drewN ?_ _ | with_reducible refine Chg.drew ?_ | with_reducible refine Chg.alloc ?_ _ | with_reducible refine Chg.setCell ?_ _ _ (by first | (simp; done) | omega | (simp; omega)) | with_reducible refine Chg.setBlock ?_ _ _ (by first | (simp; done) | omega | (simp; omega)) | exact Chg.refl _ _))) hb2) (below_trans (Chg.below (by repeat (first | with_reducible exact Chg.refl _ _ | with_reducible exact chg0 | with_reducible refine Chg.drewN ?_ _ | with_reducible refine Chg.drew ?_ | with_reducible refine Chg.alloc ?_ _ | with_reducible refine Chg.setCell ?_ _ _ (by first | (simp; done) | omega | (simp; omega)) | with_reducible refine Chg.setBlock ?_ _ _ (by first | (simp; done) | omega | (simp; omega)) | exact Chg.refl _ _))) hb3))⟩
set_option maxRecDepth 100000 in
theorem nodeCopies_lifted (os : Os) (started : os.Started) (H : Type) (enc : TypeId × Value → H) :
    ReturnsInHanded {} Tryz.checked os 10 .any (Rows.nodeCopiesSpec.pre6 enc Tryz.prog Tryz.f10 Rows.nodeCopiesRow.domain false) (Rows.nodeCopiesSpec.post enc Tryz.prog Tryz.f10 false true false false) := by
  refine returnsInHanded_of_change (C := Tryz.checked) law_own started (by kernel_rfl) Tryz.func10
    (ChangeSpec.witness6 (enc := enc) (C := Tryz.checked) false ⟨#[], #[.agg #[.int .i64 0, .int .i64 0, .int .i64 0, .int .i64 0, .int .i64 0, .int .i64 0, .int .i64 0, .int .i64 0, .int .i64 0], .int .i64 0, .slice none 0 0], []⟩ 8 (by kernel_rfl) (by kernel_rfl) (by kernel_rfl) (by kernel_rfl)) ?_
  intro W base args ds gs before hval0 hW hcnd _
  have hval : ∀ (j : Nat) t v, Tryz.f10.params[j]? = some t → args[j]? = some v → Value.okWide Tryz.prog W .any base t v := hval0
  have hW' := hW
  obtain ⟨p, q, hA0, hV, rfl, hfz, hnd⟩ := hW
  have hA : DataW.TrodAll enc Tryz.prog W 0 (fun _ => true) true Tryz.f10.params.toList args.toList ds p := hA0
  rw [Tryz.params10] at hA hval
  obtain ⟨v0, vs0, d0, ds0, p0, q0, hargs, rfl, rfl, h0, r0⟩ := trodAll_cons hA
  obtain ⟨v1, vs1, d1, ds1, p1, q1, rfl, rfl, rfl, h1, r1⟩ := trodAll_cons r0
  obtain ⟨v2, vs2, d2, ds2, p2, q2, rfl, rfl, rfl, h2, r2⟩ := trodAll_cons r1
  obtain ⟨rfl, rfl, rfl⟩ := trodAll_nil r2
  obtain rfl : args = #[v0, v1, v2] := by cases args; simp_all
  obtain ⟨rfl, rfl⟩ := trodVars_none hV
  have k0 := h0
  have lt0 : ∀ x ∈ p0, x.block < W.heap.size := by obtain ⟨m, hm⟩ := k0; exact DataW.trod_lt m _ _ _ hm
  obtain ⟨f0, g0⟩ := h0
  obtain ⟨cs0, rfl, _⟩ := okWide_struct Tryz.underlying23 (hval 0 23 v0 rfl rfl)
  obtain ⟨x0, e0, o0⟩ := Config.of_trod g0
  obtain rfl : cs0 = x0.cells.toArray := by simp only [Value.cells] at e0; rw [← e0]
  have k1 := h1
  have lt1 : ∀ x ∈ p1, x.block < W.heap.size := by obtain ⟨m, hm⟩ := k1; exact DataW.trod_lt m _ _ _ hm
  obtain ⟨f1, g1⟩ := h1
  obtain ⟨x1, e1, o1⟩ := int_of_trod g1
  obtain rfl := one_value (hval 1 3 v1 rfl rfl) Tryz.underlying3 e1
  have k2 := h2
  have lt2 : ∀ x ∈ p2, x.block < W.heap.size := by obtain ⟨m, hm⟩ := k2; exact DataW.trod_lt m _ _ _ hm
  obtain ⟨f2, g2⟩ := h2
  obtain ⟨l2, s2, o2⟩ := slice_of_trod (sz := 18) (cells := Act15.cells) (ok := Act15.ok) Tryz.underlying26 (by kernel_rfl) (by decide) (fun _ => rfl) Act15.of_trod g2 (okWide_slice Tryz.underlying26 (hval 2 26 v2 rfl rfl))
  clear hA0 hval0
  refine (nodeCopies_walk x0 o0 x1 o1 l2 v2 W s2 o2).mono fun e W' ⟨he, bel⟩ => ?_
  subst he
  exact ⟨_, rfl, _, _, _, [], _, [], hW', trodAll_mk1 (shut_bool Tryz.underlying4 _), (trodAll_cons_mk (Below.trod law_laidOut (by kernel_rfl) (of_decide_eq_true (by kernel_rfl)) k0 bel lt0) (trodAll_cons_mk (Below.trod law_laidOut (by kernel_rfl) (of_decide_eq_true (by kernel_rfl)) k1 bel lt1) (trodAll_cons_mk (Below.trod law_laidOut (by kernel_rfl) (of_decide_eq_true (by kernel_rfl)) k2 bel lt2) trodAll_mk0))), rfl, bel.frame _, fun h => by cases h⟩

theorem nodeCopies_holds : Rows.NodeCopiesSaid :=
  OpenClaim.holds_of_wide 10 Tryz.f10 rfl rfl rfl rfl rfl rfl rfl ⟨rfl, rfl, rfl, rfl, rfl⟩ rfl rfl rfl rfl rfl (by kernel_rfl) Tryz.func10 (by kernel_rfl)
    (of_decide_eq_true (by kernel_rfl)) (by unfold Func.isWrapper; first | (rw [if_pos (by decide +kernel)]; kernel_rfl) | (rw [if_neg (by decide +kernel)]; exact ⟨rfl, rfl⟩))
    (fun os started H enc _ => nodeCopies_lifted os started H enc)
end Go.Proofs.YtchlioikkhnidaaGreat
