/- bringuprails.Near. -/
import Derived.Test.YtoenkcojfogmmaaMkC
import Derived.Test.YtoenkcojfogmmaaRfc
import Derived.Test.YtoenkcojfogmmaaNr
import Derived.Deep.DeepCutAuto
set_option linter.unusedVariables false
set_option linter.unusedSimpArgs false
namespace Go.Proofs.Ytoenkcojfogmmaa
open Go.RowKit
open Classical

/-- Rails that lie in memory, wherever the tape stands, and whether they meet the draws. -/
def MakesNear (w : World) (b len : Nat) (l : List Sup) (d : List Drw) (e : Ending) (w' : World) : Prop :=
  ∃ r v ok, e = .returned (.tuple #[v, .bool ok]) ∧ VH b w' v r ∧ (ok = true → MeetsAll l r d) ∧ Mv b len w w'
theorem hold_B {b len : Nat} {w : World} {a : Option Addr} {xs : List Bool} (h : SlOf 1 RB w a xs) (ht : Tp w b len) : Hold b w (fun W => SlOf 1 RB W a xs) := by
  obtain ⟨p, ao, cap, _, c1, _⟩ := ht
  exact fun q => h.keepB c1 (by intro x e; cases e)
theorem hold_I {b : Nat} {w : World} {B : Nat} {xs : List Int} (h : SlOf 1 RI w (some ⟨B, 0, none⟩) xs) (hB : B ≠ b) : Hold b w (fun W => SlOf 1 RI W (some ⟨B, 0, none⟩) xs) := by
  intro p k hk
  obtain ⟨b', o', e, q⟩ := h k hk
  cases e
  refine ⟨B, 0, rfl, ?_, q.2⟩
  rw [World.cell?_setCell_other]
  · exact q.1
  · simp [Ne.symm hB]
theorem hold_I_nil {b : Nat} {w : World} {a : Option Addr} {xs : List Int} (h : xs.length = 0) : Hold b w (fun W => SlOf 1 RI W a xs) := by
  have : xs = [] := List.eq_nil_of_length_eq_zero h
  subst this
  exact fun _ => SlOf.nil _ _ _ _
theorem least_hold {l : List Sup} {d : List Drw} {w w' : World} {b len : Nat} (ht : Tp w b len) {r : Rls} {v : Value} (hg : Gr w w') (hv : VRls w' v r) (hf : LvFresh w v r) : VH b w' v r := by
  obtain ⟨a1, a2, c1, c2, rfl, s1, s2, k1, _, k2, _⟩ := hv
  have t' := ht.gr hg
  refine ⟨a1, a2, c1, c2, rfl, k1, k2, hold_B s1 t', ?_⟩
  rcases hf with e | ⟨x1, n1, d1, B, d2, e, hB⟩
  · exact hold_I_nil e
  · simp only [Value.agg.injEq, Array.mk.injEq, List.cons.injEq, Value.slice.injEq] at e
    obtain ⟨_, ⟨rfl, _, _⟩, _⟩ := e
    exact hold_I s2 (by have := ht.has; omega)

theorem set_comm (w : World) (b c o p : Nat) (u v : Value) (h : b ≠ c) : (w.setCell ⟨c, o, none⟩ u).setCell ⟨b, p, none⟩ v = (w.setCell ⟨b, p, none⟩ v).setCell ⟨c, o, none⟩ u := by
  simp only [World.setCell]
  congr 1
  apply Array.ext_getElem?
  intro k
  simp only [Array.getElem?_modify]
  by_cases e1 : b = k <;> by_cases e2 : c = k
  · omega
  · simp [e1, e2]
  · simp [e1, e2]
  · simp [e1, e2]
theorem VH.box {b : Nat} {w : World} {v : Value} {r : Rls} (h : VH b w v r) {c o : Nat} {s1 : Option Addr} {n1 k1 : Nat} {u : Value} (hc : w.cell? ⟨c, o, none⟩ = some (.slice s1 n1 k1)) (hb : c ≠ b) : VH b (w.setCell ⟨c, o, none⟩ u) v r := by
  obtain ⟨a1, a2, c1, c2, e, k1', k2', h1, h2⟩ := h
  refine ⟨a1, a2, c1, c2, e, k1', k2', fun p => ?_, fun p => ?_⟩
  · rw [set_comm _ _ _ _ _ _ _ (Ne.symm hb)]
    refine (h1 p).keepB (v := .slice s1 n1 k1) ?_ (by intro x e; cases e)
    rw [World.cell?_setCell_other]
    · exact hc
    · simp [Ne.symm hb]
  · rw [set_comm _ _ _ _ _ _ _ (Ne.symm hb)]
    refine (h2 p).keepI (v := .slice s1 n1 k1) ?_ (by intro k x e; cases e)
    rw [World.cell?_setCell_other]
    · exact hc
    · simp [Ne.symm hb]
theorem VH.gr {b : Nat} {w w' : World} {v : Value} {r : Rls} (h : VH b w v r) (hb : b < w.heap.size) (hg : Gr w w') : VH b w' v r := by
  obtain ⟨a1, a2, c1, c2, e, k1, k2, h1, h2⟩ := h
  exact ⟨a1, a2, c1, c2, e, k1, k2, h1.gr hb hg (mono_B _ _), h2.gr hb hg (mono_I _ _)⟩

set_option maxRecDepth 100000 in
set_option maxHeartbeats 8000000 in
theorem near_any (l : List Sup) (d : List Drw) (ao a3 : Option Addr) (cap c3 : Nat) (w : World) (b len : Nat) (ht : Tp w b len) (h : Hold b w (fun W => SlOf 5 RSup W ao l)) (h3 : Hold b w (fun W => SlOf 4 RDrw W a3 d)) (hd : DrwsOk l d) (hl : 0 < l.length) :
    Calls Try.prog 11 #[.pointer (some ⟨b, 0, none⟩), .slice ao l.length cap, .slice a3 d.length c3] w (MakesNear w b len l d) := by
  have TT := Lib.hid ht
  have HB := Lib.hid ht.has
  have H := Lib.hid h
  have H3 := Lib.hid h3
  have HD := Lib.hid hd
  have hz := chk_zero hd.1
  have n16 : l.length ≤ 16 := by
    have := hz.1
    simp only [Big, not_or] at this
    omega
  have FL : Hid (Fit l.length) := Lib.hid (by unfold Fit; omega)
  have FD : Hid (Fit d.length) := Lib.hid (by have := hd.2.1; unfold Fit; omega)
  have L16 : Hid (∀ k (h : k < l.length), 1 ≤ l[k].levels.length ∧ l[k].levels.length ≤ 16) := Lib.hid fun k hk => by
    have h1 := hz.1
    simp only [Big, not_or] at h1
    refine ⟨?_, Classical.byContradiction fun q => h1.2 ⟨k, hk, by omega⟩⟩
    obtain ⟨_, q⟩ := hz.2 k hk
    exact q.1.2.2.1
  have SL := Lib.hid (h.now ht)
  have SD := Lib.hid (h3.now ht)
  clear ht h h3 hd hz
  obtain ⟨i0, hi, hz0, hz1, hz2⟩ := info_parts infoInt
  obtain ⟨j0, hj, hy0, hy1, hy2⟩ := info_parts infoBool
  go_enter Try.func11, Try.ntmps11
  go_wp2_with fail
  refine (refLeast_any l d ao a3 cap c3 _ (sups_gr SL.out ((Gr.refl _).alloc _)) FL.out (drws_gr SD.out ((Gr.refl _).alloc _)) FD.out).mono ?_
  rintro e W1 ⟨r, x, v, rfl, hv, hmx, hwx, hg, hf⟩
  have VV := Lib.hid (least_hold (l := l) (d := d) (TT.out.gr ((Gr.refl _).alloc _)) hg hv hf)
  have HMX := Lib.hid hmx
  have G1 : Hid (Gr w W1) := Lib.hid (Gr.trans ((Gr.refl _).alloc _) hg)
  have R6 : Hid (Row W1 w.heap.size 31 [.slice none 0 0, .slice none 0 0]) := Lib.hid ((Row.new w #[.slice none 0 0, .slice none 0 0] _).gr hg)
  obtain ⟨a1, a2, c1, c2, rfl, k1, k2, s1, s2⟩ := VV.out
  have S1 := Lib.hid s1
  have S2 := Lib.hid s2
  have wx1 := hwx.1
  have wx2 := hwx.2
  clear hv hmx hwx hg hf s1 s2
  have y0 := R6.out.cell 0 (by simp)
  have y1 := R6.out.cell 1 (by simp)
  simp only [List.getElem_cons_zero, List.getElem_cons_succ] at y0 y1
  have y2 := R6.out.free 0
  have y3 := R6.out.free 1
  have yh := R6.out.has
  by_cases hx : x = 0
  · subst hx
    have MR := Lib.hid (HMX.out rfl)
    clear y0 y1 y2 y3 yh wx1 wx2 HMX
    go_wp2_with fail
    have hm0 := Lib.hid (Mv.of_gr TT.out (G1.out.alloc (.cells #[.slice a1 r.on.length c1, .slice a2 r.level.length c2] 31)))
    have hb1 : Hid (b < W1.heap.size) := Lib.hid (Nat.lt_of_lt_of_le HB.out G1.out.size)
    have V0 := Lib.hid (VV.out.gr hb1.out ((Gr.refl _).alloc (.cells #[.slice a1 r.on.length c1, .slice a2 r.level.length c2] 31)))
    have nb8 : Hid (W1.heap.size ≠ b) := Lib.hid (by have := hb1.out; omega)
    have nb6 : Hid (w.heap.size ≠ b) := Lib.hid (by have := HB.out; omega)
    have sz1 := G1.out.size
    have szR : w.heap.size < W1.heap.size := R6.out.has
    go_loopw [10] (fun i wr => ∃ (k : Nat) (r : Rls) (a1 a2 : Option Addr) (c1 c2 : Nat), i = .int .i64 k ∧ k ≤ 2 * l.length ∧ MeetsAll l r d ∧ Mv b len w wr ∧ Row wr w.heap.size 31 [.slice none 0 0, .slice none 0 0] ∧ Row wr W1.heap.size 31 [.slice a1 r.on.length c1, .slice a2 r.level.length c2] ∧ VH b wr (.agg #[.slice a1 r.on.length c1, .slice a2 r.level.length c2]) r) (fun i _ => (intOf i).toNat)
    case atStart => exact ⟨2 * l.length, r, a1, a2, c1, c2, by go_num, Nat.le_refl _, MR.out, hm0.out, R6.out.alloc _, Row.new W1 _ _, V0.out⟩
    case round =>
      clear MR hm0 V0 S1 S2 VV k1 k2
      obtain ⟨k, r, a1, a2, c1, c2, rfl, hk2, hmr, hm, hr6, hr8, hvh⟩ := hrel
      have MR := Lib.hid hmr
      have HM := Lib.hid hm
      have Q6 := Lib.hid hr6
      have Q8 := Lib.hid hr8
      have VH' := Lib.hid hvh
      have TW := Lib.hid (hm.tp TT.out)
      have hbr : Hid (b < wr.heap.size) := Lib.hid TW.out.has
      have r0 := hr8.cell 0 (by simp)
      have r1 := hr8.cell 1 (by simp)
      simp only [List.getElem_cons_zero, List.getElem_cons_succ] at r0 r1
      have rh := hr8.has
      clear hmr hm hr6 hr8 hvh
      by_cases h0 : 0 < k
      · obtain ⟨k', rfl⟩ : ∃ k', k = k' + 1 := ⟨k - 1, by omega⟩
        have g0 : (0 : Int) < ((k' + 1 : Nat) : Int) := by omega
        obtain ⟨a1', a2', c1', c2', ee, kk1, kk2, s1, s2⟩ := VH'.out
        simp only [Value.agg.injEq, Array.mk.injEq, List.cons.injEq, Value.slice.injEq, and_true, true_and] at ee
        obtain ⟨⟨rfl, rfl⟩, ⟨rfl, rfl⟩⟩ := ee
        have S1 := Lib.hid (s1.now TW.out)
        have S2 := Lib.hid (s2.now TW.out)
        have n1 := MR.out.2.1.2.1
        have n2 := MR.out.2.1.2.2.1
        have p1 : 0 < r.on.length := by omega
        have p2 : 0 < r.level.length := by omega
        have f1 : r.on.length ≤ 1000000 := by omega
        have f2 : r.level.length ≤ 1000000 := by omega
        have N1 := Lib.hid n1
        have N2 := Lib.hid n2
        clear n1 n2
        obtain ⟨b1, o1, rfl, _⟩ := S1.out.one 0 p1
        obtain ⟨b2, o2, rfl, _⟩ := S2.out.one 0 p2
        clear s1 s2
        have MRh := MR
        go_wp2_with fail
        refine wp_code_eq (c := Code.region 7 (regIn 7 Try.f11) true) (by kernel_rfl) ?_
        refine near_r7 r0 r1 S1.out S2.out p1 p2 f1 f2 ?_
        intro t29 t30 t31 t32 t33 t34 t35 t36 t37 B11 B1 B2 cO cL wx x0 x1 x2 hB11 hB1 hB2 hcO hcL hgx
        unfold N7A
        have X0 := Lib.hid x0
        have X1 := Lib.hid x1
        have X2 := Lib.hid x2
        have GX := Lib.hid (Mv.of_gr TW.out hgx)
        have TX := Lib.hid (TW.out.gr hgx)
        have hbx : Hid (b < wx.heap.size) := Lib.hid TX.out.has
        have e11 : Hid (B11 ≠ b ∧ B1 ≠ b ∧ B2 ≠ b) := Lib.hid (by have := hbr.out; omega)
        have lpos : (1 : Int) ≤ l.length := by omega
        have l16i : (l.length : Int) ≤ 16 := by omega
        clear x0 x1 x2 hgx r0 r1 rh
        go_wp2_with fail
        refine (nM_any wx b len _ TX.out (by omega) (by omega)).mono ?_
        rintro e w2 ⟨x, rfl, ⟨hx1, hx2⟩, hm2⟩
        obtain ⟨kx, rfl⟩ : ∃ kx : Nat, x = (kx : Int) := ⟨x.toNat, by omega⟩
        have M2 := Lib.hid hm2
        have T2 := Lib.hid (hm2.tp TX.out)
        clear hm2
        go_wp2_with fail
        refine (nM_any w2 b len _ T2.out (by omega) (by omega)).mono ?_
        rintro e w3 ⟨y, rfl, ⟨hy1, hy2⟩, hm3⟩
        have M3 := Lib.hid (M2.out.trans hbx.out hm3)
        clear hm3 M2 T2
        have Y0 := Lib.hid (M3.out.row X0.out e11.out.1)
        have Y1 := Lib.hid (M3.out.rowS X1.out e11.out.2.1)
        have Y2 := Lib.hid (M3.out.rowS X2.out e11.out.2.2)
        have MM3 := Lib.hid (GX.out.trans hbr.out M3.out)
        clear X0 X1 X2 GX TX hbx M3
        have hkx : kx < l.length := by omega
        go_upto_if 44 with fail
        go_cut [] (fun wx => ∃ ons : List Bool, ons.length = r.on.length ∧ Row wx B11 31 [.slice (some ⟨B1, 0, none⟩) r.on.length cO, .slice (some ⟨B2, 0, none⟩) r.level.length cL] ∧ RowS wx B1 4 (bools ons) ∧ RowS wx B2 3 (nums r.level) ∧ Mv b len wr wx)
        case first =>
          have z0 := Y0.out.cell 0 (by simp)
          have zh := Y0.out.has
          have z1 := Y1.out.bat kx (by have := N1.out; omega)
          have zf := Y1.out.free kx
          have z1h := Y1.out.has
          have kb : (kx : Int) < r.on.length := by have := N1.out; omega
          have kp : (0 : Int) ≤ kx := by omega
          simp only [List.getElem_cons_zero] at z0
          by_cases hy : y = 0
          · subst hy
            go_wp2_with fail
            go_meet
            exact ⟨r.on.set kx true, by simp, Y0.out.oth (Y1.out.apart Y0.out.s (by decide)), Y1.out.bset kx (by have := N1.out; omega) true, Y2.out.oth (Y1.out.apart Y2.out (by decide)), MM3.out.setc hB1⟩
          · have hyb : (y == 0) = false := by simpa using hy
            go_wp2_with fail
            go_meet
            exact ⟨r.on, rfl, Y0.out, Y1.out, Y2.out, MM3.out⟩
        obtain ⟨ons, eo, z0, z1, z2, hmm⟩ := hcut
        obtain ⟨W3, rfl⟩ : ∃ W3 : World, W3 = wc := ⟨_, rfl⟩
        have EO := Lib.hid eo
        have Z0 := Lib.hid z0
        have Z1 := Lib.hid z1
        have Z2 := Lib.hid z2
        have ZM := Lib.hid hmm
        have ZT := Lib.hid (hmm.tp TW.out)
        have hb3 : Hid (b < W3.heap.size) := Lib.hid ZT.out.has
        have ZH := Lib.hid (HM.out.trans HB.out ZM.out)
        clear eo z0 z1 z2 hmm Y0 Y1 Y2 MM3
        obtain ⟨bs, os', rfl, _, ⟨av, cv, q1, _, _, _⟩, _⟩ := (H.out.mv HB.out ZH.out (mono_sups _ _)).now ZT.out kx hkx
        have HQ := Lib.hid (hold_levels (H.out.mv HB.out ZH.out (mono_sups _ _)) ZT.out hkx q1).2
        have ll := L16.out kx hkx
        have l1 : (1 : Int) ≤ l[kx].levels.length := by omega
        have l2 : (l[kx].levels.length : Int) ≤ 16 := by omega
        have kp : (0 : Int) ≤ kx := by omega
        have kl : (kx : Int) < l.length := by omega
        have kb : (kx : Int) < r.level.length := by have := N2.out; omega
        have y0 := Z0.out.cell 1 (by simp)
        have yh := Z0.out.has
        have qh := has_of_cell q1
        have z0 := Z2.out.iat kx (by have := N2.out; omega)
        have zf := Z2.out.free kx
        have zh := Z2.out.has
        simp only [List.getElem_cons_zero, List.getElem_cons_succ] at y0
        go_wp2_with fail
        go_cut [] (fun wx => ∃ z : Int, 0 ≤ z ∧ z ≤ (l[kx].levels.length : Int) - 1 ∧ Row wx B11 31 [.slice (some ⟨B1, 0, none⟩) r.on.length cO, .slice (some ⟨B2, 0, none⟩) r.level.length cL] ∧ RowS wx B1 4 (bools ons) ∧ RowS wx B2 3 (nums (r.level.set kx z)) ∧ Mv b len wr wx)
        case first =>
          go_region_law (
            (go_simp; go_at_call 34; refine (nM_any _ b len _ (ZT.out.gr (by repeat (first | with_reducible exact Gr.refl _ | with_reducible refine Gr.drew ?_ | with_reducible refine Gr.alloc _ ?_ | with_reducible refine Gr.xt _ _ ?_))) (by omega) (by omega)).mono ?_; rintro e w4 ⟨z, rfl, ⟨hz1, hz2⟩, hm4⟩; have M4 := Lib.hid ((Mv.of_gr ZT.out (by repeat (first | with_reducible exact Gr.refl _ | with_reducible refine Gr.drew ?_ | with_reducible refine Gr.alloc _ ?_ | with_reducible refine Gr.xt _ _ ?_))).trans hb3.out hm4); have A0 := Lib.hid (M4.out.row Z0.out e11.out.1); have A2 := Lib.hid (M4.out.rowS Z2.out e11.out.2.2); have u0 := A0.out.cell 1 (by simp); have uh := A0.out.has; have v0 := A2.out.iat kx (by have := N2.out; omega); have vf := A2.out.free kx; have vh := A2.out.has; clear hm4; simp only [List.getElem_cons_zero, List.getElem_cons_succ] at u0))
          all_goals (go_wp2_with fail; go_meet)
          all_goals
            exact ⟨z, hz1, hz2, A0.out.oth (A2.out.apart A0.out.s (by decide)), (M4.out.rowS Z1.out e11.out.2.1).oth (A2.out.apart (M4.out.rowS Z1.out e11.out.2.1) (by decide)), A2.out.iset kx (by have := N2.out; omega) z, (ZM.out.trans hbr.out M4.out).setc hB2⟩
        obtain ⟨z, hz1, hz2, z0', z1', z2', hmm⟩ := hcut
        obtain ⟨W4, rfl⟩ : ∃ W4 : World, W4 = wc := ⟨_, rfl⟩
        clear q1 HQ ll l1 l2 kp kl kb y0 yh qh z0 zf zh Z0 Z1 Z2 ZM ZT hb3 ZH
        obtain ⟨xr, hxr⟩ : ∃ xr : Rls, Hid (xr = ⟨ons, r.level.set kx z⟩) := ⟨_, Lib.hid rfl⟩
        have e1 : ons = xr.on := by rw [hxr.out]
        have e2 : r.level.set kx z = xr.level := by rw [hxr.out]
        have e3 : r.on.length = xr.on.length := by rw [hxr.out]; exact EO.out.symm
        have e4 : r.level.length = xr.level.length := by rw [hxr.out]; simp
        rw [e1] at z1'
        rw [e2] at z2'
        rw [e3, e4] at z0'
        have E3 := Lib.hid e3
        have E4 := Lib.hid e4
        have Z0 := Lib.hid z0'
        have Z1 := Lib.hid z1'
        have Z2 := Lib.hid z2'
        have ZM := Lib.hid hmm
        have ZT := Lib.hid (hmm.tp TW.out)
        have ZH := Lib.hid (HM.out.trans HB.out hmm)
        have wid : Hid (∀ k (hk : k < xr.level.length), Wide xr.level[k]) := Lib.hid fun k hk => by
          have w1 := lv_wide (rls_wide MR.out.2.1) k (by rw [hxr.out] at hk; simpa using hk)
          have w2 : xr.level[k] = (r.level.set kx z)[k]'(by rw [e2]; exact hk) := by simp only [e2]
          rw [w2, List.getElem_set]
          have := L16.out kx hkx
          split
          · unfold Wide; omega
          · exact w1
        have y0 := Z0.out.cell 0 (by simp)
        have y1 := Z0.out.cell 1 (by simp)
        have yh := Z0.out.has
        simp only [List.getElem_cons_zero, List.getElem_cons_succ] at y0 y1
        clear e1 e2 e3 e4 z0' z1' z2' hmm
        go_wp2_with fail
        have n1 := N1.out
        have n2 := N2.out
        have FX1 : Hid (Fit xr.on.length) := Lib.hid (by have := E3.out; unfold Fit; omega)
        have FX2 : Hid (Fit xr.level.length) := Lib.hid (by have := E4.out; unfold Fit; omega)
        clear n1 n2
        refine (refMeets_any l xr d _ _ _ a3 cap cO cL c3 _ ((H.out.mv HB.out ZH.out (mono_sups _ _)).now ZT.out) FL.out Z1.out.slB (Z2.out.slI wid.out) ((H3.out.mv HB.out ZH.out (mono_drws _ _)).now ZT.out) FX1.out FX2.out FD.out).mono ?_
        have VHx : Hid (VH b W4 (.agg #[.slice (some ⟨B1, 0, none⟩) xr.on.length cO, .slice (some ⟨B2, 0, none⟩) xr.level.length cL]) xr) := Lib.hid
          ⟨_, _, _, _, rfl, by rw [← E3.out]; exact hcO, by rw [← E4.out]; exact hcL, fun p => (Z1.out.oth (Ne.symm e11.out.2.1)).slB, fun p => (Z2.out.oth (Ne.symm e11.out.2.2)).slI wid.out⟩
        by_cases hme : MeetsAll l xr d
        · rw [decide_eq_true hme]
          have HME := Lib.hid hme
          clear hme
          rintro e w' ⟨rfl, hg5⟩
          have G5 := Lib.hid hg5
          have U0 := Lib.hid (Z0.out.gr hg5)
          have U8 := Lib.hid ((ZM.out.row Q8.out nb8.out).gr hg5)
          have U6 := Lib.hid ((ZM.out.row Q6.out nb6.out).gr hg5)
          clear hg5 y0 y1 yh
          have y0 := U0.out.cell 0 (by simp)
          have y1 := U0.out.cell 1 (by simp)
          have yh := U0.out.has
          have v0 := U8.out.cell 0 (by simp)
          have v1 := U8.out.cell 1 (by simp)
          have vh := U8.out.has
          have v2 := U8.out.free 0
          have v3 := U8.out.free 1
          simp only [List.getElem_cons_zero, List.getElem_cons_succ] at y0 y1 v0 v1
          go_wp2_with fail
          go_roundw
          case rel =>
            refine ⟨k', xr, some ⟨B1, 0, none⟩, some ⟨B2, 0, none⟩, cO, cL, by go_num, by omega, HME.out, ?_, ?_, ?_, ?_⟩
            · exact ((ZH.out.gr G5.out).setc sz1).setc sz1
            · exact (U6.out.oth (by omega)).oth (by omega)
            · exact (U8.out.set 0 _).set 1 _
            · refine VH.box (VH.box (VHx.out.gr ZT.out.has G5.out) v0 nb8.out) (s1 := some ⟨b2, o2, none⟩) (n1 := r.level.length) (k1 := c2) ?_ nb8.out
              rw [World.cell?_setCell_other]
              · exact v1
              · simp
          case measure => simp [intOf]
        · rw [decide_eq_false hme]
          clear hme
          rintro e w' ⟨rfl, hg5⟩
          have G5 := Lib.hid hg5
          clear hg5 y0 y1 yh
          go_wp2_with fail
          go_roundw
          case rel =>
            exact ⟨k', r, some ⟨b1, o1, none⟩, some ⟨b2, o2, none⟩, c1, c2, by go_num, by omega, MR.out, ZH.out.gr G5.out, (ZM.out.row Q6.out nb6.out).gr G5.out, (ZM.out.row Q8.out nb8.out).gr G5.out, (VH'.out.mv hbr.out ZM.out).gr ZT.out.has G5.out⟩
          case measure => simp [intOf]
      · have hk0 : k = 0 := by omega
        subst hk0
        have u0 := Q6.out.cell 0 (by simp)
        have u1 := Q6.out.cell 1 (by simp)
        have uh := Q6.out.has
        have u2 := Q6.out.free 0
        have u3 := Q6.out.free 1
        simp only [List.getElem_cons_zero, List.getElem_cons_succ] at u0 u1
        go_wp2_with fail
        refine bodyPost_ret (v := .tuple #[.agg #[.slice a1 r.on.length c1, .slice a2 r.level.length c2], .bool true]) ?_ rfl ?_
        · simp [results, Try.results11, go_sem, u0, u1, uh]
        · have hne : w.heap.size ≠ b := nb6.out
          refine ⟨r, _, true, rfl, ?_, (fun _ => MR.out), (HM.out.setc (Nat.le_refl _)).setc (Nat.le_refl _)⟩
          refine VH.box (VH.box VH'.out u0 hne) (s1 := none) (n1 := 0) (k1 := 0) ?_ hne
          rw [World.cell?_setCell_other]
          · exact u1
          · simp
  · have hxb : (x != 0) = true := by simpa using hx
    clear hx
    go_wp2_with fail
    refine bodyPost_ret (v := .tuple #[.agg #[.slice a1 r.on.length c1, .slice a2 r.level.length c2], .bool false]) ?_ rfl ?_
    · simp [results, Try.results11, go_sem, y0, y1, yh]
    · have hb : b < W1.heap.size := Nat.lt_of_lt_of_le HB.out G1.out.size
      have hne : w.heap.size ≠ b := by have := HB.out; omega
      refine ⟨r, _, false, rfl, ?_, (fun q => Bool.noConfusion q), (((Mv.of_gr TT.out G1.out).setc (Nat.le_refl _)).setc (Nat.le_refl _)).alloc _⟩
      refine VH.gr (VH.box (VH.box VV.out y0 hne) (s1 := none) (n1 := 0) (k1 := 0) ?_ hne) (by rw [size_set, size_set]; exact hb) ((Gr.refl _).alloc _)
      rw [World.cell?_setCell_other]
      · exact y1
      · simp
end Go.Proofs.Ytoenkcojfogmmaa
