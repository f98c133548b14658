/- Take of the program and of the reference; Same. -/
import Derived.Test.YthpgoldahffbcaaHdT
import Derived.Laws.StructEq
set_option linter.unusedVariables false
set_option linter.unusedSimpArgs false
namespace Go.Proofs.Ythpgoldahffbcaa
open Go.RowKit
theorem givesHE_no {w w' : World} {l : List Hld} {x : Int} (hl : l = []) (hg : Gr w w') : GivesHE w l x (.returned (.tuple #[.slice none 0 0, .int .i64 x])) w' := by
  subst hl; exact ⟨_, rfl, owns_nil _ _ _ _, hg⟩
theorem takeE_inv {l : List Hld} {x : Hld} (h : vld l ≠ 0) : takeE l x = 1 := by rw [takeE, if_pos h]
theorem takeE_full {l : List Hld} {x : Hld} (h : vld l = 0) (hl : 96 ≤ l.length) : takeE l x = 3 := by rw [takeE, if_neg (by omega), if_pos hl]
theorem takeE_flt {l : List Hld} {x : Hld} (h : vld l = 0) (hl : ¬ 96 ≤ l.length) : takeE l x = flt l x := by rw [takeE, if_neg (by omega), if_neg hl]
theorem takeP_no {l : List Hld} {x : Hld} (h : takeE l x ≠ 0) : takeP l x = [] := by rw [takeP, if_neg h]
theorem takeP_yes {l : List Hld} {x : Hld} (h : takeE l x = 0) : takeP l x = l ++ [x] := by rw [takeP, if_pos h]
theorem cell_three (w : World) (x y z : Value) (t : TypeId) (B : Nat) (hB : B = w.heap.size) : ∀ j u, [x, y, z][j]? = some u → (w.alloc (.cells #[x, y, z] t)).cell? ((⟨B, 0, none⟩ : Addr).add j) = some u := by
  subst hB
  intro j u hu
  rcases j with _ | _ | _ | j
  all_goals simp at hu
  all_goals subst hu
  all_goals simp [Addr.add, go_sem]

set_option maxHeartbeats 2000000 in
theorem take_any (l : List Hld) (x : Hld) (ao : Option Addr) (cap : Nat) (w : World) (h : SlOf 3 RHld w ao l) (hf : Fit l.length) (hc : l.length ≤ cap) (hx : HWide x) :
    Calls Try.prog 14 #[.slice ao l.length cap, .agg #[.int .i64 x.device, .int .i64 x.kind, .int .i64 x.unit]] w (GivesHE w (takeP l x) (takeE l x)) := by
  have H := Lib.hid h
  have HF := Lib.hid hf
  have HX := Lib.hid hx
  unfold Fit at hf
  clear h hx
  obtain ⟨i0, hi, hz0, hz1, hz2⟩ := info_parts infoHld
  have vw := vld_wide l
  have v0 := vw.1
  have v1 := vw.2
  clear vw
  by_cases hv : vld l ≠ 0
  · have TE := Lib.hid (takeE_inv (x := x) hv)
    have q1 : (vld l != 0) = true := by simpa using hv
    obtain ⟨f, hfl⟩ : ∃ f, Hid (f = vld l) := ⟨_, Lib.hid rfl⟩
    rw [← hfl.out] at q1 v0 v1
    clear hv
    go_enter Try.func14, Try.ntmps14
    go_wp2_with fail
    refine (valid_any l ao cap _ (hlds_gr H.out (by repeat (first | with_reducible exact Gr.refl _ | with_reducible refine Gr.alloc _ ?_ | with_reducible refine Gr.xt _ _ ?_ | with_reducible refine Gr.drew ?_))) HF.out hc).mono ?_
    rw [← hfl.out]
    rintro e w' ⟨rfl, O, d, rfl⟩
    go_wp2_with fail
    go_ret2
    rw [TE.out]
    exact givesHE_no (takeP_no (by rw [TE.out]; omega)) (by repeat (first | with_reducible exact Gr.refl _ | with_reducible refine Gr.alloc _ ?_ | with_reducible refine Gr.xt _ _ ?_ | with_reducible refine Gr.drew ?_))
  have hv := Classical.not_not.1 hv
  have HV := Lib.hid hv
  by_cases hl : 96 ≤ l.length
  · have TE := Lib.hid (takeE_full (x := x) hv hl)
    have hl' : l.length = 96 := by
      have := (vld_zero.1 hv).1
      omega
    have q1 : ((l.length : Int) == 96) = true := by simp; omega
    have q2 : decide ((96 : Int) ≤ l.length) = true := by simp; omega
    clear hv hl hl'
    go_enter Try.func14, Try.ntmps14
    go_wp2_with fail
    refine (valid_any l ao cap _ (hlds_gr H.out (by repeat (first | with_reducible exact Gr.refl _ | with_reducible refine Gr.alloc _ ?_ | with_reducible refine Gr.xt _ _ ?_ | with_reducible refine Gr.drew ?_))) HF.out hc).mono ?_
    rw [HV.out]
    rintro e w' ⟨rfl, O, d, rfl⟩
    go_wp2_with fail
    go_ret2
    rw [TE.out]
    exact givesHE_no (takeP_no (by rw [TE.out]; omega)) (by repeat (first | with_reducible exact Gr.refl _ | with_reducible refine Gr.alloc _ ?_ | with_reducible refine Gr.xt _ _ ?_ | with_reducible refine Gr.drew ?_))
  have TE := Lib.hid (takeE_flt (x := x) hv hl)
  have q1 : ((l.length : Int) == 96) = false := by simp; omega
  have q2 : decide ((96 : Int) ≤ l.length) = false := by simp; omega
  have fw := flt_wide l x
  have f0 := fw.1
  have f1 := fw.2
  clear fw hv
  obtain ⟨f, hfl⟩ : ∃ f, Hid (f = flt l x) := ⟨_, Lib.hid rfl⟩
  rw [← hfl.out] at TE f0 f1
  by_cases hf0 : f ≠ 0
  · have q3 : (f != 0) = true := by simpa using hf0
    have HN := Lib.hid hf0
    clear hf0
    go_enter Try.func14, Try.ntmps14
    go_wp2_with fail
    refine (valid_any l ao cap _ (hlds_gr H.out (by repeat (first | with_reducible exact Gr.refl _ | with_reducible refine Gr.alloc _ ?_ | with_reducible refine Gr.xt _ _ ?_ | with_reducible refine Gr.drew ?_))) HF.out hc).mono ?_
    rw [HV.out]
    rintro e w' ⟨rfl, O, d, rfl⟩
    go_wp2_with fail
    refine (fault_any l x ao cap _ (hlds_gr H.out (by repeat (first | with_reducible exact Gr.refl _ | with_reducible refine Gr.alloc _ ?_ | with_reducible refine Gr.xt _ _ ?_ | with_reducible refine Gr.drew ?_))) HF.out HX.out).mono ?_
    rw [← hfl.out]
    rintro e w' ⟨rfl, O2, d2, rfl⟩
    go_wp2_with fail
    go_ret2
    rw [TE.out]
    exact givesHE_no (takeP_no (by rw [TE.out]; exact HN.out)) (by repeat (first | with_reducible exact Gr.refl _ | with_reducible refine Gr.alloc _ ?_ | with_reducible refine Gr.xt _ _ ?_ | with_reducible refine Gr.drew ?_))
  have hf0 := Classical.not_not.1 hf0
  subst hf0
  go_enter Try.func14, Try.ntmps14
  go_wp2_with fail
  refine (valid_any l ao cap _ (hlds_gr H.out (by repeat (first | with_reducible exact Gr.refl _ | with_reducible refine Gr.alloc _ ?_ | with_reducible refine Gr.xt _ _ ?_ | with_reducible refine Gr.drew ?_))) HF.out hc).mono ?_
  rw [HV.out]
  rintro e w' ⟨rfl, O, d, rfl⟩
  go_wp2_with fail
  refine (fault_any l x ao cap _ (hlds_gr H.out (by repeat (first | with_reducible exact Gr.refl _ | with_reducible refine Gr.alloc _ ?_ | with_reducible refine Gr.xt _ _ ?_ | with_reducible refine Gr.drew ?_))) HF.out HX.out).mono ?_
  rw [← hfl.out]
  rintro e w' ⟨rfl, O2, d2, rfl⟩
  go_wp2_with fail
  obtain ⟨W0, hW0⟩ : ∃ W0 : World, Hid (W0 = xt (w.alloc (.cells #[.int .i64 x.device, .int .i64 x.kind, .int .i64 x.unit] 34)) (O ++ O2) d2) := ⟨_, Lib.hid rfl⟩
  have G0 : Hid (Gr w W0) := Lib.hid (by rw [hW0.out]; exact (by repeat (first | with_reducible exact Gr.refl _ | with_reducible refine Gr.alloc _ ?_ | with_reducible refine Gr.xt _ _ ?_ | with_reducible refine Gr.drew ?_)))
  have R0 : Hid (Row W0 w.heap.size 34 [.int .i64 x.device, .int .i64 x.kind, .int .i64 x.unit]) := Lib.hid (by rw [hW0.out]; exact (Row.new w _ _).xt _ _)
  rw [← hW0.out]
  clear hW0
  have e0 := R0.out.cell 0 (by simp)
  have e1 := R0.out.cell 1 (by simp)
  have e2 := R0.out.cell 2 (by simp)
  have eh := R0.out.has
  simp only [List.getElem_cons_zero, List.getElem_cons_succ] at e0 e1 e2
  refine wp_code_eq (c := Code.region 8 (regIn 8 Try.f14) true) (by kernel_rfl) ?_
  refine tk8 (hlds_gr H.out G0.out) (by omega) e0 e1 e2 ?_
  intro t19 t20 t21 t22 t23 v wx hown hgx
  unfold tk8A
  have OW := Lib.hid (owns_low hown G0.out.size)
  have GX := Lib.hid (G0.out.trans hgx)
  clear hown hgx
  go_wp2_with fail
  refine bodyPost_ret (v := .tuple #[v, .int .i64 0]) ?_ rfl ?_
  · simp [results, Try.results14, go_sem]
  rw [TE.out, takeP_yes TE.out]
  exact ⟨_, rfl, OW.out, GX.out⟩

set_option maxHeartbeats 2000000 in
theorem refTake_any (l : List Hld) (x : Hld) (ao : Option Addr) (cap : Nat) (w : World) (h : SlOf 3 RHld w ao l) (hf : Fit l.length) (hc : l.length ≤ cap) (hx : HWide x) :
    Calls Try.prog 19 #[.slice ao l.length cap, .agg #[.int .i64 x.device, .int .i64 x.kind, .int .i64 x.unit]] w (GivesHE w (takeP l x) (takeE l x)) := by
  have H := Lib.hid h
  have HF := Lib.hid hf
  have HX := Lib.hid hx
  unfold Fit at hf
  clear h hx
  obtain ⟨i0, hi, hz0, hz1, hz2⟩ := info_parts infoHld
  have vw := vld_wide l
  have v0 := vw.1
  have v1 := vw.2
  clear vw
  by_cases hv : vld l ≠ 0
  · have TE := Lib.hid (takeE_inv (x := x) hv)
    have q1 : (vld l != 0) = true := by simpa using hv
    obtain ⟨f, hfl⟩ : ∃ f, Hid (f = vld l) := ⟨_, Lib.hid rfl⟩
    rw [← hfl.out] at q1 v0 v1
    clear hv
    go_enter Try.func19, Try.ntmps19
    go_wp2_with fail
    refine (refValid_any l ao cap _ (hlds_gr H.out (by repeat (first | with_reducible exact Gr.refl _ | with_reducible refine Gr.alloc _ ?_ | with_reducible refine Gr.xt _ _ ?_ | with_reducible refine Gr.drew ?_))) HF.out hc).mono ?_
    rw [← hfl.out]
    rintro e w' ⟨rfl, O, d, rfl⟩
    go_wp2_with fail
    go_ret2
    rw [TE.out]
    exact givesHE_no (takeP_no (by rw [TE.out]; omega)) (by repeat (first | with_reducible exact Gr.refl _ | with_reducible refine Gr.alloc _ ?_ | with_reducible refine Gr.xt _ _ ?_ | with_reducible refine Gr.drew ?_))
  have hv := Classical.not_not.1 hv
  have HV := Lib.hid hv
  by_cases hl : 96 ≤ l.length
  · have TE := Lib.hid (takeE_full (x := x) hv hl)
    have hl' : l.length = 96 := by
      have := (vld_zero.1 hv).1
      omega
    have q1 : ((l.length : Int) == 96) = true := by simp; omega
    have q2 : decide ((96 : Int) ≤ l.length) = true := by simp; omega
    clear hv hl hl'
    go_enter Try.func19, Try.ntmps19
    go_wp2_with fail
    refine (refValid_any l ao cap _ (hlds_gr H.out (by repeat (first | with_reducible exact Gr.refl _ | with_reducible refine Gr.alloc _ ?_ | with_reducible refine Gr.xt _ _ ?_ | with_reducible refine Gr.drew ?_))) HF.out hc).mono ?_
    rw [HV.out]
    rintro e w' ⟨rfl, O, d, rfl⟩
    go_wp2_with fail
    go_ret2
    rw [TE.out]
    exact givesHE_no (takeP_no (by rw [TE.out]; omega)) (by repeat (first | with_reducible exact Gr.refl _ | with_reducible refine Gr.alloc _ ?_ | with_reducible refine Gr.xt _ _ ?_ | with_reducible refine Gr.drew ?_))
  have TE := Lib.hid (takeE_flt (x := x) hv hl)
  have q1 : ((l.length : Int) == 96) = false := by simp; omega
  have q2 : decide ((96 : Int) ≤ l.length) = false := by simp; omega
  have fw := flt_wide l x
  have f0 := fw.1
  have f1 := fw.2
  clear fw hv
  obtain ⟨f, hfl⟩ : ∃ f, Hid (f = flt l x) := ⟨_, Lib.hid rfl⟩
  rw [← hfl.out] at TE f0 f1
  by_cases hf0 : f ≠ 0
  · have q3 : (f != 0) = true := by simpa using hf0
    have HN := Lib.hid hf0
    clear hf0
    go_enter Try.func19, Try.ntmps19
    go_wp2_with fail
    refine (refValid_any l ao cap _ (hlds_gr H.out (by repeat (first | with_reducible exact Gr.refl _ | with_reducible refine Gr.alloc _ ?_ | with_reducible refine Gr.xt _ _ ?_ | with_reducible refine Gr.drew ?_))) HF.out hc).mono ?_
    rw [HV.out]
    rintro e w' ⟨rfl, O, d, rfl⟩
    go_wp2_with fail
    refine (fits_any l x ao cap _ (hlds_gr H.out (by repeat (first | with_reducible exact Gr.refl _ | with_reducible refine Gr.alloc _ ?_ | with_reducible refine Gr.xt _ _ ?_ | with_reducible refine Gr.drew ?_))) HF.out HX.out).mono ?_
    rw [← hfl.out]
    rintro e w' ⟨rfl, O2, d2, rfl⟩
    go_wp2_with fail
    go_ret2
    rw [TE.out]
    exact givesHE_no (takeP_no (by rw [TE.out]; exact HN.out)) (by repeat (first | with_reducible exact Gr.refl _ | with_reducible refine Gr.alloc _ ?_ | with_reducible refine Gr.xt _ _ ?_ | with_reducible refine Gr.drew ?_))
  have hf0 := Classical.not_not.1 hf0
  subst hf0
  go_enter Try.func19, Try.ntmps19
  go_wp2_with fail
  refine (refValid_any l ao cap _ (hlds_gr H.out (by repeat (first | with_reducible exact Gr.refl _ | with_reducible refine Gr.alloc _ ?_ | with_reducible refine Gr.xt _ _ ?_ | with_reducible refine Gr.drew ?_))) HF.out hc).mono ?_
  rw [HV.out]
  rintro e w' ⟨rfl, O, d, rfl⟩
  go_wp2_with fail
  refine (fits_any l x ao cap _ (hlds_gr H.out (by repeat (first | with_reducible exact Gr.refl _ | with_reducible refine Gr.alloc _ ?_ | with_reducible refine Gr.xt _ _ ?_ | with_reducible refine Gr.drew ?_))) HF.out HX.out).mono ?_
  rw [← hfl.out]
  rintro e w' ⟨rfl, O2, d2, rfl⟩
  go_wp2_with fail
  obtain ⟨W0, hW0⟩ : ∃ W0 : World, Hid (W0 = xt (w.alloc (.cells #[.int .i64 x.device, .int .i64 x.kind, .int .i64 x.unit] 34)) (O ++ O2) d2) := ⟨_, Lib.hid rfl⟩
  have G0 : Hid (Gr w W0) := Lib.hid (by rw [hW0.out]; exact (by repeat (first | with_reducible exact Gr.refl _ | with_reducible refine Gr.alloc _ ?_ | with_reducible refine Gr.xt _ _ ?_ | with_reducible refine Gr.drew ?_)))
  have R0 : Hid (Row W0 w.heap.size 34 [.int .i64 x.device, .int .i64 x.kind, .int .i64 x.unit]) := Lib.hid (by rw [hW0.out]; exact (Row.new w _ _).xt _ _)
  rw [← hW0.out]
  clear hW0
  have e0 := R0.out.cell 0 (by simp)
  have e1 := R0.out.cell 1 (by simp)
  have e2 := R0.out.cell 2 (by simp)
  have eh := R0.out.has
  simp only [List.getElem_cons_zero, List.getElem_cons_succ] at e0 e1 e2
  refine wp_code_eq (c := Code.region 8 (regIn 8 Try.f19) true) (by kernel_rfl) ?_
  refine rtk8 (hlds_gr H.out G0.out) (by omega) e0 e1 e2 ?_
  intro t19 t20 t21 t22 t23 v wx hown hgx
  unfold rtk8A
  have OW := Lib.hid (owns_low hown G0.out.size)
  have GX := Lib.hid (G0.out.trans hgx)
  clear hown hgx
  go_wp2_with fail
  refine bodyPost_ret (v := .tuple #[v, .int .i64 0]) ?_ rfl ?_
  · simp [results, Try.results19, go_sem]
  rw [TE.out, takeP_yes TE.out]
  exact ⟨_, rfl, OW.out, GX.out⟩

theorem eq_hold (a b c x y z : Int) (w : World) : (Op.equalIn 10000 34 (.agg #[.int .i64 a, .int .i64 b, .int .i64 c]) (.agg #[.int .i64 x, .int .i64 y, .int .i64 z])).run Try.prog w = .ok (a == x && b == y && c == z) w := by
  have hu : Try.prog.underlying 34 = some (.struct (Try.prog.fieldsOf 34)) := by kernel_rfl
  have hs : Try.prog.stoodInHeld 34 = false := by kernel_rfl
  rw [run_equalIn_agg w 9999 _ _ _ hu hs]
  cases h1 : (a == x) <;> cases h2 : (b == y) <;> cases h3 : (c == z) <;> simp [go_sem, h1, h2, h3]
theorem neq_hold (a b c x y z : Int) (w : World) : (binOp .neq 34 (.agg #[.int .i64 a, .int .i64 b, .int .i64 c]) (.agg #[.int .i64 x, .int .i64 y, .int .i64 z])).run Try.prog w = .ok (.bool (!(a == x && b == y && c == z))) w := by
  rw [run_neq_struct, eq_hold]; rfl
theorem eql_hold (a b c x y z : Int) (w : World) : (binOp .eql 34 (.agg #[.int .i64 a, .int .i64 b, .int .i64 c]) (.agg #[.int .i64 x, .int .i64 y, .int .i64 z])).run Try.prog w = .ok (.bool (a == x && b == y && c == z)) w := by
  rw [run_eql_struct, eq_hold]; rfl
theorem same_iff {a b : List Hld} (h : a.length = b.length) : (∀ k (h1 : k < a.length) (h2 : k < b.length), a[k] = b[k]) ↔ a = b :=
  ⟨fun q => List.ext_getElem h fun k h1 h2 => q k h1 h2, fun q => by subst q; exact fun _ _ _ => rfl⟩
set_option maxHeartbeats 2000000 in
theorem same_any (a b : List Hld) (ao bo : Option Addr) (ca cb : Nat) (w : World) (ha : SlOf 3 RHld w ao a) (hb : SlOf 3 RHld w bo b) (fa : Fit a.length) (fb : Fit b.length) :
    Calls Try.prog 13 #[.slice ao a.length ca, .slice bo b.length cb] w (Grows w (.bool (decide (a = b)))) := by
  unfold Fit at fa fb
  have HA := Lib.hid ha
  have HB := Lib.hid hb
  clear ha hb
  by_cases hl : a.length = b.length
  · have LE := Lib.hid hl
    have q1 : ((a.length : Int) != (b.length : Int)) = false := by simp; omega
    have q2 : (a.length != b.length) = false := by simp; omega
    have le1 : a.length ≤ b.length := by omega
    have le2 : b.length ≤ a.length := by omega
    clear hl
    go_enter Try.func13, Try.ntmps13
    go_wp2_with fail
    go_loopw [13] (fun i wr => ∃ k : Nat, k ≤ a.length ∧ i = .int .i64 k ∧ (∀ j (h1 : j < a.length) (h2 : j < b.length), j < k → a[j] = b[j]) ∧ Gr w wr) (fun i _ => a.length - (intOf i).toNat)
    case atStart => exact ⟨0, Nat.zero_le _, rfl, fun j _ _ h => absurd h (by omega), Gr.refl _⟩
    case round =>
      obtain ⟨k, hk, rfl, hall, hg⟩ := hrel
      have AL := Lib.hid hall
      have HG := Lib.hid hg
      clear hall hg
      by_cases hlt : k < a.length
      · obtain ⟨b1, o1, rfl, ⟨c0, -⟩, ⟨c1, -⟩, ⟨c2, -⟩⟩ := (hlds_gr HA.out HG.out) k hlt
        obtain ⟨b2, o2, rfl, ⟨d0, -⟩, ⟨d1, -⟩, ⟨d2, -⟩⟩ := (hlds_gr HB.out HG.out) k (by omega)
        have ch := has_of_cell c0
        have dh := has_of_cell d0
        have k0 : (0 : Int) ≤ k := by omega
        have k1 : (k : Int) < a.length := by omega
        have k2 : (k : Int) < b.length := by omega
        obtain ⟨y, hy⟩ : ∃ y, Hid (y = a[k]) := ⟨_, Lib.hid rfl⟩
        obtain ⟨z, hz⟩ : ∃ z, Hid (z = b[k]'(by omega)) := ⟨_, Lib.hid rfl⟩
        rw [← hy.out] at c0 c1 c2
        rw [← hz.out] at d0 d1 d2
        obtain ⟨y0, y1, y2⟩ := y
        obtain ⟨z0, z1, z2⟩ := z
        simp only at c0 c1 c2 d0 d1 d2
        have hn := neq_hold y0 y1 y2 z0 z1 z2
        by_cases he : (⟨y0, y1, y2⟩ : Hld) = ⟨z0, z1, z2⟩
        · have hb : (y0 == z0 && y1 == z1 && y2 == z2) = true := by simp only [Hld.mk.injEq] at he; simp [he]
          have HE : Hid (a[k] = b[k]'(by omega)) := Lib.hid (by rw [← hy.out, ← hz.out]; exact he)
          rw [hb] at hn
          clear he hb
          go_wp2_with fail
          refine wp_region_grows (by kernel_rfl) (by kernel_rfl) ?_
          repeat (go_big_quiet_step (fail))
          refine wpQuiet_nil ?_
          rintro _ ⟨⟨O5, d5⟩, rfl⟩
          go_wp2_with fail
          go_roundw
          case rel =>
            refine ⟨k + 1, by omega, by go_num, fun j h1 h2 hj => ?_, HG.out.trans (by repeat (first | with_reducible exact Gr.refl _ | with_reducible refine Gr.alloc _ ?_ | with_reducible refine Gr.xt _ _ ?_ | with_reducible refine Gr.drew ?_))⟩
            by_cases e : j = k
            · subst e; exact HE.out
            · exact AL.out j h1 h2 (by omega)
          case measure => simp [intOf]; omega
        · have hb : (y0 == z0 && y1 == z1 && y2 == z2) = false := by
            cases hq : (y0 == z0 && y1 == z1 && y2 == z2) with
            | false => rfl
            | true => exact absurd (by simp at hq; simp [hq]) he
          have NE : Hid (a ≠ b) := Lib.hid fun q => he (by rw [hy.out, hz.out]; subst q; rfl)
          rw [hb] at hn
          clear he hb
          go_wp2_with fail
          refine wp_region_grows (by kernel_rfl) (by kernel_rfl) ?_
          repeat (go_big_quiet_step (fail))
          refine wpQuiet_nil ?_
          rintro _ ⟨⟨O5, d5⟩, rfl⟩
          go_wp2_with fail
          go_ret
          rw [decide_eq_false NE.out]
          exact ⟨rfl, HG.out.trans (by repeat (first | with_reducible exact Gr.refl _ | with_reducible refine Gr.alloc _ ?_ | with_reducible refine Gr.xt _ _ ?_ | with_reducible refine Gr.drew ?_))⟩
      · go_wp2_with fail
        go_ret
        rw [decide_eq_true ((same_iff LE.out).1 fun k h1 h2 => AL.out k h1 h2 (by omega))]
        exact ⟨rfl, HG.out⟩
  · have q1 : ((a.length : Int) != (b.length : Int)) = true := by simp; omega
    have q2 : (a.length != b.length) = true := by simp; omega
    have NE : Hid (a ≠ b) := Lib.hid fun q => hl (by rw [q])
    clear hl
    go_enter Try.func13, Try.ntmps13
    go_wp2_with fail
    go_ret
    rw [decide_eq_false NE.out]
    exact ⟨rfl, Gr.refl _⟩
end Go.Proofs.Ythpgoldahffbcaa
