/- Contract of supply.Meets. -/
import Derived.Test.YtoenkcojfogmmaaPrgG
set_option linter.unusedVariables false
set_option linter.unusedSimpArgs false
namespace Go.Proofs.Ytoenkcojfogmmaa
open Go.RowKit
open Classical

/-- The cells that lead to the millivolts of supply k. -/
theorem volt_cells {l : List Sup} {r : Rls} {w : World} {ao a2 : Option Addr} (h : SlOf 5 RSup w ao l) (h2 : SlOf 1 RI w a2 r.level) (hr : RlsOk l r) (k : Nat) (hk : k < l.length) :
    ∃ b o b2 o2 b3 o3 cl n, ao = some ⟨b, o, none⟩ ∧ a2 = some ⟨b2, o2, none⟩ ∧ w.cell? ⟨b, o + k * 5 + 1, none⟩ = some (.slice (some ⟨b3, o3, none⟩) l[k].levels.length cl) ∧ w.cell? ⟨b2, o2 + k, none⟩ = some (.int .i64 (n : Nat)) ∧ n < l[k].levels.length ∧ w.cell? ⟨b3, o3 + n, none⟩ = some (.int .i64 (vlt l r k)) := by
  obtain ⟨k1, n, hn, hn1, hv⟩ := rls_lv hr k hk
  obtain ⟨b, o, rfl, ⟨c0, _⟩, ⟨al, cl, q1, q1l, q1f, cL⟩, _⟩ := h k hk
  obtain ⟨b2, o2, rfl, ⟨e1, _⟩⟩ := h2.one k k1
  obtain ⟨b3, o3, rfl, ⟨e2, _⟩⟩ := cL.one n hn1
  rw [hn] at e1
  exact ⟨b, o, b2, o2, b3, o3, cl, n, rfl, rfl, q1, e1, hn1, hv ▸ e2⟩

set_option maxRecDepth 100000 in
set_option maxHeartbeats 1000000 in
theorem meets1_any (l : List Sup) (r : Rls) (d : List Drw) (q0 q1 : Nat) (ao a1 a2 : Option Addr) (cap c1 c2 : Nat) (w : World) (hc : w.cell? ⟨q0, 0, none⟩ = some (.slice ao l.length cap)) (hc1 : w.cell? ⟨q1, 1, none⟩ = some (.slice a2 r.level.length c2))
    (h : SlOf 5 RSup w ao l) (h2 : SlOf 1 RI w a2 r.level) (hr : RlsOk l r) (hd : DrwsOk l d) :
    PredOn VDrw 70 #[.pointer (some ⟨q0, 0, none⟩), .pointer (some ⟨q1, 0, none⟩)] d (fun x => ¬ DrawAt l r x) w := by
  rintro W v k hk hg rfl
  have c0' := cell_gr hg hc
  have c1' := cell_gr hg hc1
  have hh := has_of_cell c0'
  have hh1 := has_of_cell c1'
  have hdo := hd.2.2 k hk
  unfold DrwOk at hdo
  obtain ⟨sn, hsn⟩ := Int.eq_ofNat_of_zero_le hdo.1
  have hsl : sn < l.length := by omega
  have hll := hr.2.2.1
  obtain ⟨b, o, b2, o2, b3, o3, cl, n, rfl, rfl, v1, v2, v3, v4⟩ := volt_cells (sups_gr h hg) (h2.giI hg) hr sn hsl
  have i1 := has_of_cell v1
  have i2 := has_of_cell v2
  have i3 := has_of_cell v4
  have SN := Lib.hid hsn
  clear hc hc1 hg h h2 hr hd hdo
  show Calls Try.prog 70 #[_, _, _] W _
  generalize d[k] = x at *
  rw [hsn]
  clear hsn
  have g0 : (0 : Int) ≤ sn := by omega
  have g1 : (sn : Int) < l.length := by omega
  have g2 : (sn : Int) < r.level.length := by omega
  have g3 : (0 : Int) ≤ n := by omega
  have g4 : (n : Int) < l[sn].levels.length := by omega
  have e : decide (¬ DrawAt l r x) = (!decide (x.low ≤ vlt l r sn) || !decide (vlt l r sn ≤ x.high)) := by
    unfold DrawAt
    rw [SN.out, Int.toNat_natCast]
    by_cases q1 : x.low ≤ vlt l r sn <;> by_cases q2 : vlt l r sn ≤ x.high <;> simp [q1, q2]
  have E := Lib.hid e
  clear e
  go_enter Try.func70, Try.ntmps70
  go_wp2_with fail
  refine wp_region_grows (by kernel_rfl) (by kernel_rfl) ?_
  repeat (go_big_quiet_step ((go_at_call 67; exact calls_same (within_any _ _ _ _))))
  refine wpQuiet_nil ?_
  rintro _ ⟨⟨O5, d5⟩, rfl⟩
  go_wp2_with fail
  go_ret
  exact ⟨ret_bool (by rw [← E.out]; congr), by repeat (first | with_reducible exact Gr.refl _ | with_reducible refine Gr.alloc _ ?_ | with_reducible refine Gr.xt _ _ ?_)⟩
set_option maxRecDepth 100000 in
set_option maxHeartbeats 4000000 in
theorem meets_any (l : List Sup) (r : Rls) (d : List Drw) (ao a1 a2 a3 : Option Addr) (cap c1 c2 c3 : Nat) (w : World) (h : SlOf 5 RSup w ao l) (hf : Fit l.length) (h1 : SlOf 1 RB w a1 r.on) (h2 : SlOf 1 RI w a2 r.level) (h3 : SlOf 4 RDrw w a3 d) (f1 : Fit r.on.length) (f2 : Fit r.level.length) (f3 : Fit d.length) :
    Calls Try.prog 39 #[.slice ao l.length cap, .agg #[.slice a1 r.on.length c1, .slice a2 r.level.length c2], .slice a3 d.length c3] w (Grows w (.bool (decide (MeetsAll l r d)))) := by
  have H := Lib.hid h
  have H1 := Lib.hid h1
  have H2 := Lib.hid h2
  have H3 := Lib.hid h3
  have HF := Lib.hid hf
  clear h h1 h2 h3 hf
  by_cases hr : RlsOk l r
  · have hrb : decide (RlsOk l r) = true := by simp [hr]
    have HR := Lib.hid hr
    clear hr
    by_cases hd : DrwsOk l d
    · have hdb : decide (DrwsOk l d) = true := by simp [hd]
      have e : decide (MeetsAll l r d) = decide (MeetsP l r d) := by simp [MeetsAll, hd, HR.out]
      have HD := Lib.hid hd
      have hz := chk_zero hd.1
      have hf : l.length ≤ 16 := by
        have := hz.1
        simp only [Big, not_or] at this
        omega
      have OK := Lib.hid hz.2
      have f3' := hd.2.1
      have hon := Lib.hid HR.out.2.1
      have hlv := Lib.hid HR.out.2.2.1
      rw [e]
      clear hd e hz
      go_enter Try.func39, Try.ntmps39
      go_wp2_with fail
      refine (rails_any l r ao a1 a2 cap c1 c2 _ (sups_gr H.out (by repeat (first | with_reducible exact Gr.refl _ | with_reducible refine Gr.alloc _ ?_ | with_reducible refine Gr.xt _ _ ?_))) HF.out (H1.out.giB (by repeat (first | with_reducible exact Gr.refl _ | with_reducible refine Gr.alloc _ ?_ | with_reducible refine Gr.xt _ _ ?_))) (H2.out.giI (by repeat (first | with_reducible exact Gr.refl _ | with_reducible refine Gr.alloc _ ?_ | with_reducible refine Gr.xt _ _ ?_))) f1 f2).mono ?_
      rw [hrb]
      rintro e w' ⟨rfl, O1, d1, rfl⟩
      go_wp2_with fail
      refine (draws_any l d ao a3 cap c3 _ (sups_gr H.out (by repeat (first | with_reducible exact Gr.refl _ | with_reducible refine Gr.alloc _ ?_ | with_reducible refine Gr.xt _ _ ?_))) HF.out (drws_gr H3.out (by repeat (first | with_reducible exact Gr.refl _ | with_reducible refine Gr.alloc _ ?_ | with_reducible refine Gr.xt _ _ ?_))) f3).mono ?_
      rw [hdb]
      rintro e w' ⟨rfl, O2, d2, rfl⟩
      go_upto_region 3 with fail
      go_cut [7, 8] (fun s7 s8 wx => ∃ au cu al cl, s7 = .slice au l.length cu ∧ s8 = .slice al l.length cl ∧ SlOf 1 RB wx au (usedL l d) ∧ SlOf 1 RI wx al (loadsL l d) ∧ Gr ((w.alloc (.cells #[.slice ao l.length cap] 25)).alloc (.cells #[.slice a1 r.on.length c1, .slice a2 r.level.length c2] 31)) wx)
      case first =>
        go_region_with (first
          | (go_at_call 68; refine (used_any l d ao a3 cap c3 _ (sups_gr H.out (by repeat (first | with_reducible exact Gr.refl _ | with_reducible refine Gr.alloc _ ?_ | with_reducible refine Gr.xt _ _ ?_))) hf OK.out (drws_gr H3.out (by repeat (first | with_reducible exact Gr.refl _ | with_reducible refine Gr.alloc _ ?_ | with_reducible refine Gr.xt _ _ ?_))) f3' (fun k hk => by have := HD.out.2.2 k hk; unfold DrwOk at this; omega)).mono ?_; rintro e w' ⟨au, cu, rfl, _, _, hu, O3, d3, rfl⟩; have HU := Lib.hid hu; clear hu; rw [usedL_len])
          | (go_at_call 69; refine (loads_any l d ao a3 cap c3 _ (sups_gr H.out (by repeat (first | with_reducible exact Gr.refl _ | with_reducible refine Gr.alloc _ ?_ | with_reducible refine Gr.xt _ _ ?_))) hf OK.out (drws_gr H3.out (by repeat (first | with_reducible exact Gr.refl _ | with_reducible refine Gr.alloc _ ?_ | with_reducible refine Gr.xt _ _ ?_))) f3' (fun k hk => by have := HD.out.2.2 k hk; unfold DrwOk at this; omega) (fun k hk => by have := HD.out.2.2 k hk; unfold DrwOk at this; omega)).mono ?_; rintro e w' ⟨al, cl, rfl, _, _, hl, O4, d4, rfl⟩; have HL := Lib.hid hl; clear hl; rw [loadsL_len]))
        all_goals (go_wp2_with fail; go_meet)
        all_goals
          refine ⟨au, cu, al, cl, rfl, rfl, ?_, ?_, by repeat (first | with_reducible exact Gr.refl _ | with_reducible refine Gr.alloc _ ?_ | with_reducible refine Gr.xt _ _ ?_)⟩
          · have := HU.out.giB ((Gr.refl _).xt O4 d4)
            simpa only [xt_xt, Array.append_assoc] using this
          · have := HL.out
            simpa only [xt_xt, Array.append_assoc] using this
      obtain ⟨au, cu, al, cl, rfl, rfl, hu, hl, hg⟩ := hcut
      have HU := Lib.hid hu
      have HL := Lib.hid hl
      obtain ⟨w0, rfl⟩ : ∃ w0 : World, w0 = wc := ⟨_, rfl⟩
      have e0 : w0.cell? ⟨w.heap.size, 0, none⟩ = some (.slice ao l.length cap) := cell_gr hg (by simp [go_sem])
      have e1 : w0.cell? ⟨w.heap.size + 1, 0, none⟩ = some (.slice a1 r.on.length c1) := cell_gr hg (by simp [go_sem])
      have e2 : w0.cell? ⟨w.heap.size + 1, 1, none⟩ = some (.slice a2 r.level.length c2) := cell_gr hg (by simp [go_sem])
      have E0 := Lib.hid e0
      have E1 := Lib.hid e1
      have E2 := Lib.hid e2
      have eh := has_of_cell e0
      have eh1 := has_of_cell e1
      have HW0 : Hid (Gr w w0) := Lib.hid ((((Gr.refl w).alloc _).alloc _).trans hg)
      clear hu hl hg
      go_wp2_with fail
      clear e0 e1 e2 eh eh1
      go_loopw [30] (fun i wr => ∃ k : Nat, k ≤ l.length ∧ i = .int .i64 k ∧ (∀ j, j < k → MeetAt l d r j) ∧ Gr w0 wr) (fun i _ => l.length - (intOf i).toNat)
      case atStart => exact ⟨0, Nat.zero_le _, rfl, fun j q => absurd q (by omega), Gr.refl _⟩
      case round =>
        obtain ⟨k, hk, rfl, hall, hg⟩ := hrel
        have HA := Lib.hid hall
        have G0 := Lib.hid hg
        have e0 := cell_gr hg E0.out
        have e1 := cell_gr hg E1.out
        have e2 := cell_gr hg E2.out
        have HG : Hid (Gr w wr) := Lib.hid (HW0.out.trans hg)
        have eh := has_of_cell e0
        have eh1 := has_of_cell e1
        clear hall hg
        by_cases hlt : k < l.length
        · have g0 : (0 : Int) ≤ k := by omega
          have g1 : (k : Int) < l.length := by omega
          have g2 : (k : Int) < r.on.length := by have := hon.out; omega
          have g2' : (k : Int) < r.level.length := by have := hlv.out; omega
          have hko : k < r.on.length := by omega
          obtain ⟨b, o, rfl, ⟨c0, c0w, c0x⟩, ⟨av, cv, q1, q1l, q1f, cV⟩, ⟨c2, c2w, c2x⟩, ⟨c3, _⟩, c4⟩ := sups_gr H.out HG.out k hlt
          unfold RB at c4
          obtain ⟨bu, ou, rfl, u1⟩ := (HU.out.giB G0.out).one k (by rw [usedL_len]; exact hlt)
          rw [usedL_at] at u1
          unfold RB at u1
          obtain ⟨bl, ol, rfl, ⟨v1, v1w, v1x⟩⟩ := (HL.out.giI G0.out).one k (by rw [loadsL_len]; exact hlt)
          rw [loadsL_at] at v1 v1w v1x
          obtain ⟨bo, oo, rfl, r1⟩ := (H1.out.giB HG.out).one k hko
          unfold RB at r1
          have r1' : r.on[k] = onAt r k := (onAt_eq hko).symm
          rw [r1'] at r1
          clear r1'
          have x1 := has_of_cell c0
          have x2 := has_of_cell u1
          have x3 := has_of_cell v1
          have x4 := has_of_cell r1
          obtain ⟨uu, huu⟩ : ∃ uu : Bool, decide (Used l d k) = uu := ⟨_, rfl⟩
          obtain ⟨oo', hoo⟩ : ∃ oo' : Bool, onAt r k = oo' := ⟨_, rfl⟩
          rw [huu] at u1
          rw [hoo] at r1
          have UU := Lib.hid huu
          have OO := Lib.hid hoo
          clear huu hoo
          have HH : HeadOk l[k] k := by obtain ⟨_, q⟩ := OK.out k hlt; exact q.1
          have p1 := HH.2.1
          have dr0 := HH.2.2.2.1
          have dr1 := HH.2.2.2.2.1
          clear HH
          cases oo' with
          | false =>
            cases uu with
            | true =>
              go_wp2_with fail
              go_ret
              exact ⟨ret_bool (dec_false (not_meet_at hlt (fun hm => by have := hm.1 (by simpa using UU.out); rw [OO.out] at this; cases this))), by repeat (first | with_reducible exact HG.out | with_reducible refine Gr.alloc _ ?_ | with_reducible refine Gr.xt _ _ ?_)⟩
            | false =>
              go_wp2_with fail
              go_roundw
              case rel =>
                refine ⟨k + 1, by omega, by go_num, fun j hj => ?_, by repeat (first | with_reducible exact G0.out | with_reducible refine Gr.alloc _ ?_ | with_reducible refine Gr.xt _ _ ?_)⟩
                by_cases e : j = k
                · subst e; exact ⟨fun hu => absurd hu (by simpa using UU.out), fun ho => by rw [OO.out] at ho; cases ho⟩
                · exact HA.out j (by omega)
              case measure => simp [intOf]; omega
          | true =>
            have OA := Lib.hid (OO.out)
            clear uu u1 UU
            by_cases hp : 0 ≤ l[k].parent
            · obtain ⟨p, hpp⟩ := Int.eq_ofNat_of_zero_le hp
              have PP := Lib.hid hpp
              rw [hpp] at c0 p1
              clear hpp hp c0w c0x
              have hpl : p < l.length := by omega
              have hpo : p < r.on.length := by omega
              have g3 : (p : Int) < r.on.length := by omega
              have g4 : (p : Int) < l.length := by omega
              have g5 : (p : Int) < r.level.length := by omega
              have g6 : (0 : Int) ≤ p := by omega
              obtain ⟨bo2, oo2, e, r2⟩ := (H1.out.giB HG.out).one p hpo
              cases e
              unfold RB at r2
              have r2' : r.on[p] = onAt r p := (onAt_eq hpo).symm
              rw [r2'] at r2
              clear r2'
              have vk := vlt_wide HR.out k hlt
              have vp := vlt_wide HR.out p hpl
              obtain ⟨b_, o_, b2, o2, b3, o3, cl3, n3, e, rfl, k1, k2, k3, k4⟩ := volt_cells (sups_gr H.out HG.out) (H2.out.giI HG.out) HR.out k hlt
              cases e
              obtain ⟨b_, o_, b2_, o2_, b5, o5, cl5, n5, e, e', m1, m2, m3, m4⟩ := volt_cells (sups_gr H.out HG.out) (H2.out.giI HG.out) HR.out p hpl
              cases e
              cases e'
              have y1 := has_of_cell k2
              have y2 := has_of_cell k4
              have y3 := has_of_cell m4
              have k3' : (n3 : Int) < l[k].levels.length := by omega
              have m3' : (n5 : Int) < l[p].levels.length := by omega
              have k0' : (0 : Int) ≤ n3 := by omega
              have m0' : (0 : Int) ≤ n5 := by omega
              have qav : Value.slice av l[k].levels.length cv = .slice (some ⟨b3, o3, none⟩) l[k].levels.length cl3 := by rw [q1] at k1; simpa using k1
              cases qav
              clear k1
              obtain ⟨op, hop⟩ : ∃ op : Bool, onAt r p = op := ⟨_, rfl⟩
              rw [hop] at r2
              have OP := Lib.hid hop
              clear hop
              cases op with
              | false =>
                go_wp2_with fail
                refine wp_region_grows (by kernel_rfl) (by kernel_rfl) ?_
                repeat (go_big_quiet_step (fail))
                refine wpQuiet_nil ?_
                rintro _ ⟨⟨O5, d5⟩, rfl⟩
                go_wp2_with fail
                go_ret
                exact ⟨ret_bool (dec_false (not_meet_at hlt (fun hm => by have := ((hm.2 OA.out hlt).2 (by rw [PP.out]; omega)).1; rw [PP.out, Int.toNat_natCast, OP.out] at this; cases this))), by repeat (first | with_reducible exact HG.out | with_reducible refine Gr.alloc _ ?_ | with_reducible refine Gr.xt _ _ ?_)⟩
              | true =>
                by_cases hv : vlt l r k + l[k].dropout ≤ vlt l r p
                · have HV := Lib.hid hv
                  have hvb : decide (vlt l r p < vlt l r k + l[k].dropout) = false := by simp; omega
                  clear hv
                  by_cases hcap : ld l d k ≤ l[k].capacity
                  · have HC := Lib.hid hcap
                    have hcb : decide (l[k].capacity < ld l d k) = false := by simp; exact hcap
                    clear hcap
                    go_wp2_with fail
                    refine wp_region_grows (by kernel_rfl) (by kernel_rfl) ?_
                    repeat (go_big_quiet_step (fail))
                    refine wpQuiet_nil ?_
                    rintro _ ⟨⟨O5, d5⟩, rfl⟩
                    go_wp2_with fail
                    go_roundw
                    case rel =>
                      refine ⟨k + 1, by omega, by go_num, fun j hj => ?_, by repeat (first | with_reducible exact G0.out | with_reducible refine Gr.alloc _ ?_ | with_reducible refine Gr.xt _ _ ?_)⟩
                      by_cases e : j = k
                      · subst e; exact ⟨fun _ => OA.out, fun _ _ => ⟨HC.out, fun _ => by rw [PP.out, Int.toNat_natCast]; exact ⟨OP.out, HV.out⟩⟩⟩
                      · exact HA.out j (by omega)
                    case measure => simp [intOf]; omega
                  · have HC := Lib.hid hcap
                    have hcb : decide (l[k].capacity < ld l d k) = true := by simp; omega
                    clear hcap
                    go_wp2_with fail
                    refine wp_region_grows (by kernel_rfl) (by kernel_rfl) ?_
                    repeat (go_big_quiet_step (fail))
                    refine wpQuiet_nil ?_
                    rintro _ ⟨⟨O5, d5⟩, rfl⟩
                    go_wp2_with fail
                    go_ret
                    exact ⟨ret_bool (dec_false (not_meet_at hlt (fun hm => by have := (hm.2 OA.out hlt).1; have := HC.out; omega))), by repeat (first | with_reducible exact HG.out | with_reducible refine Gr.alloc _ ?_ | with_reducible refine Gr.xt _ _ ?_)⟩
                · have HV := Lib.hid hv
                  have hvb : decide (vlt l r p < vlt l r k + l[k].dropout) = true := by simp; omega
                  clear hv
                  go_wp2_with fail
                  refine wp_region_grows (by kernel_rfl) (by kernel_rfl) ?_
                  repeat (go_big_quiet_step (fail))
                  refine wpQuiet_nil ?_
                  rintro _ ⟨⟨O5, d5⟩, rfl⟩
                  go_wp2_with fail
                  go_ret
                  exact ⟨ret_bool (dec_false (not_meet_at hlt (fun hm => by have := ((hm.2 OA.out hlt).2 (by rw [PP.out]; omega)).2; rw [PP.out, Int.toNat_natCast] at this; have := HV.out; omega))), by repeat (first | with_reducible exact HG.out | with_reducible refine Gr.alloc _ ?_ | with_reducible refine Gr.xt _ _ ?_)⟩
            · have HP := Lib.hid hp
              have hpb : decide (0 ≤ l[k].parent) = false := by simp; omega
              clear hp
              by_cases hcap : ld l d k ≤ l[k].capacity
              · have HC := Lib.hid hcap
                have hcb : decide (l[k].capacity < ld l d k) = false := by simp; exact hcap
                clear hcap
                go_wp2_with fail
                refine wp_region_grows (by kernel_rfl) (by kernel_rfl) ?_
                repeat (go_big_quiet_step (fail))
                refine wpQuiet_nil ?_
                rintro _ ⟨⟨O5, d5⟩, rfl⟩
                go_wp2_with fail
                go_roundw
                case rel =>
                  refine ⟨k + 1, by omega, by go_num, fun j hj => ?_, by repeat (first | with_reducible exact G0.out | with_reducible refine Gr.alloc _ ?_ | with_reducible refine Gr.xt _ _ ?_)⟩
                  by_cases e : j = k
                  · subst e; exact ⟨fun _ => OA.out, fun _ _ => ⟨HC.out, fun q => by have := HP.out; omega⟩⟩
                  · exact HA.out j (by omega)
                case measure => simp [intOf]; omega
              · have HC := Lib.hid hcap
                have hcb : decide (l[k].capacity < ld l d k) = true := by simp; omega
                clear hcap
                go_wp2_with fail
                refine wp_region_grows (by kernel_rfl) (by kernel_rfl) ?_
                repeat (go_big_quiet_step (fail))
                refine wpQuiet_nil ?_
                rintro _ ⟨⟨O5, d5⟩, rfl⟩
                go_wp2_with fail
                go_ret
                exact ⟨ret_bool (dec_false (not_meet_at hlt (fun hm => by have := (hm.2 OA.out hlt).1; have := HC.out; omega))), by repeat (first | with_reducible exact HG.out | with_reducible refine Gr.alloc _ ?_ | with_reducible refine Gr.xt _ _ ?_)⟩
        · have hAll : ∀ j, j < l.length → MeetAt l d r j := fun j hj => HA.out j (by omega)
          have HAll := Lib.hid hAll
          clear hAll HA
          by_cases ha : AnyOf (fun x => ¬ DrawAt l r x) d
          · have HA := Lib.hid ha
            go_wp2_with fail
            refine (containsMet_any w.heap.size (w.heap.size + 1) d a3 c3 _ _ (drws_gr H3.out HG.out) f3 (meets1_any l r d w.heap.size (w.heap.size + 1) ao a1 a2 cap c1 c2 _ e0 e2 (sups_gr H.out HG.out) (H2.out.giI HG.out) HR.out HD.out)).mono ?_
            rw [decide_eq_true ha]
            clear ha
            rintro e w' ⟨rfl, O6, d6, rfl⟩
            go_wp2_with fail
            go_ret
            refine ⟨ret_bool (dec_false ?_), by repeat (first | with_reducible exact HG.out | with_reducible refine Gr.alloc _ ?_ | with_reducible refine Gr.xt _ _ ?_)⟩
            obtain ⟨m, hm, q⟩ := HA.out
            exact not_draw_at hm q
          · have HA := Lib.hid ha
            go_wp2_with fail
            refine (containsMet_any w.heap.size (w.heap.size + 1) d a3 c3 _ _ (drws_gr H3.out HG.out) f3 (meets1_any l r d w.heap.size (w.heap.size + 1) ao a1 a2 cap c1 c2 _ e0 e2 (sups_gr H.out HG.out) (H2.out.giI HG.out) HR.out HD.out)).mono ?_
            rw [decide_eq_false ha]
            clear ha
            rintro e w' ⟨rfl, O6, d6, rfl⟩
            go_wp2_with fail
            go_ret
            exact ⟨ret_bool (dec_true ⟨HAll.out, fun j hj => Classical.byContradiction fun q => HA.out ⟨j, hj, q⟩⟩), by repeat (first | with_reducible exact HG.out | with_reducible refine Gr.alloc _ ?_ | with_reducible refine Gr.xt _ _ ?_)⟩
    · have hdb : decide (DrwsOk l d) = false := by simp [hd]
      have e : decide (MeetsAll l r d) = false := by simp [MeetsAll, hd]
      rw [e]
      clear hd e
      go_enter Try.func39, Try.ntmps39
      go_wp2_with fail
      refine (rails_any l r ao a1 a2 cap c1 c2 _ (sups_gr H.out (by repeat (first | with_reducible exact Gr.refl _ | with_reducible refine Gr.alloc _ ?_ | with_reducible refine Gr.xt _ _ ?_))) HF.out (H1.out.giB (by repeat (first | with_reducible exact Gr.refl _ | with_reducible refine Gr.alloc _ ?_ | with_reducible refine Gr.xt _ _ ?_))) (H2.out.giI (by repeat (first | with_reducible exact Gr.refl _ | with_reducible refine Gr.alloc _ ?_ | with_reducible refine Gr.xt _ _ ?_))) f1 f2).mono ?_
      rw [hrb]
      rintro e w' ⟨rfl, O1, d1, rfl⟩
      go_wp2_with fail
      refine (draws_any l d ao a3 cap c3 _ (sups_gr H.out (by repeat (first | with_reducible exact Gr.refl _ | with_reducible refine Gr.alloc _ ?_ | with_reducible refine Gr.xt _ _ ?_))) HF.out (drws_gr H3.out (by repeat (first | with_reducible exact Gr.refl _ | with_reducible refine Gr.alloc _ ?_ | with_reducible refine Gr.xt _ _ ?_))) f3).mono ?_
      rw [hdb]
      rintro e w' ⟨rfl, O2, d2, rfl⟩
      go_wp2_with fail
      go_ret
      exact ⟨rfl, by repeat (first | with_reducible exact Gr.refl _ | with_reducible refine Gr.alloc _ ?_ | with_reducible refine Gr.xt _ _ ?_)⟩
  · have hrb : decide (RlsOk l r) = false := by simp [hr]
    have e : decide (MeetsAll l r d) = false := by simp [MeetsAll, hr]
    rw [e]
    clear hr e
    go_enter Try.func39, Try.ntmps39
    go_wp2_with fail
    refine (rails_any l r ao a1 a2 cap c1 c2 _ (sups_gr H.out (by repeat (first | with_reducible exact Gr.refl _ | with_reducible refine Gr.alloc _ ?_ | with_reducible refine Gr.xt _ _ ?_))) HF.out (H1.out.giB (by repeat (first | with_reducible exact Gr.refl _ | with_reducible refine Gr.alloc _ ?_ | with_reducible refine Gr.xt _ _ ?_))) (H2.out.giI (by repeat (first | with_reducible exact Gr.refl _ | with_reducible refine Gr.alloc _ ?_ | with_reducible refine Gr.xt _ _ ?_))) f1 f2).mono ?_
    rw [hrb]
    rintro e w' ⟨rfl, O1, d1, rfl⟩
    go_wp2_with fail
    go_ret
    exact ⟨rfl, by repeat (first | with_reducible exact Gr.refl _ | with_reducible refine Gr.alloc _ ?_ | with_reducible refine Gr.xt _ _ ?_)⟩
end Go.Proofs.Ytoenkcojfogmmaa
