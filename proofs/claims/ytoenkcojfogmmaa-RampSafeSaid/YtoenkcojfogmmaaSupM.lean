/- Whether rails meet draws: in plain terms, and the contracts of the reference's functions Volts, meets, Meets, begin. -/
import Derived.Test.YtoenkcojfogmmaaSupV
import Derived.Deep.DeepCutAuto
set_option linter.unusedVariables false
set_option linter.unusedSimpArgs false
namespace Go.Proofs.Ytoenkcojfogmmaa
open Go.RowKit
open Classical

/-- The millivolts of supply k. -/
def vlt (l : List Sup) (r : Rls) (k : Nat) : Int := if h : k < l.length then l[k].levels.getD (r.level.getD k 0).toNat 0 else 0
def onAt (r : Rls) (k : Nat) : Bool := r.on.getD k false
def MeetAt (l : List Sup) (d : List Drw) (r : Rls) (i : Nat) : Prop :=
  (Used l d i → onAt r i = true) ∧ (onAt r i = true → ∀ h : i < l.length, ld l d i ≤ l[i].capacity ∧ (0 ≤ l[i].parent → onAt r l[i].parent.toNat = true ∧ vlt l r i + l[i].dropout ≤ vlt l r l[i].parent.toNat))
def DrawAt (l : List Sup) (r : Rls) (x : Drw) : Prop := x.low ≤ vlt l r x.supply.toNat ∧ vlt l r x.supply.toNat ≤ x.high
def MeetsP (l : List Sup) (r : Rls) (d : List Drw) : Prop := (∀ i, i < l.length → MeetAt l d r i) ∧ ∀ k (h : k < d.length), DrawAt l r d[k]
def MeetsAll (l : List Sup) (r : Rls) (d : List Drw) : Prop := DrwsOk l d ∧ RlsOk l r ∧ MeetsP l r d
theorem onAt_eq {r : Rls} {k : Nat} (h : k < r.on.length) : onAt r k = r.on[k] := by simp [onAt, h]
theorem rls_lv {l : List Sup} {r : Rls} (h : RlsOk l r) (k : Nat) (hk : k < l.length) : ∃ h' : k < r.level.length, ∃ n : Nat, r.level[k] = (n : Int) ∧ ∃ hn : n < l[k].levels.length, vlt l r k = l[k].levels[n] := by
  have h1 : k < r.level.length := by have := h.2.2.1; omega
  have h2 := h.2.2.2 k hk h1
  obtain ⟨n, hn⟩ := Int.eq_ofNat_of_zero_le h2.1
  refine ⟨h1, n, hn, by omega, ?_⟩
  simp only [vlt, hk, dif_pos, List.getD_eq_getElem?_getD, List.getElem?_eq_getElem h1, Option.getD_some, hn, Int.toNat_natCast]
  rw [List.getElem?_eq_getElem (by omega)]; rfl

theorem vlt_wide {l : List Sup} {r : Rls} (h : RlsOk l r) (k : Nat) (hk : k < l.length) : 1 ≤ vlt l r k ∧ vlt l r k ≤ 5000 := by
  obtain ⟨_, n, _, hn, hv⟩ := rls_lv h k hk
  obtain ⟨_, q⟩ := (chk_zero h.1).2 k hk
  obtain ⟨_, q1, q2, _⟩ := q.2 n hn
  rw [hv]; omega

set_option maxRecDepth 100000 in
set_option maxHeartbeats 1000000 in
theorem refVolts_any (l : List Sup) (r : Rls) (ao a1 a2 : Option Addr) (cap c1 c2 : Nat) (k : Nat) (w : World) (h : SlOf 5 RSup w ao l) (hf : l.length ≤ 16) (h2 : SlOf 1 RI w a2 r.level) (hr : RlsOk l r) (hk : k < l.length) :
    Calls Try.prog 60 #[.slice ao l.length cap, .agg #[.slice a1 r.on.length c1, .slice a2 r.level.length c2], .int .i64 k] w (Grows w (.int .i64 (vlt l r k))) := by
  obtain ⟨k1, n, hn, hn1, hv⟩ := rls_lv hr k hk
  have HV := Lib.hid hv
  have hll := hr.2.2.1
  obtain ⟨b, o, rfl, ⟨c0, _⟩, ⟨al, cl, q1, q1l, q1f, cL⟩, _⟩ := h k hk
  obtain ⟨b2, o2, rfl, ⟨e1, _⟩⟩ := h2.one k k1
  obtain ⟨b3, o3, rfl, ⟨e2, _⟩⟩ := cL.one n hn1
  rw [hn] at e1
  clear hv hn c0 hr
  have g0 : (0 : Int) ≤ k := by omega
  have g1 : (k : Int) < l.length := by omega
  have g2 : (k : Int) < r.level.length := by omega
  have g3 : (0 : Int) ≤ n := by omega
  have g4 : (n : Int) < l[k].levels.length := by omega
  have i1 := has_of_cell q1
  have i2 := has_of_cell e1
  have i3 := has_of_cell e2
  go_enter Try.func60, Try.ntmps60
  go_wp2_with fail
  go_quiet (fail)
  go_wp2_with fail
  go_ret
  exact ⟨ret_int HV.out.symm, by repeat (first | with_reducible exact Gr.refl _ | with_reducible refine Gr.alloc _ ?_ | with_reducible refine Gr.drewN _ ?_)⟩

theorem not_meet_at {l : List Sup} {r : Rls} {d : List Drw} {i : Nat} (hi : i < l.length) (h : ¬ MeetAt l d r i) : ¬ MeetsP l r d := fun hm => h (hm.1 i hi)
theorem not_draw_at {l : List Sup} {r : Rls} {d : List Drw} {k : Nat} (hk : k < d.length) (h : ¬ DrawAt l r d[k]) : ¬ MeetsP l r d := fun hm => h (hm.2 k hk)

set_option maxRecDepth 100000 in
set_option maxHeartbeats 4000000 in
theorem refMeets1_any (l : List Sup) (r : Rls) (d : List Drw) (ao a1 a2 a3 : Option Addr) (cap c1 c2 c3 : Nat) (w : World) (h : SlOf 5 RSup w ao l) (h1 : SlOf 1 RB w a1 r.on) (h2 : SlOf 1 RI w a2 r.level) (h3 : SlOf 4 RDrw w a3 d) (hr : RlsOk l r) (hd : DrwsOk l d) :
    Calls Try.prog 47 #[.slice ao l.length cap, .agg #[.slice a1 r.on.length c1, .slice a2 r.level.length c2], .slice a3 d.length c3] w (Grows w (.bool (decide (MeetsP l r d)))) := by
  have H := Lib.hid h
  have H1 := Lib.hid h1
  have H2 := Lib.hid h2
  have H3 := Lib.hid h3
  have HR := Lib.hid hr
  have HD := Lib.hid hd
  have hz := chk_zero hd.1
  have hf : l.length ≤ 16 := by
    have := hz.1
    simp only [Big, not_or] at this
    omega
  have OK := Lib.hid hz.2
  have f3 := hd.2.1
  have hon := Lib.hid hr.2.1
  have hlv := Lib.hid hr.2.2.1
  clear h h1 h2 h3 hr hd hz
  go_enter Try.func47, Try.ntmps47
  go_wp2_with fail
  refine (refUsed_any l d ao a3 cap c3 _ (sups_gr H.out ((Gr.refl _).alloc _)) hf OK.out (drws_gr H3.out ((Gr.refl _).alloc _)) f3).mono ?_
  rintro e w' ⟨au, cu, rfl, _, _, hu, O1, d1, rfl⟩
  have HU := Lib.hid hu
  clear hu
  rw [usedL_len]
  go_wp2_with fail
  refine (refLoads_any l d ao a3 cap c3 _ (sups_gr H.out (((Gr.refl _).alloc _).xt _ _)) hf OK.out (drws_gr H3.out (((Gr.refl _).alloc _).xt _ _)) f3 (fun k hk => by have := HD.out.2.2 k hk; unfold DrwOk at this; omega)).mono ?_
  rintro e w' ⟨al, cl, rfl, _, _, hl, O2, d2, rfl⟩
  have HL := Lib.hid hl
  clear hl
  rw [loadsL_len]
  go_wp2_with fail
  obtain ⟨w0, hw0⟩ : ∃ w0 : World, Hid (w0 = xt (w.alloc (.cells #[.slice a1 r.on.length c1, .slice a2 r.level.length c2] 31)) (O1 ++ O2) d2) := ⟨_, Lib.hid rfl⟩
  have HU0 : Hid (SlOf 1 RB w0 au (usedL l d)) := Lib.hid (by rw [hw0.out]; have := HU.out.giB (w' := xt (xt (w.alloc (.cells #[.slice a1 r.on.length c1, .slice a2 r.level.length c2] 31)) O1 d1) O2 d2) ((Gr.refl _).xt _ _); rwa [xt_xt] at this)
  have HL0 : Hid (SlOf 1 RI w0 al (loadsL l d)) := Lib.hid (by rw [hw0.out]; have := HL.out; rwa [xt_xt] at this)
  clear HU HL
  go_loopw [21] (fun i wr => ∃ k : Nat, k ≤ l.length ∧ i = .int .i64 k ∧ (∀ j, j < k → MeetAt l d r j) ∧ Gr w0 wr) (fun i _ => l.length - (intOf i).toNat)
  case atStart => exact ⟨0, Nat.zero_le _, rfl, fun j q => absurd q (by omega), by rw [hw0.out]; exact Gr.refl _⟩
  case round =>
    obtain ⟨k, hk, rfl, hall, hg⟩ := hrel
    have HA := Lib.hid hall
    have G0 := Lib.hid hg
    have e0 : wr.cell? ⟨w.heap.size, 0, none⟩ = some (.slice a1 r.on.length c1) := by rw [hw0.out] at hg; exact cell_gr hg (by simp [go_sem])
    have e1 : wr.cell? ⟨w.heap.size, 1, none⟩ = some (.slice a2 r.level.length c2) := by rw [hw0.out] at hg; exact cell_gr hg (by simp [go_sem])
    have HG : Hid (Gr w wr) := Lib.hid ((((Gr.refl w).alloc _).xt _ _).trans (hw0.out ▸ hg))
    have eh := has_of_cell e0
    clear hall hg
    by_cases hlt : k < l.length
    · have g0 : (0 : Int) ≤ k := by omega
      have g1 : (k : Int) < l.length := by omega
      have g2 : (k : Int) < r.on.length := by have := hon.out; omega
      have hko : k < r.on.length := by omega
      obtain ⟨b, o, rfl, ⟨c0, c0w, c0x⟩, ⟨av, cv, q1, q1l, q1f, cV⟩, ⟨c2, c2w, c2x⟩, ⟨c3, _⟩, c4⟩ := sups_gr H.out HG.out k hlt
      unfold RB at c4
      obtain ⟨bu, ou, rfl, u1⟩ := (HU0.out.giB G0.out).one k (by rw [usedL_len]; exact hlt)
      rw [usedL_at] at u1
      unfold RB at u1
      obtain ⟨bl, ol, rfl, ⟨v1, v1w, v1x⟩⟩ := (HL0.out.giI G0.out).one k (by rw [loadsL_len]; exact hlt)
      rw [loadsL_at] at v1 v1w v1x
      obtain ⟨bo, oo, rfl, r1⟩ := (H1.out.giB HG.out).one k hko
      unfold RB at r1
      have r1' : r.on[k] = onAt r k := (onAt_eq hko).symm
      rw [r1'] at r1
      clear r1'
      have x1 := has_of_cell c0
      have x2 := has_of_cell u1
      have x3 := has_of_cell v1
      have x4 := has_of_cell r1
      obtain ⟨uu, huu⟩ : ∃ uu : Bool, decide (Used l d k) = uu := ⟨_, rfl⟩
      obtain ⟨oo', hoo⟩ : ∃ oo' : Bool, onAt r k = oo' := ⟨_, rfl⟩
      rw [huu] at u1
      rw [hoo] at r1
      have UU := Lib.hid huu
      have OO := Lib.hid hoo
      clear huu hoo

      have HH : HeadOk l[k] k := by obtain ⟨_, q⟩ := OK.out k hlt; exact q.1
      have p1 := HH.2.1
      have dr0 := HH.2.2.2.1
      have dr1 := HH.2.2.2.2.1
      clear HH
      cases oo' with
      | false =>
        cases uu with
        | true =>
          go_wp2_with fail
          go_ret
          exact ⟨ret_bool (dec_false (not_meet_at hlt (fun hm => by have := hm.1 (by simpa using UU.out); rw [OO.out] at this; cases this))), by repeat (first | with_reducible exact HG.out | with_reducible refine Gr.alloc _ ?_ | with_reducible refine Gr.xt _ _ ?_)⟩
        | false =>
          go_wp2_with fail
          go_roundw
          case rel =>
            refine ⟨k + 1, by omega, by go_num, fun j hj => ?_, by repeat (first | with_reducible exact G0.out | with_reducible refine Gr.alloc _ ?_ | with_reducible refine Gr.xt _ _ ?_)⟩
            by_cases e : j = k
            · subst e; exact ⟨fun hu => absurd hu (by simpa using UU.out), fun ho => by rw [OO.out] at ho; cases ho⟩
            · exact HA.out j (by omega)
          case measure => simp [intOf]; omega
      | true =>
        have OA := Lib.hid (OO.out)
        go_upto_region 5 with fail
        go_cut [37] (fun s37 wx => s37 = .bool false ∧ wx = wr.alloc (.cells #[.int .i64 l[k].parent, .slice av l[k].levels.length cv, .int .i64 l[k].dropout, .int .i64 l[k].capacity, .bool l[k].always] 70))
        case first =>
          cases uu with
          | true =>
            go_wp2_with fail
            go_meet
            exact ⟨rfl, rfl⟩
          | false =>
            go_wp2_with fail
            go_meet
            exact ⟨rfl, rfl⟩
        obtain ⟨rfl, rfl⟩ := hcut
        by_cases hcap : ld l d k ≤ l[k].capacity
        · have HC := Lib.hid hcap
          have hcb : decide (l[k].capacity < ld l d k) = false := by simp; exact hcap
          clear hcap
          by_cases hp : 0 ≤ l[k].parent
          · obtain ⟨p, hpp⟩ := Int.eq_ofNat_of_zero_le hp
            have PP := Lib.hid hpp
            rw [hpp] at c0 p1
            rw [hpp]
            clear hpp hp c0w c0x
            have hpl : p < l.length := by omega
            have hpo : p < r.on.length := by omega
            have g3 : (p : Int) < r.on.length := by omega
            obtain ⟨bo2, oo2, e, r2⟩ := (H1.out.giB HG.out).one p hpo
            cases e
            unfold RB at r2
            have r2' : r.on[p] = onAt r p := (onAt_eq hpo).symm
            rw [r2'] at r2
            clear r2'
            have vk := vlt_wide HR.out k hlt
            have vp := vlt_wide HR.out p hpl
            obtain ⟨op, hop⟩ : ∃ op : Bool, onAt r p = op := ⟨_, rfl⟩
            rw [hop] at r2
            have OP := Lib.hid hop
            clear hop
            cases op with
            | false =>
              go_wp2_with fail
              refine wp_region_grows (by kernel_rfl) (by kernel_rfl) ?_
              repeat (go_big_quiet_step (fail))
              refine wpQuiet_nil ?_
              rintro _ ⟨⟨O5, d5⟩, rfl⟩
              go_wp2_with fail
              go_ret
              exact ⟨ret_bool (dec_false (not_meet_at hlt (fun hm => by have := ((hm.2 OA.out hlt).2 (by rw [PP.out]; omega)).1; rw [PP.out, Int.toNat_natCast, OP.out] at this; cases this))), by repeat (first | with_reducible exact HG.out | with_reducible refine Gr.alloc _ ?_ | with_reducible refine Gr.xt _ _ ?_)⟩
            | true =>
              by_cases hv : vlt l r k + l[k].dropout ≤ vlt l r p
              · have HV := Lib.hid hv
                have hvb : decide (vlt l r p < vlt l r k + l[k].dropout) = false := by simp; omega
                clear hv
                go_wp2_with fail
                refine wp_region_grows (by kernel_rfl) (by kernel_rfl) ?_
                repeat (go_big_quiet_step ((go_at_call 60; exact calls_grows (refVolts_any l r _ _ _ _ _ _ _ _ (sups_gr H.out (by repeat (first | with_reducible exact HG.out | with_reducible refine Gr.alloc _ ?_ | with_reducible refine Gr.xt _ _ ?_))) hf (H2.out.giI (by repeat (first | with_reducible exact HG.out | with_reducible refine Gr.alloc _ ?_ | with_reducible refine Gr.xt _ _ ?_))) HR.out (by omega)))))
                refine wpQuiet_nil ?_
                rintro _ ⟨⟨O5, d5⟩, rfl⟩
                go_wp2_with fail
                go_roundw
                case rel =>
                  refine ⟨k + 1, by omega, by go_num, fun j hj => ?_, by repeat (first | with_reducible exact G0.out | with_reducible refine Gr.alloc _ ?_ | with_reducible refine Gr.xt _ _ ?_)⟩
                  by_cases e : j = k
                  · subst e; exact ⟨fun _ => OA.out, fun _ _ => ⟨HC.out, fun _ => by rw [PP.out, Int.toNat_natCast]; exact ⟨OP.out, HV.out⟩⟩⟩
                  · exact HA.out j (by omega)
                case measure => simp [intOf]; omega
              · have HV := Lib.hid hv
                have hvb : decide (vlt l r p < vlt l r k + l[k].dropout) = true := by simp; omega
                clear hv
                go_wp2_with fail
                refine wp_region_grows (by kernel_rfl) (by kernel_rfl) ?_
                repeat (go_big_quiet_step ((go_at_call 60; exact calls_grows (refVolts_any l r _ _ _ _ _ _ _ _ (sups_gr H.out (by repeat (first | with_reducible exact HG.out | with_reducible refine Gr.alloc _ ?_ | with_reducible refine Gr.xt _ _ ?_))) hf (H2.out.giI (by repeat (first | with_reducible exact HG.out | with_reducible refine Gr.alloc _ ?_ | with_reducible refine Gr.xt _ _ ?_))) HR.out (by omega)))))
                refine wpQuiet_nil ?_
                rintro _ ⟨⟨O5, d5⟩, rfl⟩
                go_wp2_with fail
                go_ret
                exact ⟨ret_bool (dec_false (not_meet_at hlt (fun hm => by have := ((hm.2 OA.out hlt).2 (by rw [PP.out]; omega)).2; rw [PP.out, Int.toNat_natCast] at this; have := HV.out; omega))), by repeat (first | with_reducible exact HG.out | with_reducible refine Gr.alloc _ ?_ | with_reducible refine Gr.xt _ _ ?_)⟩
          · have HP := Lib.hid hp
            have hpb : decide (0 ≤ l[k].parent) = false := by simp; omega
            clear hp
            go_wp2_with fail
            refine wp_region_grows (by kernel_rfl) (by kernel_rfl) ?_
            repeat (go_big_quiet_step (fail))
            refine wpQuiet_nil ?_
            rintro _ ⟨⟨O5, d5⟩, rfl⟩
            go_wp2_with fail
            go_roundw
            case rel =>
              refine ⟨k + 1, by omega, by go_num, fun j hj => ?_, by repeat (first | with_reducible exact G0.out | with_reducible refine Gr.alloc _ ?_ | with_reducible refine Gr.xt _ _ ?_)⟩
              by_cases e : j = k
              · subst e; exact ⟨fun _ => OA.out, fun _ _ => ⟨HC.out, fun q => by have := HP.out; omega⟩⟩
              · exact HA.out j (by omega)
            case measure => simp [intOf]; omega
        · have HC := Lib.hid hcap
          have hcb : decide (l[k].capacity < ld l d k) = true := by simp; omega
          clear hcap
          go_wp2_with fail
          refine wp_region_grows (by kernel_rfl) (by kernel_rfl) ?_
          repeat (go_big_quiet_step (fail))
          refine wpQuiet_nil ?_
          rintro _ ⟨⟨O5, d5⟩, rfl⟩
          go_wp2_with fail
          go_ret
          exact ⟨ret_bool (dec_false (not_meet_at hlt (fun hm => by have := (hm.2 OA.out hlt).1; have := HC.out; omega))), by repeat (first | with_reducible exact HG.out | with_reducible refine Gr.alloc _ ?_ | with_reducible refine Gr.xt _ _ ?_)⟩
    · have hAll : ∀ j, j < l.length → MeetAt l d r j := fun j hj => HA.out j (by omega)
      have HAll := Lib.hid hAll
      clear hAll HA e0 e1 eh HG
      obtain ⟨w1, rfl⟩ : ∃ w1 : World, w1 = wr := ⟨_, rfl⟩
      go_wp2_with fail
      go_loopw [83] (fun i wr => ∃ m : Nat, m ≤ d.length ∧ i = .int .i64 m ∧ (∀ j (hj : j < d.length), j < m → DrawAt l r d[j]) ∧ Gr w0 wr) (fun i _ => d.length - (intOf i).toNat)
      case atStart => exact ⟨0, Nat.zero_le _, rfl, fun j _ q => absurd q (by omega), G0.out⟩
      case round =>
        clear G0
        obtain ⟨m, hm, rfl, hall, hg⟩ := hrel
        have HA := Lib.hid hall
        have G0 := Lib.hid hg
        have e0 : wr.cell? ⟨w.heap.size, 0, none⟩ = some (.slice a1 r.on.length c1) := by rw [hw0.out] at hg; exact cell_gr hg (by simp [go_sem])
        have e1 : wr.cell? ⟨w.heap.size, 1, none⟩ = some (.slice a2 r.level.length c2) := by rw [hw0.out] at hg; exact cell_gr hg (by simp [go_sem])
        have HG : Hid (Gr w wr) := Lib.hid ((((Gr.refl w).alloc _).xt _ _).trans (hw0.out ▸ hg))
        have eh := has_of_cell e0
        clear hall hg
        by_cases hlt : m < d.length
        · obtain ⟨b, o, rfl, ⟨t0, _⟩, ⟨t1, _⟩, ⟨t2, _⟩, ⟨t3, _⟩⟩ := drws_gr H3.out HG.out m hlt
          have hdo := HD.out.2.2 m hlt
          unfold DrwOk at hdo
          obtain ⟨sn, hsn⟩ := Int.eq_ofNat_of_zero_le hdo.1
          have SN := Lib.hid hsn
          rw [hsn] at t0
          have hsl : sn < l.length := by omega
          clear hsn hdo
          have vw := vlt_wide HR.out sn hsl
          go_wp2_with fail
          refine wp_region_grows (by kernel_rfl) (by kernel_rfl) ?_
          repeat (go_big_quiet_step (first | (go_at_call 60; exact calls_grows (refVolts_any l r _ _ _ _ _ _ _ _ (sups_gr H.out (by repeat (first | with_reducible exact HG.out | with_reducible refine Gr.alloc _ ?_ | with_reducible refine Gr.xt _ _ ?_))) hf (H2.out.giI (by repeat (first | with_reducible exact HG.out | with_reducible refine Gr.alloc _ ?_ | with_reducible refine Gr.xt _ _ ?_))) HR.out (by omega))) | (go_at_call 50; exact calls_same (in_any _ _ _ _))))
          refine wpQuiet_nil ?_
          rintro _ ⟨⟨O5, d5⟩, rfl⟩
          go_wp2_with fail
          all_goals (try simp only [Bool.not_eq_eq_eq_not, Bool.not_false, Bool.not_true, decide_eq_true_eq, decide_eq_false_iff_not, Bool.and_eq_true, Bool.and_eq_false_iff] at *)
          all_goals first
            | (go_ret; exact ⟨ret_bool (dec_false (not_draw_at hlt (fun hm => by unfold DrawAt at hm; rw [SN.out, Int.toNat_natCast] at hm; omega))), by repeat (first | with_reducible exact HG.out | with_reducible refine Gr.alloc _ ?_ | with_reducible refine Gr.xt _ _ ?_)⟩)
            | (go_roundw; (case rel => exact ⟨m + 1, by omega, by go_num, fun j q1 hj => by (by_cases e : j = m); (· subst e; unfold DrawAt; rw [SN.out, Int.toNat_natCast]; omega); (· exact HA.out j q1 (by omega)), by repeat (first | with_reducible exact G0.out | with_reducible refine Gr.alloc _ ?_ | with_reducible refine Gr.xt _ _ ?_)⟩); (case measure => simp [intOf]; omega))
        · go_wp2_with fail
          go_ret
          exact ⟨ret_bool (dec_true ⟨HAll.out, fun j hj => HA.out j hj (by omega)⟩), HG.out⟩

set_option maxRecDepth 100000 in
set_option maxHeartbeats 1000000 in
theorem refMeets_any (l : List Sup) (r : Rls) (d : List Drw) (ao a1 a2 a3 : Option Addr) (cap c1 c2 c3 : Nat) (w : World) (h : SlOf 5 RSup w ao l) (hf : Fit l.length) (h1 : SlOf 1 RB w a1 r.on) (h2 : SlOf 1 RI w a2 r.level) (h3 : SlOf 4 RDrw w a3 d) (f1 : Fit r.on.length) (f2 : Fit r.level.length) (f3 : Fit d.length) :
    Calls Try.prog 16 #[.slice ao l.length cap, .agg #[.slice a1 r.on.length c1, .slice a2 r.level.length c2], .slice a3 d.length c3] w (Grows w (.bool (decide (MeetsAll l r d)))) := by
  have H := Lib.hid h
  have H1 := Lib.hid h1
  have H2 := Lib.hid h2
  have H3 := Lib.hid h3
  clear h h1 h2 h3
  by_cases hd : DrwsOk l d
  · by_cases hr : RlsOk l r
    · have hdb : decide (DrwsOk l d) = true := by simp [hd]
      have hrb : decide (RlsOk l r) = true := by simp [hr]
      have e : decide (MeetsAll l r d) = decide (MeetsP l r d) := by simp [MeetsAll, hd, hr]
      have HD := Lib.hid hd
      have HR := Lib.hid hr
      rw [e]
      clear hd hr e
      go_enter Try.func16, Try.ntmps16
      go_wp2_with fail
      refine (refDraws_any l d ao a3 cap c3 _ (sups_gr H.out ((Gr.refl _).alloc _)) hf (drws_gr H3.out ((Gr.refl _).alloc _)) f3).mono ?_
      rw [hdb]
      rintro e w' ⟨rfl, O1, d1, rfl⟩
      go_wp2_with fail
      refine (refRails_any l r ao a1 a2 cap c1 c2 _ (sups_gr H.out (((Gr.refl _).alloc _).xt _ _)) hf (H1.out.giB (((Gr.refl _).alloc _).xt _ _)) (H2.out.giI (((Gr.refl _).alloc _).xt _ _)) f1 f2).mono ?_
      rw [hrb]
      rintro e w' ⟨rfl, O2, d2, rfl⟩
      go_wp2_with fail
      refine (refMeets1_any l r d ao a1 a2 a3 cap c1 c2 c3 _ (sups_gr H.out (((Gr.refl _).alloc _).xt _ _)) (H1.out.giB (((Gr.refl _).alloc _).xt _ _)) (H2.out.giI (((Gr.refl _).alloc _).xt _ _)) (drws_gr H3.out (((Gr.refl _).alloc _).xt _ _)) HR.out HD.out).mono ?_
      rintro e w' ⟨rfl, O3, d3, rfl⟩
      go_wp2_with fail
      go_ret
      exact ⟨rfl, by repeat (first | with_reducible exact Gr.refl _ | with_reducible refine Gr.alloc _ ?_ | with_reducible refine Gr.xt _ _ ?_)⟩
    · have hdb : decide (DrwsOk l d) = true := by simp [hd]
      have hrb : decide (RlsOk l r) = false := by simp [hr]
      have e : decide (MeetsAll l r d) = false := by simp [MeetsAll, hr]
      rw [e]
      clear hd hr e
      go_enter Try.func16, Try.ntmps16
      go_wp2_with fail
      refine (refDraws_any l d ao a3 cap c3 _ (sups_gr H.out ((Gr.refl _).alloc _)) hf (drws_gr H3.out ((Gr.refl _).alloc _)) f3).mono ?_
      rw [hdb]
      rintro e w' ⟨rfl, O1, d1, rfl⟩
      go_wp2_with fail
      refine (refRails_any l r ao a1 a2 cap c1 c2 _ (sups_gr H.out (((Gr.refl _).alloc _).xt _ _)) hf (H1.out.giB (((Gr.refl _).alloc _).xt _ _)) (H2.out.giI (((Gr.refl _).alloc _).xt _ _)) f1 f2).mono ?_
      rw [hrb]
      rintro e w' ⟨rfl, O2, d2, rfl⟩
      go_wp2_with fail
      go_ret
      exact ⟨rfl, by repeat (first | with_reducible exact Gr.refl _ | with_reducible refine Gr.alloc _ ?_ | with_reducible refine Gr.xt _ _ ?_)⟩
  · have hdb : decide (DrwsOk l d) = false := by simp [hd]
    have e : decide (MeetsAll l r d) = false := by simp [MeetsAll, hd]
    rw [e]
    clear hd e
    go_enter Try.func16, Try.ntmps16
    go_wp2_with fail
    refine (refDraws_any l d ao a3 cap c3 _ (sups_gr H.out ((Gr.refl _).alloc _)) hf (drws_gr H3.out ((Gr.refl _).alloc _)) f3).mono ?_
    rw [hdb]
    rintro e w' ⟨rfl, O1, d1, rfl⟩
    go_wp2_with fail
    go_ret
    exact ⟨rfl, by repeat (first | with_reducible exact Gr.refl _ | with_reducible refine Gr.alloc _ ?_ | with_reducible refine Gr.xt _ _ ?_)⟩
end Go.Proofs.Ytoenkcojfogmmaa
