/- Contract of bringupclocks.Limits. Contracts of the reference's Meets and Fits, where clocks, settings and limits are right (printed by wip/tools/mt.py). (several texts in one, by wip/tools/merge.py) -/
import Derived.Test.YtenehghpmnajpaaDoorKt
import Derived.Test.YtenehghpmnajpaaDoorKs
import Derived.Test.YtenehghpmnajpaaDoorKv
/-! Contract of bringupclocks.Limits. -/
set_option linter.unusedVariables false
set_option linter.unusedSimpArgs false
namespace Go.Proofs.YtenehghpmnajpaaDoor
open Go.RowKit
open Classical

def MakesLims (b len n : Nat) (w : World) (l : List Clk) (e : Ending) (w' : World) : Prop :=
  ∃ (ms : List Lmt) (v : Value), e = .returned v ∧ w'.ownsRow w.heap.size 53 3 v ms.length (ms.flatMap encM) ∧ ms.length ≤ n ∧ (∀ j (h : j < ms.length), LmtOk l ms[j]) ∧ Mv b len w w'
/-- What stays while limits are made. -/
structure LI (b len base : Nat) (w : World) (ts : List CT) (g c : Nat) (R : List Rt) (v1 v2 : Value) (wr : World) : Prop where
  own : wr.ownsRow base 28 5 (.slice (some ⟨g, 0, none⟩) ts.length c) ts.length (ts.flatMap encC)
  rows : ChRows base wr ts
  r1 : wr.ownsRow w.heap.size 56 2 v1 ts.length (encP (R.map prR))
  r2 : wr.ownsRow w.heap.size 4 1 v2 ts.length (bools (onL R))
  mv : Mv b len w wr
section
variable {b len base : Nat} {w : World} {ts : List CT} {g c : Nat} {R : List Rt} {v1 v2 : Value} {wr w' : World}
theorem LI.mvd (h : LI b len base w ts g c R v1 v2 wr) (hb : b < base) (hw : b < w.heap.size) (m : Mv b len wr w') : LI b len base w ts g c R v1 v2 w' :=
  ⟨m.owns h.own hb, fun t ht => (h.rows t ht).mv m hb, m.owns h.r1 hw, m.owns h.r2 hw, h.mv.trans hw m⟩
theorem LI.gr (h : LI b len base w ts g c R v1 v2 wr) (hg : Gr wr w') : LI b len base w ts g c R v1 v2 w' :=
  ⟨Gr.owns h.own hg, fun t ht => (h.rows t ht).gr hg, Gr.owns h.r1 hg, Gr.owns h.r2 hg, h.mv.gr hg⟩
theorem LI.app (h : LI b len base w ts g c R v1 v2 wr) {e size n : Nat} {v : Value} {xs : List Value} (o : wr.ownsRow w.heap.size e size v n xs) (e1 : e ≠ 28) (e2 : e ≠ 3) (e3 : e ≠ 56) (e4 : e ≠ 4) (hg : wr.grownBy w' v.ownBlock) : LI b len base w ts g c R v1 v2 w' where
  own := h.own.kept hg (owns_two o h.own e1)
  rows := fun t ht => (h.rows t ht).grown hg (fun B vs hB => owns_apart o hB (Ne.symm e2))
  r1 := h.r1.kept hg (owns_two o h.r1 e3)
  r2 := h.r2.kept hg (owns_two o h.r2 e4)
  mv := h.mv.grown hg (fun k e => (o.lt k e).1)
end
set_option maxRecDepth 100000 in
set_option maxHeartbeats 4000000 in
theorem limits_any (w : World) (b len base n c : Nat) (a : Option Addr) (ts : List CT) (ht : Tp w b len) (hb : b < base) (ho : w.ownsRow base 28 5 (.slice a ts.length c) ts.length (ts.flatMap encC)) (hr : ChRows base w ts) (hck : cchk (clks ts) = 0) (h1 : 1 ≤ ts.length) (hl : ts.length ≤ 16) (hn : n ≤ 6) :
    Calls Tryd.prog 29 #[.pointer (some ⟨b, 0, none⟩), .slice a ts.length c, .int .i64 n] w (MakesLims b len n w (clks ts)) := by
  have TT := Lib.hid ht
  have HB := Lib.hid hb
  have HW := Lib.hid ht.has
  obtain ⟨g, c', e, _⟩ := owns_cell ho (by omega)
  cases e
  obtain ⟨j0, hj, hy0, hy1, hy2⟩ := info_parts infoLmt
  have O2 := Lib.hid ho
  have R2 := Lib.hid hr
  have CK := Lib.hid hck
  have HC1 := Lib.hid (allOk_cho (cchk_zero hck).2.1)
  have SA := Lib.hid (setting_any w b len base c (some ⟨g, 0, none⟩) ts ht hb ho hr (by omega) HC1.out)
  clear ht hb ho hr hck
  go_enter Tryd.func29, Tryd.ntmps29
  go_wp2_with fail
  refine SA.out.mono ?_
  rintro e w3 ⟨f, vf, rfl, hof, hsf, hm3⟩
  have O3 := Lib.hid (hm3.owns O2.out HB.out)
  have R3 : Hid (ChRows base w3 ts) := Lib.hid (fun t ht => (R2.out t ht).mv hm3 HB.out)
  have M3 := Lib.hid hm3
  obtain ⟨af, cf, rfl, sf3⟩ := owns_slI hof (setOk_wide CK.out hsf)
  have hcl : (clks ts).length = ts.length := clks_len ts
  obtain ⟨_, _, eq3, _, sl3⟩ := clks_at O3.out R3.out (by omega)
  cases eq3
  have STS := states_any (clks ts) f (some ⟨g, 0, none⟩) af c cf w3 sl3 sf3 CK.out hsf
  rw [hsf.1, hcl] at STS
  have STS' := Lib.hid STS
  have RG := Lib.hid (rts_good CK.out hsf)
  have HRL : Hid ((rts (clks ts) f).length = ts.length) := Lib.hid (by rw [rts_len _ _ hsf.1.symm, hcl])
  have HCL := Lib.hid hcl
  clear hof hsf hm3 SA STS sl3 sf3 O2 R2
  rw [hcl]
  clear hcl
  go_wp2_with fail
  refine STS'.out.mono ?_
  rintro e w4 ⟨v1, v2, rfl, ho1, ho2, hg4⟩
  rw [HCL.out] at ho1 ho2
  obtain ⟨a1, c1, rfl⟩ := owns_slice ho1
  obtain ⟨a2, c2, rfl⟩ := owns_slice ho2
  obtain ⟨R, eR⟩ : ∃ R, rts (clks ts) f = R := ⟨_, rfl⟩
  rw [eR] at ho1 ho2 RG HRL
  have C4 : Hid (LI b len base w ts g c R (.slice a1 ts.length c1) (.slice a2 ts.length c2) w4) := Lib.hid
    ⟨Gr.owns O3.out hg4, fun t ht => (R3.out t ht).gr hg4, owns_low ho1 M3.out.size, owns_low ho2 M3.out.size, M3.out.gr hg4⟩
  clear ho1 ho2 hg4 eR STS' O3 R3 M3
  go_wp2_with fail
  refine (nM_any w4 b len ((n : Int) + 1) (C4.out.mv.tp TT.out) (by omega) (by omega)).mono ?_
  rintro e w5 ⟨m0, rfl, ⟨m00, m01⟩, hm5⟩
  obtain ⟨m0, rfl⟩ := Int.eq_ofNat_of_zero_le m00
  have C5 := Lib.hid (C4.out.mvd HB.out HW.out hm5)
  clear hm5 C4
  go_wp2_with fail
  go_loopw [10, 11] (fun s10 s11 wr => ∃ (ms : List Lmt) (q : Nat) (am : Option Addr) (cm : Nat), s10 = .slice am ms.length cm ∧ s11 = .int .i64 (q : Int) ∧ ms.length + q ≤ n ∧ wr.ownsRow w.heap.size 53 3 (.slice am ms.length cm) ms.length (ms.flatMap encM) ∧ (∀ j (h : j < ms.length), LmtOk (clks ts) ms[j]) ∧ LI b len base w ts g c R (.slice a1 ts.length c1) (.slice a2 ts.length c2) wr) (fun _ s11 _ => (intOf s11).toNat)
  case atStart => exact ⟨[], m0, none, 0, rfl, rfl, by simp; omega, World.ownsRow_nil _ _ _ _, fun j h => by simp at h, C5.out⟩
  case round =>
    clear C5 m01 m00
    obtain ⟨ms, q, am, cm, rfl, rfl, hmn, hom, hlm, hco⟩ := hrel
    have OM := Lib.hid hom
    have LM := Lib.hid hlm
    have CO1 := Lib.hid hco
    clear hom hlm hco
    cases q with
    | zero =>
      go_wp2_with fail
      go_ret
      exact ⟨ms, _, rfl, OM.out, by omega, LM.out, CO1.out.mv⟩
    | succ q =>
      go_wp2_with fail
      refine (nM_any wr b len ts.length (CO1.out.mv.tp TT.out) (by omega) (by omega)).mono ?_
      rintro e w6 ⟨k, rfl, ⟨k0, k1⟩, hm6⟩
      obtain ⟨k, rfl⟩ := Int.eq_ofNat_of_zero_le k0
      have C6 := Lib.hid (CO1.out.mvd HB.out HW.out hm6)
      have OM6 := Lib.hid (hm6.owns OM.out HW.out)
      clear hm6 CO1 OM
      obtain ⟨_, _, er, hra⟩ := rates_of_owns HRL.out C6.out.r1
      cases er
      have hkR : k < R.length := by have := HRL.out; omega
      obtain ⟨g1, rfl, q0, q1⟩ := hra k hkR
      have e := rtAt_eq hkR
      have hgd := RG.out k hkR
      rw [← e] at hgd
      obtain ⟨r, hrr⟩ : ∃ r, rtAt R k = r := ⟨_, rfl⟩
      rw [hrr] at q0 q1 hgd
      have gh1 := has_of_cell q0
      have kl : (k : Int) < ts.length := by omega
      obtain ⟨rn, ern⟩ : ∃ rn, numR r = rn := ⟨_, rfl⟩
      obtain ⟨rd, erd⟩ : ∃ rd, denR r = rd := ⟨_, rfl⟩
      have hv : validB rn rd = true := by
        cases r with
        | none => rw [← ern, ← erd]; rfl
        | some nd => rw [← ern, ← erd]; exact (hgd nd.1 nd.2 rfl).1
      rw [ern] at q0
      rw [erd] at q1
      obtain ⟨u1, u2, u3, u4, u5⟩ := valid_parts hv
      have fl0 := floor_ge rn rd (by omega) u3
      have fl1 := floor_le rn rd (by omega) u3 u2
      clear hv u5 hgd hra hrr e ern erd
      go_wp2_with fail
      refine (refFloor_any rn rd w6 (by omega) (by omega) (by omega) (by omega)).mono ?_
      rintro e w7 ⟨rfl, hg7⟩
      obtain ⟨fl, efl⟩ : ∃ fl, floorI rn rd = fl := ⟨_, rfl⟩
      rw [efl] at fl0 fl1 ⊢
      have C7 := Lib.hid (C6.out.gr hg7)
      have OM7 := Lib.hid (Gr.owns OM6.out hg7)
      obtain ⟨f2, hf2⟩ : ∃ f2 : Int, (if 4000000000 < fl then 4000000000 else fl) = f2 := ⟨_, rfl⟩
      have hf20 : 0 ≤ f2 ∧ f2 ≤ 4000000000 := by rw [← hf2]; split <;> omega
      have F2 := Lib.hid hf20
      obtain ⟨f20, f21⟩ := hf20
      clear hg7 C6 OM6 q0 q1 gh1 efl
      go_wp2_with fail
      refine (pickNew_any w7 b len (C7.out.mv.tp TT.out) _ rfl #[.int .i64 0, .int .i64 1, .int .i64 10, .int .i64 f2] 4 [0, 1, 10, f2] (InTo 0 4000000000) rfl rfl (by omega) (by omega) (by simp [InTo]; omega)).mono ?_
      rintro e w8 ⟨x1, rfl, ⟨x10, x11⟩, hm8⟩
      have C8 := Lib.hid (C7.out.mvd HB.out HW.out hm8)
      have OM8 := Lib.hid (hm8.owns OM7.out HW.out)
      obtain ⟨lo, hlo⟩ : ∃ lo : Int, (if x1 < f2 then f2 - x1 else 0) = lo := ⟨_, rfl⟩
      have hlo0 : 0 ≤ lo ∧ lo ≤ f2 := by rw [← hlo]; split <;> omega
      have LO := Lib.hid hlo0
      clear hm8 C7 OM7 hf2 hlo0
      go_wp2_with fail
      refine (pickNew_any w8 b len (C8.out.mv.tp TT.out) _ rfl #[.int .i64 0, .int .i64 1, .int .i64 5, .int .i64 100] 4 [0, 1, 5, 100] (InTo 0 100) rfl rfl (by omega) (by omega) (by simp [InTo])).mono ?_
      rintro e w9 ⟨x2, rfl, ⟨x20, x21⟩, hm9⟩
      have C9 := Lib.hid (C8.out.mvd HB.out HW.out hm9)
      have OM9 := Lib.hid (hm9.owns OM8.out HW.out)
      obtain ⟨y, hy⟩ : ∃ y : Int, (if f2 + x2 < 4000000000 then f2 + x2 else 4000000000) = y := ⟨_, rfl⟩
      have hy01 : lo ≤ y ∧ y ≤ 4000000000 := by have := LO.out; rw [← hy]; split <;> omega
      have gA : Gr w9 (w9.alloc (.cells #[.int .i64 k, .int .i64 lo, .int .i64 y] 53)) := (Gr.refl _).alloc _
      obtain ⟨N9, hN9⟩ : ∃ N9 : Nat, Hid (w9.heap.size = N9) := ⟨_, Lib.hid rfl⟩
      obtain ⟨WA, hWA⟩ : ∃ WA : World, Hid (WA = (w9.alloc (.cells #[.int .i64 k, .int .i64 lo, .int .i64 y] 53)).alloc (.cells #[.int .i64 k, .int .i64 lo, .int .i64 y] 53)) := ⟨_, Lib.hid rfl⟩
      have gA2 : Gr w9 WA := by rw [hWA.out]; exact gA.alloc _
      have OMa := Lib.hid (Gr.owns OM9.out gA2)
      have Ca := Lib.hid (C9.out.gr gA2)
      have CC : Hid (∀ j u, ([Value.int .i64 k, .int .i64 lo, .int .i64 y])[j]? = some u → WA.cell? ((⟨N9 + 1, 0, none⟩ : Addr).add j) = some u) := Lib.hid (by
        have := row_cells (Row.new (w9.alloc (.cells #[.int .i64 k, .int .i64 lo, .int .i64 y] 53)) #[.int .i64 k, .int .i64 lo, .int .i64 y] 53)
        rw [← hWA.out] at this
        have e : (w9.alloc (.cells #[.int .i64 k, .int .i64 lo, .int .i64 y] 53)).heap.size = N9 + 1 := by simp [hN9.out]
        rw [e] at this
        exact this)
      have one : Hid (∀ u ∈ [Value.int .i64 k, .int .i64 lo, .int .i64 y], u.oneCell' = true) := Lib.hid (by
        intro u hu
        simp only [List.mem_cons, List.not_mem_nil, or_false] at hu
        rcases hu with rfl | rfl | rfl <;> rfl)
      have base : Hid (w.heap.size ≤ WA.heap.size) := Lib.hid Ca.out.mv.size
      have Y := Lib.hid hy01
      clear hm9 C8 OM8 gA gA2 hy01 hlo
      go_wp2_with (first
        | (at_builtin; rw [← hWA.out, hN9.out]; refine wpList_append_own _ rfl _ _ 39 rfl w.heap.size 53 j0 (.agg #[.int .i64 0, .int .i64 0, .int .i64 0]) 3 24 Tryd.underlying39 hj hy0 hy1 hy2 rfl (by decide) (.slice am ms.length cm) ms.length (ms.flatMap encM) rfl OMa.out ⟨N9 + 1, 0, none⟩ 1 1 [.int .i64 k, .int .i64 lo, .int .i64 y] rfl rfl CC.out one.out (by unfold maxLen; omega) (by omega) base.out ?_; intro v' W9 hown hgrow hnil; obtain ⟨a9, c9, rfl⟩ := owns_slice hown; have O9 := Lib.hid hown; have C9 := Lib.hid (Ca.out.app OMa.out (by decide) (by decide) (by decide) (by decide) hgrow); clear hown hgrow hnil)
        | fail)
      go_roundw
      case rel =>
        refine ⟨ms ++ [⟨k, lo, y⟩], q, a9, c9, by simp, by go_num, by simp; omega, ?_, ?_, C9.out⟩
        · have := O9.out
          simpa [encM] using this
        · intro j hj
          by_cases e : j < ms.length
          · rw [List.getElem_append_left e]; exact LM.out j e
          · have : j = ms.length := by simp at hj; omega
            subst this
            simp only [List.getElem_append_right (Nat.le_refl _), Nat.sub_self, List.getElem_cons_zero]
            have h1 := LO.out
            have h2 := Y.out
            exact ⟨by simp, by simp only [HCL.out]; omega, h1.1, h2.1, h2.2⟩
      case measure => simp [intOf]
end Go.Proofs.YtenehghpmnajpaaDoor

/-! Contracts of the reference's Meets and Fits, where clocks, settings and limits are right (printed by wip/tools/mt.py). -/
set_option linter.unusedVariables false
set_option linter.unusedSimpArgs false
namespace Go.Proofs.YtenehghpmnajpaaDoor
open Go.RowKit
open Classical

set_option maxRecDepth 100000 in
set_option maxHeartbeats 2000000 in
theorem fits_any (l : List Clk) (ms : List Lmt) (s : List Int) (al aS am : Option Addr) (cl cs cm : Nat) (w : World) (h : SlOf 5 RClk w al l) (hs : SlOf 1 RI w aS s) (hm : SlOf 3 RLmt w am ms) (hc : cchk l = 0) (hset : SetOk l s) (hlm : ms.length ≤ 32 ∧ ∀ j (h : j < ms.length), LmtOk l ms[j]) :
    Calls Tryd.prog 114 #[.slice al l.length cl, .slice aS s.length cs, .slice am ms.length cm] w (Grows w (.bool (meetS l ms s))) := by
  have hl := small_len (cchk_zero hc).1
  have hRl : (rts l s).length = l.length := rts_len _ _ hset.1.symm
  have ST := Lib.hid (states_any l s al aS cl cs w h hs hc hset)
  rw [hset.1] at ST
  have RG := Lib.hid (rts_good hc hset)
  have H := Lib.hid h
  have HM := Lib.hid hm
  have LM := Lib.hid hlm.2
  have hml := hlm.1
  obtain ⟨R, eR⟩ : ∃ R, rts l s = R := ⟨_, rfl⟩
  have ST2 : Hid (Calls Tryd.prog 25 #[.slice al l.length cl, .slice aS l.length cs] w (fun e w' => ∃ v1 v2, e = .returned (.tuple #[v1, v2]) ∧ w'.ownsRow w.heap.size 56 2 v1 l.length (encP (R.map prR)) ∧ w'.ownsRow w.heap.size 4 1 v2 l.length (bools (onL R)) ∧ Gr w w')) := Lib.hid (by rw [← eR]; exact ST.out)
  rw [eR] at RG hRl
  have cal : meetS l ms s = decide (MeetR R l ms) := by rw [← eR]; exact meetS_eq l ms s
  have HL := Lib.hid hRl
  rw [cal, hset.1]
  clear cal ST h hs hm hc hset hlm eR hRl
  go_enter Tryd.func114, Tryd.ntmps114
  go_wp2_with fail
  refine ST2.out.mono ?_
  rintro e w1 ⟨v1, v2, rfl, ho1, ho2, hg⟩
  obtain ⟨a1, c1, rfl, hr⟩ := rates_of_owns HL.out ho1
  obtain ⟨a2, c2, rfl, hon⟩ := ons_of_owns HL.out ho2
  have HR := Lib.hid hr
  have HO := Lib.hid hon
  have G1 := Lib.hid hg
  clear ho1 ho2 hr hon hg ST2
  go_wp2_with fail
  go_loopw [19] (fun i wr => ∃ k : Nat, k ≤ ms.length ∧ i = .int .i64 k ∧ (∀ j (h : j < ms.length), j < k → okIn (rtAt R ms[j].clock.toNat) ms[j].low ms[j].high = true) ∧ Gr w1 wr) (fun i _ => ms.length - (intOf i).toNat)
  case atStart => exact ⟨0, Nat.zero_le _, rfl, fun j _ h => absurd h (by omega), Gr.refl _⟩
  case round =>
    obtain ⟨k, hk, rfl, hall, hg⟩ := hrel
    have HA := Lib.hid hall
    have HG := Lib.hid hg
    clear hall hg
    obtain ⟨wo, rfl⟩ : ∃ wo : World, wo = wr := ⟨_, rfl⟩
    by_cases hlt : k < ms.length
    · obtain ⟨b, o, rfl, ⟨d0, _⟩, ⟨d1, _⟩, ⟨d2, _⟩⟩ := lmts_gr HM.out (G1.out.trans HG.out) k hlt
      obtain ⟨u0, u1, _⟩ := LM.out k hlt
      obtain ⟨q, hq⟩ : ∃ q : Nat, ms[k].clock = q := ⟨_, (Int.toNat_of_nonneg u0).symm⟩
      have eq : ms[k].clock.toNat = q := by omega
      have hql : q < R.length := by have := HL.out; omega
      obtain ⟨g1, rfl, r0, r1⟩ := (HR.out.gr HG.out) q hql
      obtain ⟨g2, rfl, r2⟩ := (HO.out.gr HG.out) q hql
      have e := rtAt_eq hql
      have hgd := RG.out q hql
      rw [← e] at hgd
      obtain ⟨r, hrr⟩ : ∃ r, rtAt R q = r := ⟨_, rfl⟩
      rw [hrr] at r0 r1 r2 hgd
      have gh1 := has_of_cell r0
      have gh2 := has_of_cell r2
      have q2 : (q : Int) < l.length := by omega
      have RR : Hid (rtAt R ms[k].clock.toNat = r) := Lib.hid (by rw [eq]; exact hrr)
      have NX : Hid (okIn r ms[k].low ms[k].high = true → ∀ j (h : j < ms.length), j < k + 1 → okIn (rtAt R ms[j].clock.toNat) ms[j].low ms[j].high = true) := Lib.hid fun q j h1 hj => by
        by_cases e : j = k
        · subst e; rw [RR.out]; exact q
        · exact HA.out j h1 (by omega)
      have BAD : Hid (okIn r ms[k].low ms[k].high = false → ¬ MeetR R l ms) := Lib.hid fun q h => by
        have := h.2 k hlt
        rw [RR.out, q] at this; cases this
      rw [hq] at d0
      clear hrr e eq u0 u1 hq
      cases r with
      | none =>
        simp only [numR, denR, Option.isSome_none] at r0 r1 r2
        have bad := Lib.hid (BAD.out rfl)
        clear hgd NX BAD
        go_wp2_with fail
        refine wp_region_grows (by kernel_rfl) (by kernel_rfl) ?_
        repeat (go_big_quiet_step (fail))
        refine wpQuiet_nil ?_
        rintro _ ⟨⟨O, d⟩, rfl⟩
        go_wp2_with fail
        go_ret
        exact ⟨ret_bool (decide_eq_false bad.out).symm, ((G1.out.trans HG.out).alloc _).xt _ _⟩
      | some nd =>
        obtain ⟨n, d⟩ := nd
        obtain ⟨hv, hn1⟩ := hgd n d rfl
        obtain ⟨v1, v2, v3, v4, v5⟩ := valid_parts hv
        simp only [numR, denR, Option.isSome_some] at r0 r1 r2
        clear hv v5 hgd
        cases hq : withinB n d ms[k].low ms[k].high with
        | true =>
          have NX3 := Lib.hid (NX.out (by simp [okIn, hq]))
          have wq := refWithin_any n d ms[k].low ms[k].high
          rw [hq] at wq
          clear NX BAD hq
          go_wp2_with fail
          refine wp_region_grows (by kernel_rfl) (by kernel_rfl) ?_
          repeat (go_big_quiet_step (first | (go_at_call 26; exact calls_grows (wq _ (by omega) (by omega) (by omega) (by omega)))))
          refine wpQuiet_nil ?_
          rintro _ ⟨⟨O, d⟩, rfl⟩
          go_wp2_with fail
          go_roundw
          case rel => exact ⟨k + 1, by omega, by go_num, NX3.out, (HG.out.alloc _).xt _ _⟩
          case measure => simp [intOf]; omega
        | false =>
          have bad := Lib.hid (BAD.out (by simp [okIn, hq]))
          have wq := refWithin_any n d ms[k].low ms[k].high
          rw [hq] at wq
          clear NX BAD hq
          go_wp2_with fail
          refine wp_region_grows (by kernel_rfl) (by kernel_rfl) ?_
          repeat (go_big_quiet_step (first | (go_at_call 26; exact calls_grows (wq _ (by omega) (by omega) (by omega) (by omega)))))
          refine wpQuiet_nil ?_
          rintro _ ⟨⟨O, d⟩, rfl⟩
          go_wp2_with fail
          go_ret
          exact ⟨ret_bool (decide_eq_false bad.out).symm, ((G1.out.trans HG.out).alloc _).xt _ _⟩
    · have HA2 : Hid (∀ j (h : j < ms.length), okIn (rtAt R ms[j].clock.toNat) ms[j].low ms[j].high = true) := Lib.hid fun j h => HA.out j h (by omega)
      have OW := refOwn_any l R al a1 a2 cl c1 c2 wo (clks_gr H.out (G1.out.trans HG.out)) (by omega) RG.out HL.out (HR.out.gr HG.out) (HO.out.gr HG.out)
      have OW' := Lib.hid OW
      have EQ : Hid (decide (OwnR R l) = decide (MeetR R l ms)) := Lib.hid (by rw [decide_eq_decide]; exact ⟨fun q => ⟨q, HA2.out⟩, fun q => q.1⟩)
      clear HA OW
      go_wp2_with fail
      refine OW'.out.mono ?_
      rintro e w5 ⟨rfl, hg5⟩
      have G5 := Lib.hid ((G1.out.trans HG.out).trans hg5)
      clear hg5
      go_wp2_with fail
      go_ret
      exact ⟨ret_bool EQ.out, G5.out⟩
set_option maxRecDepth 100000 in
set_option maxHeartbeats 2000000 in
theorem meets_any (l : List Clk) (ms : List Lmt) (s : List Int) (al aS am : Option Addr) (cl cs cm : Nat) (w : World) (h : SlOf 5 RClk w al l) (hs : SlOf 1 RI w aS s) (hm : SlOf 3 RLmt w am ms) (hc : cchk l = 0) (hset : SetOk l s) (hlm : ms.length ≤ 32 ∧ ∀ j (h : j < ms.length), LmtOk l ms[j]) :
    Calls Tryd.prog 32 #[.slice al l.length cl, .slice aS s.length cs, .slice am ms.length cm] w (Grows w (.bool (meetS l ms s))) := by
  have hl := small_len (cchk_zero hc).1
  have hRl : (rts l s).length = l.length := rts_len _ _ hset.1.symm
  have S1 := Lib.hid (fun W (hW : Gr w W) => refSetting_ok l s al aS cl cs W (clks_gr h hW) (hs.giI hW) hc hset)
  rw [hset.1] at S1
  have S2 := Lib.hid (fun W (hW : Gr w W) => refLimits_ok l ms al am cl cm W (clks_gr h hW) (lmts_gr hm hW) hc hlm)
  have ST := Lib.hid (fun W (hW : Gr w W) => states_any l s al aS cl cs W (clks_gr h hW) (hs.giI hW) hc hset)
  rw [hset.1] at ST
  have RG := Lib.hid (rts_good hc hset)
  have H := Lib.hid h
  have HM := Lib.hid hm
  have LM := Lib.hid hlm.2
  have hml := hlm.1
  obtain ⟨R, eR⟩ : ∃ R, rts l s = R := ⟨_, rfl⟩
  have ST2 : Hid (∀ W, Gr w W → Calls Tryd.prog 25 #[.slice al l.length cl, .slice aS l.length cs] W (fun e w' => ∃ v1 v2, e = .returned (.tuple #[v1, v2]) ∧ w'.ownsRow W.heap.size 56 2 v1 l.length (encP (R.map prR)) ∧ w'.ownsRow W.heap.size 4 1 v2 l.length (bools (onL R)) ∧ Gr W w')) := Lib.hid (by rw [← eR]; exact ST.out)
  rw [eR] at RG hRl
  have cal : meetS l ms s = decide (MeetR R l ms) := by rw [← eR]; exact meetS_eq l ms s
  have HL := Lib.hid hRl
  rw [cal, hset.1]
  clear cal ST h hs hm hc hset hlm eR hRl
  go_enter Tryd.func32, Tryd.ntmps32
  go_wp2_with fail
  first
    | (refine (S1.out _ (Gr.refl _)).mono ?_
       rintro e x1 ⟨rfl, gx1⟩
       have GX1 := Lib.hid gx1
       clear gx1
       go_wp2_with fail
       refine (S2.out _ GX1.out).mono ?_
       rintro e x2 ⟨rfl, gx2⟩
       have GX2 := Lib.hid (GX1.out.trans gx2)
       clear gx2
       go_wp2_with fail)
  refine (ST2.out _ GX2.out).mono ?_
  rintro e w1 ⟨v1, v2, rfl, ho1, ho2, hg⟩
  have hg := GX2.out.trans hg
  obtain ⟨a1, c1, rfl, hr⟩ := rates_of_owns HL.out ho1
  obtain ⟨a2, c2, rfl, hon⟩ := ons_of_owns HL.out ho2
  have HR := Lib.hid hr
  have HO := Lib.hid hon
  have G1 := Lib.hid hg
  clear ho1 ho2 hr hon hg ST2
  go_wp2_with fail
  go_loopw [29] (fun i wr => ∃ k : Nat, k ≤ ms.length ∧ i = .int .i64 k ∧ (∀ j (h : j < ms.length), j < k → okIn (rtAt R ms[j].clock.toNat) ms[j].low ms[j].high = true) ∧ Gr w1 wr) (fun i _ => ms.length - (intOf i).toNat)
  case atStart => exact ⟨0, Nat.zero_le _, rfl, fun j _ h => absurd h (by omega), Gr.refl _⟩
  case round =>
    obtain ⟨k, hk, rfl, hall, hg⟩ := hrel
    have HA := Lib.hid hall
    have HG := Lib.hid hg
    clear hall hg
    obtain ⟨wo, rfl⟩ : ∃ wo : World, wo = wr := ⟨_, rfl⟩
    by_cases hlt : k < ms.length
    · obtain ⟨b, o, rfl, ⟨d0, _⟩, ⟨d1, _⟩, ⟨d2, _⟩⟩ := lmts_gr HM.out (G1.out.trans HG.out) k hlt
      obtain ⟨u0, u1, _⟩ := LM.out k hlt
      obtain ⟨q, hq⟩ : ∃ q : Nat, ms[k].clock = q := ⟨_, (Int.toNat_of_nonneg u0).symm⟩
      have eq : ms[k].clock.toNat = q := by omega
      have hql : q < R.length := by have := HL.out; omega
      obtain ⟨g1, rfl, r0, r1⟩ := (HR.out.gr HG.out) q hql
      obtain ⟨g2, rfl, r2⟩ := (HO.out.gr HG.out) q hql
      have e := rtAt_eq hql
      have hgd := RG.out q hql
      rw [← e] at hgd
      obtain ⟨r, hrr⟩ : ∃ r, rtAt R q = r := ⟨_, rfl⟩
      rw [hrr] at r0 r1 r2 hgd
      have gh1 := has_of_cell r0
      have gh2 := has_of_cell r2
      have q2 : (q : Int) < l.length := by omega
      have RR : Hid (rtAt R ms[k].clock.toNat = r) := Lib.hid (by rw [eq]; exact hrr)
      have NX : Hid (okIn r ms[k].low ms[k].high = true → ∀ j (h : j < ms.length), j < k + 1 → okIn (rtAt R ms[j].clock.toNat) ms[j].low ms[j].high = true) := Lib.hid fun q j h1 hj => by
        by_cases e : j = k
        · subst e; rw [RR.out]; exact q
        · exact HA.out j h1 (by omega)
      have BAD : Hid (okIn r ms[k].low ms[k].high = false → ¬ MeetR R l ms) := Lib.hid fun q h => by
        have := h.2 k hlt
        rw [RR.out, q] at this; cases this
      rw [hq] at d0
      clear hrr e eq u0 u1 hq
      cases r with
      | none =>
        simp only [numR, denR, Option.isSome_none] at r0 r1 r2
        have bad := Lib.hid (BAD.out rfl)
        clear hgd NX BAD
        go_wp2_with fail
        refine wp_region_grows (by kernel_rfl) (by kernel_rfl) ?_
        repeat (go_big_quiet_step (fail))
        refine wpQuiet_nil ?_
        rintro _ ⟨⟨O, d⟩, rfl⟩
        go_wp2_with fail
        go_ret
        exact ⟨ret_bool (decide_eq_false bad.out).symm, ((G1.out.trans HG.out).alloc _).xt _ _⟩
      | some nd =>
        obtain ⟨n, d⟩ := nd
        obtain ⟨hv, hn1⟩ := hgd n d rfl
        obtain ⟨v1, v2, v3, v4, v5⟩ := valid_parts hv
        simp only [numR, denR, Option.isSome_some] at r0 r1 r2
        clear hv v5 hgd
        cases hq : withinB n d ms[k].low ms[k].high with
        | true =>
          have NX3 := Lib.hid (NX.out (by simp [okIn, hq]))
          have wq := refWithin_any n d ms[k].low ms[k].high
          rw [hq] at wq
          clear NX BAD hq
          go_wp2_with fail
          refine wp_region_grows (by kernel_rfl) (by kernel_rfl) ?_
          repeat (go_big_quiet_step (first | (go_at_call 26; exact calls_grows (wq _ (by omega) (by omega) (by omega) (by omega)))))
          refine wpQuiet_nil ?_
          rintro _ ⟨⟨O, d⟩, rfl⟩
          go_wp2_with fail
          go_roundw
          case rel => exact ⟨k + 1, by omega, by go_num, NX3.out, (HG.out.alloc _).xt _ _⟩
          case measure => simp [intOf]; omega
        | false =>
          have bad := Lib.hid (BAD.out (by simp [okIn, hq]))
          have wq := refWithin_any n d ms[k].low ms[k].high
          rw [hq] at wq
          clear NX BAD hq
          go_wp2_with fail
          refine wp_region_grows (by kernel_rfl) (by kernel_rfl) ?_
          repeat (go_big_quiet_step (first | (go_at_call 26; exact calls_grows (wq _ (by omega) (by omega) (by omega) (by omega)))))
          refine wpQuiet_nil ?_
          rintro _ ⟨⟨O, d⟩, rfl⟩
          go_wp2_with fail
          go_ret
          exact ⟨ret_bool (decide_eq_false bad.out).symm, ((G1.out.trans HG.out).alloc _).xt _ _⟩
    · have HA2 : Hid (∀ j (h : j < ms.length), okIn (rtAt R ms[j].clock.toNat) ms[j].low ms[j].high = true) := Lib.hid fun j h => HA.out j h (by omega)
      have OW := refOwn_any l R al a1 a2 cl c1 c2 wo (clks_gr H.out (G1.out.trans HG.out)) (by omega) RG.out HL.out (HR.out.gr HG.out) (HO.out.gr HG.out)
      have OW' := Lib.hid OW
      have EQ : Hid (decide (OwnR R l) = decide (MeetR R l ms)) := Lib.hid (by rw [decide_eq_decide]; exact ⟨fun q => ⟨q, HA2.out⟩, fun q => q.1⟩)
      clear HA OW
      go_wp2_with fail
      refine OW'.out.mono ?_
      rintro e w5 ⟨rfl, hg5⟩
      have G5 := Lib.hid ((G1.out.trans HG.out).trans hg5)
      clear hg5
      go_wp2_with fail
      go_ret
      exact ⟨ret_bool EQ.out, G5.out⟩
end Go.Proofs.YtenehghpmnajpaaDoor
