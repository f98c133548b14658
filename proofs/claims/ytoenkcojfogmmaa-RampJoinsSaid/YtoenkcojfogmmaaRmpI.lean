/- Plain facts about joins; the walk of RampJoins. -/
import Derived.Test.YtoenkcojfogmmaaRmpG
import Derived.Test.YtoenkcojfogmmaaRmpH
import Derived.Test.YtoenkcojfogmmaaMkB
import Derived.Test.YtoenkcojfogmmaaNewTape
import Derived.Test.YtoenkcojfogmmaaJnA
import Derived.Test.YtoenkcojfogmmaaJnB
set_option linter.unusedVariables false
set_option linter.unusedSimpArgs false
namespace Go.Proofs.Ytoenkcojfogmmaa
open Go.RowKit
open Classical

theorem rls_ext {a b : Rls} (h1 : a.on.length = b.on.length) (h2 : a.level.length = b.level.length) (h3 : ∀ k, k < a.on.length → onAt a k = onAt b k) (h4 : ∀ k, k < a.level.length → lvAt a k = lvAt b k) : a = b := by
  obtain ⟨o, lv⟩ := a
  obtain ⟨o', lv'⟩ := b
  simp only at h1 h2
  congr 1
  · refine List.ext_getElem h1 fun k q1 q2 => ?_
    have := h3 k q1
    rwa [onAt_eq q1, onAt_eq q2] at this
  · refine List.ext_getElem h2 fun k q1 q2 => ?_
    have := h4 k q1
    rwa [lvAt_eq q1, lvAt_eq q2] at this
theorem join_self {a : Rls} : joinR a a = a := by
  refine rls_ext (joinR_on_len _ _) (joinR_lv_len _ _) (fun k hk => ?_) (fun k hk => ?_)
  · rw [joinR_on_len] at hk; rw [joinR_on a a k hk, Bool.or_self]
  · rw [joinR_lv_len] at hk
    rw [joinR_lv a a k hk]
    unfold jlv
    split
    · simp
    · rfl
theorem rls_lvl {l : List Sup} {r : Rls} (h : RlsOk l r) (k : Nat) (hk : k < l.length) : 0 ≤ lvAt r k ∧ lvAt r k ≤ (l[k].levels.length : Int) - 1 := by
  have h2 := h.2.2.1
  rw [lvAt_eq (by omega)]
  exact h.2.2.2 k hk (by omega)
theorem join_ok {l : List Sup} {a b : Rls} (ha : RlsOk l a) (hb : RlsOk l b) : RlsOk l (joinR a b) := by
  refine ⟨ha.1, by rw [joinR_on_len]; exact hb.2.1, by rw [joinR_lv_len]; exact hb.2.2.1, fun k hk hk' => ?_⟩
  rw [← lvAt_eq hk', joinR_lv a b k (by have := hb.2.2.1; omega)]
  have h1 := rls_lvl ha k hk
  have h2 := rls_lvl hb k hk
  unfold jlv
  split
  · split
    · split <;> assumption
    · exact h1
  · exact h2
theorem Mv.out {w W w' : World} {b len : Nat} (hg : Gr w W) (h : Mv b len W w') (hb : w.heap.size ≤ b) : Gr w w' := by
  obtain ⟨p, h0, h1, g⟩ := h
  exact (hg.setc hb).trans g
theorem rls_fit {l : List Sup} {r : Rls} (h : RlsOk l r) : Fit r.on.length ∧ Fit r.level.length ∧ l.length ≤ 16 := by
  have hz := (chk_zero h.1).1
  simp only [Big, not_or] at hz
  have h1 := h.2.1
  have h2 := h.2.2.1
  unfold Fit; omega

set_option maxRecDepth 100000 in
set_option maxHeartbeats 8000000 in
theorem joins_walk (a : Option Addr) (len cap : Nat) (zs : List Int) (w : World) (h : RowIn w a len cap zs) :
    Calls Try.prog 4 #[.slice a len cap] w (Grows w (.bool true)) := by
  have H := Lib.hid h
  clear h
  go_enter Try.func4, Try.ntmps4
  go_wp2_with fail
  refine (newTape_any w a len cap zs H.out).mono ?_
  rintro e W0 ⟨b, n, rfl, ht, hg, hb, _⟩
  have TT : Hid (Tp W0 b n) := Lib.hid ⟨_, ht⟩
  have G0 := Lib.hid hg
  have HB := Lib.hid hb
  clear ht hg hb
  go_wp2_with fail
  refine (supplies_any W0 b n 7 TT.out (by omega) (by omega)).mono ?_
  rintro e W1 ⟨l, ao, cp, rfl, hc, hl1, hl7, hlc, hl, hm⟩
  have HL := Lib.hid hl
  have HC := Lib.hid hc
  have M1 := Lib.hid hm
  clear hl hc hm
  have T1 := Lib.hid (M1.out.tp TT.out)
  go_wp2_with fail
  refine (mkRails_any l ao cp W1 b n T1.out HL.out HC.out).mono ?_
  rintro e W2 ⟨ra, va, rfl, hra, hva, hm⟩
  have RA := Lib.hid hra
  have VA := Lib.hid hva
  have M2 := Lib.hid hm
  have T2 := Lib.hid (hm.tp T1.out)
  clear hra hva hm
  go_wp2_with fail
  refine (mkRails_any l ao cp W2 b n T2.out (HL.out.mv T1.out.has M2.out (mono_sups _ _)) HC.out).mono ?_
  rintro e W3 ⟨rb, vb, rfl, hrb, hvb, hm⟩
  have RB' := Lib.hid hrb
  have M3 := Lib.hid hm
  have T3 := Lib.hid (hm.tp T2.out)
  obtain ⟨a1, a2, c1, c2, rfl, k1, k2, s1, s2⟩ := VA.out.mv T2.out.has hm
  obtain ⟨a3, a4, c3, c4, rfl, k3, k4, s3, s4⟩ := hvb
  have S1 := Lib.hid (s1.now T3.out)
  have S2 := Lib.hid (s2.now T3.out)
  have S3 := Lib.hid (s3.now T3.out)
  have S4 := Lib.hid (s4.now T3.out)
  have SL := Lib.hid ((HL.out.mv T1.out.has (M2.out.trans T1.out.has hm) (mono_sups _ _)).now T3.out)
  have GW3 : Hid (Gr w W3) := Lib.hid (Mv.out G0.out (M1.out.trans TT.out.has (M2.out.trans T1.out.has hm)) HB.out)
  have K : Hid (ra.on.length ≤ c1 ∧ ra.level.length ≤ c2 ∧ rb.on.length ≤ c3 ∧ rb.level.length ≤ c4) := Lib.hid ⟨k1, k2, k3, k4⟩
  have FA := rls_fit RA.out
  have FB := rls_fit RB'.out
  have F1 := Lib.hid FA.1
  have F2 := Lib.hid FA.2.1
  have F3 := Lib.hid FB.1
  have F4 := Lib.hid FB.2.1
  have n16 : l.length ≤ 16 := FA.2.2
  have FL : Hid (Fit l.length) := Lib.hid (by unfold Fit; omega)
  clear hrb hm s1 s2 s3 s4 k1 k2 k3 k4 VA HL M1 M2 M3 T1 T2 T3 G0 HB TT FA FB
  go_wp2_with fail
  have hBab : begR l [ra, rb] = 0 := begR_of HC.out (by simp; exact ⟨RA.out, RB'.out⟩)
  have hBba : begR l [rb, ra] = 0 := begR_of HC.out (by simp; exact ⟨RB'.out, RA.out⟩)
  have hBaa : begR l [ra, ra] = 0 := begR_of HC.out (by simp; exact RA.out)
  have hJab : Hid (joinP l ra rb = joinR ra rb) := Lib.hid (by rw [joinP, if_pos hBab])
  have hJba : Hid (joinP l rb ra = joinR rb ra) := Lib.hid (by rw [joinP, if_pos hBba])
  have hJaa : Hid (joinP l ra ra = ra) := Lib.hid (by rw [joinP, if_pos hBaa, join_self])
  have HBab := Lib.hid hBab
  have HBba := Lib.hid hBba
  have HBaa := Lib.hid hBaa
  clear hBab hBba hBaa
  refine (bigJoin_any l ra rb ao a1 a2 a3 a4 cp c1 c2 c3 c4 _ (sups_gr SL.out (by repeat (first | with_reducible exact Gr.refl _ | with_reducible refine Gr.alloc _ ?_ | with_reducible refine Gr.xt _ _ ?_ | with_reducible refine Gr.drew ?_))) FL.out (S1.out.giB (by repeat (first | with_reducible exact Gr.refl _ | with_reducible refine Gr.alloc _ ?_ | with_reducible refine Gr.xt _ _ ?_ | with_reducible refine Gr.drew ?_))) (S2.out.giI (by repeat (first | with_reducible exact Gr.refl _ | with_reducible refine Gr.alloc _ ?_ | with_reducible refine Gr.xt _ _ ?_ | with_reducible refine Gr.drew ?_))) (S3.out.giB (by repeat (first | with_reducible exact Gr.refl _ | with_reducible refine Gr.alloc _ ?_ | with_reducible refine Gr.xt _ _ ?_ | with_reducible refine Gr.drew ?_))) (S4.out.giI (by repeat (first | with_reducible exact Gr.refl _ | with_reducible refine Gr.alloc _ ?_ | with_reducible refine Gr.xt _ _ ?_ | with_reducible refine Gr.drew ?_))) K.out.1 K.out.2.1 K.out.2.2.1 K.out.2.2.2 F1.out F2.out F3.out F4.out).mono ?_
  rw [hJab.out, HBab.out]
  rintro e W4 ⟨x1, x2, cx1, cx2, rfl, kx1, kx2, sx1, sx2, hg⟩
  have X1 := Lib.hid sx1
  have X2 := Lib.hid sx2
  have e0 : W4.cell? ⟨W3.heap.size, 0, none⟩ = some (.slice a1 ra.on.length c1) := cell_gr hg (by simp [go_sem])
  have e1 : W4.cell? ⟨W3.heap.size, 1, none⟩ = some (.slice a2 ra.level.length c2) := cell_gr hg (by simp [go_sem])
  have e2 : W4.cell? ⟨W3.heap.size + 1, 0, none⟩ = some (.slice a3 rb.on.length c3) := cell_gr hg (by simp [go_sem])
  have e3 : W4.cell? ⟨W3.heap.size + 1, 1, none⟩ = some (.slice a4 rb.level.length c4) := cell_gr hg (by simp [go_sem])
  have x5 := has_of_cell e0
  have x6 := has_of_cell e2
  have G34 : Hid (Gr W3 W4) := Lib.hid ((((Gr.refl _).alloc _).alloc _).trans hg)
  clear hg sx1 sx2
  go_wp2_with fail
  refine (bigJoin_any l rb ra ao a3 a4 a1 a2 cp c3 c4 c1 c2 _ (sups_gr SL.out (G34.out.alloc _)) FL.out (S3.out.giB (G34.out.alloc _)) (S4.out.giI (G34.out.alloc _)) (S1.out.giB (G34.out.alloc _)) (S2.out.giI (G34.out.alloc _)) K.out.2.2.1 K.out.2.2.2 K.out.1 K.out.2.1 F3.out F4.out F1.out F2.out).mono ?_
  rw [hJba.out, HBba.out]
  rintro e W5 ⟨y1, y2, cy1, cy2, rfl, ky1, ky2, sy1, sy2, hg⟩
  have Y1 := Lib.hid sy1
  have Y2 := Lib.hid sy2
  have G45 : Hid (Gr W4 W5) := Lib.hid (((Gr.refl _).alloc _).trans hg)
  have e4 : W5.cell? ⟨W4.heap.size, 0, none⟩ = some (.slice x1 (joinR ra rb).on.length cx1) := cell_gr hg (by simp [go_sem])
  have e5 : W5.cell? ⟨W4.heap.size, 1, none⟩ = some (.slice x2 (joinR ra rb).level.length cx2) := cell_gr hg (by simp [go_sem])
  replace e0 := cell_gr G45.out e0
  replace e1 := cell_gr G45.out e1
  replace e2 := cell_gr G45.out e2
  replace e3 := cell_gr G45.out e3
  replace x5 := has_of_cell e0
  replace x6 := has_of_cell e2
  have x7 := has_of_cell e4
  clear hg sy1 sy2
  go_wp2_with fail
  have G35 : Hid (Gr W3 W5) := Lib.hid (G34.out.trans G45.out)
  refine (bigJoin_any l ra ra ao a1 a2 a1 a2 cp c1 c2 c1 c2 _ (sups_gr SL.out (G35.out.alloc _)) FL.out (S1.out.giB (G35.out.alloc _)) (S2.out.giI (G35.out.alloc _)) (S1.out.giB (G35.out.alloc _)) (S2.out.giI (G35.out.alloc _)) K.out.1 K.out.2.1 K.out.1 K.out.2.1 F1.out F2.out F1.out F2.out).mono ?_
  rw [hJaa.out, HBaa.out]
  rintro e W6 ⟨z1, z2, cz1, cz2, rfl, kz1, kz2, sz1, sz2, hg⟩
  have Z1 := Lib.hid sz1
  have Z2 := Lib.hid sz2
  have G56 : Hid (Gr W5 W6) := Lib.hid (((Gr.refl _).alloc _).trans hg)
  have G36 : Hid (Gr W3 W6) := Lib.hid (G35.out.trans G56.out)
  have G46 : Hid (Gr W4 W6) := Lib.hid (G45.out.trans G56.out)
  have e6 : W6.cell? ⟨W5.heap.size, 0, none⟩ = some (.slice y1 (joinR rb ra).on.length cy1) := cell_gr hg (by simp [go_sem])
  have e7 : W6.cell? ⟨W5.heap.size, 1, none⟩ = some (.slice y2 (joinR rb ra).level.length cy2) := cell_gr hg (by simp [go_sem])
  replace e0 := cell_gr G56.out e0
  replace e1 := cell_gr G56.out e1
  replace e2 := cell_gr G56.out e2
  replace e3 := cell_gr G56.out e3
  replace e4 := cell_gr G56.out e4
  replace e5 := cell_gr G56.out e5
  replace x5 := has_of_cell e0
  replace x6 := has_of_cell e2
  replace x7 := has_of_cell e4
  have x9 := has_of_cell e6
  clear hg sz1 sz2
  have JAB := Lib.hid (join_ok RA.out RB'.out)
  have JBA := Lib.hid (join_ok RB'.out RA.out)
  have fab := rls_fit JAB.out
  have fba := rls_fit JBA.out
  have f1 := Lib.hid fab.1
  have f2 := Lib.hid fab.2.1
  have f3 := Lib.hid fba.1
  have f4 := Lib.hid fba.2.1
  clear fab fba
  go_wp2_with fail
  refine (sameRails_any ra ra z1 z2 a1 a2 cz1 cz2 c1 c2 _ (Z1.out.giB ((Gr.refl _).alloc _)) (Z2.out.giI ((Gr.refl _).alloc _)) (S1.out.giB (G36.out.alloc _)) (S2.out.giI (G36.out.alloc _)) F1.out F2.out F1.out F2.out).mono ?_
  rw [show decide (ra = ra) = true by simp]
  rintro e w' ⟨rfl, O1, d1, rfl⟩
  go_wp2_with fail
  refine (refRails_any l (joinR ra rb) ao x1 x2 cp cx1 cx2 _ (sups_gr SL.out (G36.out.trans (by repeat (first | with_reducible exact Gr.refl _ | with_reducible refine Gr.alloc _ ?_ | with_reducible refine Gr.xt _ _ ?_ | with_reducible refine Gr.drew ?_)))) FL.out (X1.out.giB (G46.out.trans (by repeat (first | with_reducible exact Gr.refl _ | with_reducible refine Gr.alloc _ ?_ | with_reducible refine Gr.xt _ _ ?_ | with_reducible refine Gr.drew ?_)))) (X2.out.giI (G46.out.trans (by repeat (first | with_reducible exact Gr.refl _ | with_reducible refine Gr.alloc _ ?_ | with_reducible refine Gr.xt _ _ ?_ | with_reducible refine Gr.drew ?_)))) f1.out f2.out).mono ?_
  rw [show decide (RlsOk l (joinR ra rb)) = true by simp [JAB.out]]
  rintro e w' ⟨rfl, O2, d2, rfl⟩
  go_wp2_with fail
  refine (refRails_any l (joinR rb ra) ao y1 y2 cp cy1 cy2 _ (sups_gr SL.out (G36.out.trans (by repeat (first | with_reducible exact Gr.refl _ | with_reducible refine Gr.alloc _ ?_ | with_reducible refine Gr.xt _ _ ?_ | with_reducible refine Gr.drew ?_)))) FL.out (Y1.out.giB (G56.out.trans (by repeat (first | with_reducible exact Gr.refl _ | with_reducible refine Gr.alloc _ ?_ | with_reducible refine Gr.xt _ _ ?_ | with_reducible refine Gr.drew ?_)))) (Y2.out.giI (G56.out.trans (by repeat (first | with_reducible exact Gr.refl _ | with_reducible refine Gr.alloc _ ?_ | with_reducible refine Gr.xt _ _ ?_ | with_reducible refine Gr.drew ?_)))) f3.out f4.out).mono ?_
  rw [show decide (RlsOk l (joinR rb ra)) = true by simp [JBA.out]]
  rintro e W7 ⟨rfl, hg⟩
  have G67 : Hid (Gr W6 W7) := Lib.hid (Gr.trans (by repeat (first | with_reducible exact Gr.refl _ | with_reducible refine Gr.alloc _ ?_ | with_reducible refine Gr.xt _ _ ?_ | with_reducible refine Gr.drew ?_)) hg)
  clear hg
  have E0 := Lib.hid (cell_gr G67.out e0)
  have E1 := Lib.hid (cell_gr G67.out e1)
  have E2 := Lib.hid (cell_gr G67.out e2)
  have E3 := Lib.hid (cell_gr G67.out e3)
  have E4 := Lib.hid (cell_gr G67.out e4)
  have E5 := Lib.hid (cell_gr G67.out e5)
  have E6 := Lib.hid (cell_gr G67.out e6)
  have E7 := Lib.hid (cell_gr G67.out e7)
  clear e0 e1 e2 e3 e4 e5 e6 e7 x5 x6 x7 x9 O1 O2 d1 d2
  go_wp2_with fail
  go_loopw [75] (fun i wr => ∃ k : Nat, k ≤ l.length ∧ i = .int .i64 k ∧ Gr W7 wr) (fun i _ => l.length - (intOf i).toNat)
  case atStart => exact ⟨0, Nat.zero_le _, rfl, Gr.refl _⟩
  case round =>
    obtain ⟨k, hk, rfl, hg⟩ := hrel
    have HG := Lib.hid hg
    clear hg
    by_cases hlt : k < l.length
    · have n1 := RA.out.2.1
      have n2 := RA.out.2.2.1
      have n3 := RB'.out.2.1
      have n4 := RB'.out.2.2.1
      have h1 : k < ra.on.length := by omega
      have h2 : k < ra.level.length := by omega
      have h3 : k < rb.on.length := by omega
      have h4 : k < rb.level.length := by omega
      have h5 : k < (joinR ra rb).on.length := by rw [joinR_on_len]; omega
      have h6 : k < (joinR ra rb).level.length := by rw [joinR_lv_len]; omega
      have h7 : k < (joinR rb ra).on.length := by rw [joinR_on_len]; omega
      have h8 : k < (joinR rb ra).level.length := by rw [joinR_lv_len]; omega
      clear n1 n2 n3 n4
      have e0 := cell_gr HG.out E0.out
      have e1 := cell_gr HG.out E1.out
      have e2 := cell_gr HG.out E2.out
      have e3 := cell_gr HG.out E3.out
      have e4 := cell_gr HG.out E4.out
      have e5 := cell_gr HG.out E5.out
      have e6 := cell_gr HG.out E6.out
      have e7 := cell_gr HG.out E7.out
      have x5 := has_of_cell e0
      have x6 := has_of_cell e2
      have x7 := has_of_cell e4
      have x9 := has_of_cell e6
      have gw := G67.out.trans HG.out
      obtain ⟨b1, o1, rfl, q1⟩ := (S1.out.giB (G36.out.trans gw)).one k h1
      obtain ⟨b2, o2, rfl, q2, _⟩ := (S2.out.giI (G36.out.trans gw)).one k h2
      obtain ⟨b3, o3, rfl, q3⟩ := (S3.out.giB (G36.out.trans gw)).one k h3
      obtain ⟨b4, o4, rfl, q4, _⟩ := (S4.out.giI (G36.out.trans gw)).one k h4
      obtain ⟨b5, o5, rfl, q5⟩ := (X1.out.giB (G46.out.trans gw)).one k h5
      obtain ⟨b6, o6, rfl, q6, _⟩ := (X2.out.giI (G46.out.trans gw)).one k h6
      obtain ⟨b7, o7, rfl, q7⟩ := (Y1.out.giB (G56.out.trans gw)).one k h7
      obtain ⟨b8, o8, rfl, q8, _⟩ := (Y2.out.giI (G56.out.trans gw)).one k h8
      clear gw
      unfold RB at q1 q3 q5 q7
      rw [← onAt_eq h1] at q1
      rw [← lvAt_eq h2] at q2
      rw [← onAt_eq h3] at q3
      rw [← lvAt_eq h4] at q4
      rw [← onAt_eq h5, joinR_on ra rb k h3] at q5
      rw [← lvAt_eq h6, joinR_lv ra rb k h4] at q6
      rw [← onAt_eq h7, joinR_on rb ra k h1] at q7
      rw [← lvAt_eq h8, joinR_lv rb ra k h2] at q8
      have z1 := has_of_cell q1
      have z2 := has_of_cell q2
      have z3 := has_of_cell q3
      have z4 := has_of_cell q4
      have z5 := has_of_cell q5
      have z6 := has_of_cell q6
      have z7 := has_of_cell q7
      have z8 := has_of_cell q8
      have g0 : (0 : Int) ≤ k := by omega
      have i1 : (k : Int) < ra.on.length := by omega
      have i2 : (k : Int) < ra.level.length := by omega
      have i3 : (k : Int) < rb.on.length := by omega
      have i4 : (k : Int) < rb.level.length := by omega
      have i5 : (k : Int) < (joinR ra rb).on.length := by omega
      have i6 : (k : Int) < (joinR ra rb).level.length := by omega
      have i7 : (k : Int) < (joinR rb ra).on.length := by omega
      have i8 : (k : Int) < (joinR rb ra).level.length := by omega
      obtain ⟨la, hla⟩ : ∃ la, lvAt ra k = la := ⟨_, rfl⟩
      obtain ⟨lb, hlb⟩ : ∃ lb, lvAt rb k = lb := ⟨_, rfl⟩
      obtain ⟨oa, hoa⟩ : ∃ oa, onAt ra k = oa := ⟨_, rfl⟩
      obtain ⟨ob, hob⟩ : ∃ ob, onAt rb k = ob := ⟨_, rfl⟩
      unfold jlv at q6 q8
      rw [hoa] at q1
      rw [hob] at q3
      rw [hla] at q2
      rw [hlb] at q4
      rw [hoa, hob] at q5
      rw [hob, hoa] at q7
      rw [hoa, hob, hla, hlb] at q6
      rw [hob, hoa, hlb, hla] at q8
      clear hla hlb hoa hob
      go_wp2_with fail
      refine wp_code_eq (c := Code.region 12 (regIn 12 Try.f4) true) (by kernel_rfl) ?_
      refine jn12 e0 e1 e2 e3 e4 e5 e6 e7 q1 q2 q3 q4 q5 q6 q7 q8 i1 i2 i3 i4 i5 i6 i7 i8 ?_
      intros
      rename_i O5 d5
      replace e0 := cell_gr ((Gr.refl wr).xt O5 d5) e0
      replace e1 := cell_gr ((Gr.refl wr).xt O5 d5) e1
      replace e2 := cell_gr ((Gr.refl wr).xt O5 d5) e2
      replace e3 := cell_gr ((Gr.refl wr).xt O5 d5) e3
      replace e4 := cell_gr ((Gr.refl wr).xt O5 d5) e4
      replace e5 := cell_gr ((Gr.refl wr).xt O5 d5) e5
      replace e6 := cell_gr ((Gr.refl wr).xt O5 d5) e6
      replace e7 := cell_gr ((Gr.refl wr).xt O5 d5) e7
      replace q1 := cell_gr ((Gr.refl wr).xt O5 d5) q1
      replace q2 := cell_gr ((Gr.refl wr).xt O5 d5) q2
      replace q3 := cell_gr ((Gr.refl wr).xt O5 d5) q3
      replace q4 := cell_gr ((Gr.refl wr).xt O5 d5) q4
      replace q5 := cell_gr ((Gr.refl wr).xt O5 d5) q5
      replace q6 := cell_gr ((Gr.refl wr).xt O5 d5) q6
      replace q7 := cell_gr ((Gr.refl wr).xt O5 d5) q7
      replace q8 := cell_gr ((Gr.refl wr).xt O5 d5) q8
      obtain ⟨W8, hW8⟩ : ∃ W8 : World, W8 = xt wr O5 d5 := ⟨_, rfl⟩
      have G8 : Hid (Gr wr W8) := Lib.hid (by rw [hW8]; exact (Gr.refl _).xt _ _)
      rw [← hW8] at e0 e1 e2 e3 e4 e5 e6 e7 q1 q2 q3 q4 q5 q6 q7 q8 ⊢
      clear hW8
      have E0' := Lib.hid e0
      have E1' := Lib.hid e1
      have E2' := Lib.hid e2
      have E3' := Lib.hid e3
      have E4' := Lib.hid e4
      have E5' := Lib.hid e5
      have E6' := Lib.hid e6
      have E7' := Lib.hid e7
      have Q1' := Lib.hid q1
      have Q2' := Lib.hid q2
      have Q3' := Lib.hid q3
      have Q4' := Lib.hid q4
      have Q5' := Lib.hid q5
      have Q6' := Lib.hid q6
      have Q7' := Lib.hid q7
      have Q8' := Lib.hid q8
      clear e0 e1 e2 e3 e4 e5 e6 e7 q1 q2 q3 q4 q5 q6 q7 q8 x5 x6 x7 x9 z1 z2 z3 z4 z5 z6 z7 z8
      go_wp2_with fail
      refine wp_code_eq (c := Code.region 14 (regIn 14 Try.f4) true) (by kernel_rfl) ?_
      refine jn14 E0'.out E1'.out E2'.out E3'.out E4'.out E5'.out E6'.out E7'.out Q1'.out Q2'.out Q3'.out Q4'.out Q5'.out Q6'.out Q7'.out Q8'.out i1 i2 i3 i4 i5 i6 i7 i8 ?_
      intros
      go_wp2_with fail
      go_roundw
      case rel => exact ⟨k + 1, by omega, by go_num, (HG.out.trans G8.out).xt _ _⟩
      case measure => simp [intOf]; omega
    · go_wp2_with fail
      refine (awake_any _).mono ?_
      rintro e w' ⟨rfl, hg⟩
      have HE := Lib.hid hg
      clear hg
      go_wp2_with fail
      go_ret
      exact ⟨rfl, GW3.out.trans (G36.out.trans (G67.out.trans (HG.out.trans HE.out)))⟩
end Go.Proofs.Ytoenkcojfogmmaa
