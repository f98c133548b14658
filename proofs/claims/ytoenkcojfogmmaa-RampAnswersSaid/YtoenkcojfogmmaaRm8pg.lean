/- Lemmas and contracts for the proof of RampAnswers (several texts in one, printed by wip/tools/pack.py): RqK RqL ZMk ZMkA. -/
import Derived.Test.YtoenkcojfogmmaaRm8pf
import Derived.Test.YtoenkcojfogmmaaRm8pe
set_option maxRecDepth 100000
set_option maxHeartbeats 16000000
set_option linter.unusedVariables false
set_option linter.unusedSimpArgs false
namespace Go.Proofs.Ytoenkcojfogmmaa
open Go.RowKit
open Classical
theorem pairZ {W : World} {Y : Nat} {ty : TypeId} {u v : Value} (r : Row W Y ty [u, v]) : W.cell? ⟨Y, 0, none⟩ = some u ∧ W.cell? ⟨Y, 1, none⟩ = some v ∧ Has W Y := ⟨r.cell 0 (by simp), r.cell 1 (by simp), r.has⟩
theorem refJoin_any (a b : Rls) (n : Nat) (a1 a2 a3 a4 : Option Addr) (c1 c2 c3 c4 : Nat) (w : World) (h1 : SlOf 1 RB w a1 a.on) (h2 : SlOf 1 RI w a2 a.level) (h3 : SlOf 1 RB w a3 b.on) (h4 : SlOf 1 RI w a4 b.level)
    (n1 : a.on.length = n) (n2 : a.level.length = n) (n3 : b.on.length = n) (n4 : b.level.length = n) (hn : n ≤ 16) :
    Calls Try.prog 54 #[.agg #[.slice a1 a.on.length c1, .slice a2 a.level.length c2], .agg #[.slice a3 b.on.length c3, .slice a4 b.level.length c4]] w (GivesRls w (joinR a b)) := by
  have H1 := Lib.hid h1
  have H2 := Lib.hid h2
  have H3 := Lib.hid h3
  have H4 := Lib.hid h4
  have CP := Lib.hid (fun W (hW : Gr w W) => refCopiedG_any b a3 a4 c3 c4 W (h3.giB hW) (h4.giI hW) (by omega) (by omega))
  clear h1 h2 h3 h4
  have N1 := Lib.hid n1
  have N2 := Lib.hid n2
  have N3 := Lib.hid n3
  have N4 := Lib.hid n4
  rw [n1, n2, n3, n4]
  rw [n3, n4] at CP
  clear n1 n2 n3 n4
  obtain ⟨W0, hW0⟩ : ∃ W0 : World, Hid (W0 = ((w.alloc (.cells #[.slice a1 n c1, .slice a2 n c2] 31)).alloc (.cells #[.slice a3 n c3, .slice a4 n c4] 31)).alloc (.cells #[.slice none 0 0, .slice none 0 0] 31)) := ⟨_, Lib.hid rfl⟩
  go_enter Try.func54, Try.ntmps54
  go_wp2_with fail
  rw [← hW0.out]
  have GW0 : Hid (Gr w W0) := Lib.hid (by rw [hW0.out]; exact (((Gr.refl _).alloc _).alloc _).alloc _)
  have s1 : (w.alloc (.cells #[.slice a1 n c1, .slice a2 n c2] 31)).heap.size = w.heap.size + 1 := by simp
  have s2 : ((w.alloc (.cells #[.slice a1 n c1, .slice a2 n c2] 31)).alloc (.cells #[.slice a3 n c3, .slice a4 n c4] 31)).heap.size = w.heap.size + 1 + 1 := by simp
  obtain ⟨N, hN⟩ : ∃ N : Nat, Hid (w.heap.size = N) := ⟨_, Lib.hid rfl⟩
  have RA : Hid (Row W0 N 31 [.slice a1 n c1, .slice a2 n c2]) := Lib.hid (by rw [hW0.out, ← hN.out]; exact ((Row.new _ _ _).alloc _).alloc _)
  have R1b : Hid (Row W0 (N + 1) 31 [.slice a3 n c3, .slice a4 n c4]) := Lib.hid (by rw [hW0.out, ← hN.out, ← s1]; exact (Row.new _ _ _).alloc _)
  have RZ : Hid (Row W0 (N + 1 + 1) 31 [.slice none 0 0, .slice none 0 0]) := Lib.hid (by rw [hW0.out, ← hN.out, ← s2]; exact Row.new _ _ _)
  have Z0 : Hid (W0.heap.size = N + 1 + 1 + 1) := Lib.hid (by rw [hW0.out, ← hN.out]; simp)
  rw [hN.out]
  clear s1 s2 hW0
  refine (CP.out W0 GW0.out).mono ?_
  rintro e w1 ⟨a5, c5, a6, c6, eE, hc5, hc6, o1, o2, hg1⟩
  rw [N3.out, N4.out] at eE
  obtain rfl := eE
  rw [N3.out] at hc5
  rw [N4.out] at hc6
  obtain ⟨W2, hW2⟩ : ∃ W2 : World, Hid (W2 = w1.alloc (.cells #[.slice a5 n c5, .slice a6 n c6] 31)) := ⟨_, Lib.hid rfl⟩
  obtain ⟨B2, hB2⟩ : ∃ B2 : Nat, Hid (w1.heap.size = B2) := ⟨_, Lib.hid rfl⟩
  have G12 : Hid (Gr w1 W2) := Lib.hid (by rw [hW2.out]; exact (Gr.refl _).alloc _)
  have R2 : Hid (Row W2 B2 31 [.slice a5 n c5, .slice a6 n c6]) := Lib.hid (by rw [hW2.out, ← hB2.out]; exact Row.new _ _ _)
  have G02 := Lib.hid (hg1.trans G12.out)
  have O1 := Lib.hid (o1.gr G12.out)
  have O2 := Lib.hid (o2.gr G12.out)
  clear o1 o2 hg1
  obtain ⟨e0, e1, eh0⟩ := pairZ (RA.out.gr G02.out)
  go_upto_region 2 with fail
  rw [← hW2.out, hB2.out]
  clear hW2
  go_wp2_with fail
  clear e0 e1 eh0
  go_loopw [12] (fun i wr => ∃ (k : Nat) (uo : List Bool) (ul : List Int), k ≤ n ∧ i = .int .i64 k ∧ Gr W0 wr ∧ Row wr B2 31 [.slice a5 n c5, .slice a6 n c6] ∧ Own1 W0.heap.size wr 4 (bools uo) a5 ∧ Own1 W0.heap.size wr 3 (nums ul) a6 ∧ JInv a b k uo ul) (fun i _ => n - (intOf i).toNat)
  case atStart => exact ⟨0, b.on, b.level, Nat.zero_le _, rfl, G02.out, R2.out, O1.out, O2.out, JInv.start a b⟩
  case round =>
    clear G02 R2 O1 O2
    obtain ⟨k, uo, ul, hk, rfl, hg, hr, p1, p2, hinv⟩ := hrel
    have HI := Lib.hid hinv
    have Gwr := Lib.hid hg
    by_cases hlt : k < n
    · have k1 : k < a.on.length := by have := N1.out; omega
      have k2 : k < a.level.length := by have := N2.out; omega
      have k3 : k < b.on.length := by have := N3.out; omega
      have k4 : k < b.level.length := by have := N4.out; omega
      have ku : k < uo.length := by have := HI.out.1; have := N3.out; omega
      have kl : k < ul.length := by have := HI.out.2.1; have := N4.out; omega
      obtain ⟨Bo, rfl, hBo, q1⟩ := p1.at (by simp [bools]; omega)
      obtain ⟨Bl, rfl, hBl, q2⟩ := p2.at (by simp [nums]; omega)
      have POwr := Lib.hid q1
      have PLwr := Lib.hid q2
      have Rwwr := Lib.hid hr
      obtain ⟨v1, w1', rfl, s1⟩ := (H1.out.giB GW0.out).one k k1
      obtain ⟨v2, w2', rfl, s2, s2w⟩ := (H2.out.giI GW0.out).one k k2
      obtain ⟨v3, w3', rfl, s3⟩ := (H3.out.giB GW0.out).one k k3
      obtain ⟨v4, w4', rfl, s4, s4w⟩ := (H4.out.giI GW0.out).one k k4
      unfold RB at s1 s3
      rw [← onAt_eq k1] at s1
      rw [← onAt_eq k3] at s3
      rw [← lvAt_eq k2] at s2
      rw [← lvAt_eq k4] at s4
      have S1 := Lib.hid s1
      have S2 := Lib.hid s2
      have S3 := Lib.hid s3
      have S4 := Lib.hid s4
      have UO := Lib.hid (HI.out.uoAt k3 ku)
      have UL := Lib.hid (HI.out.ulAt k4 kl)
      have HST := Lib.hid (HI.out.step k3 k4)
      have gk : (k : Int) < n := by omega
      clear hg hr p1 p2 hinv q1 q2 s1 s2 s3 s4 s2w s4w k1 k2 k3 k4
      rcases Bool.eq_false_or_eq_true (onAt a k) with ha | ha
      · rcases Bool.eq_false_or_eq_true (onAt b k) with hb | hb
        · by_cases hm : lvAt a k < lvAt b k
          · have _u := True.intro
            have hj : jlv a b k = lvAt b k := by simp only [jlv, ha, hb, if_true]; rw [if_pos hm]
            have HJ := Lib.hid hj
            have HA := Lib.hid ha
            have HB := Lib.hid hb
            clear hj
            obtain ⟨e0, e1, eh0⟩ := pairZ (RA.out.gr Gwr.out)
            obtain ⟨e2, e3, eh1⟩ := pairZ (R1b.out.gr Gwr.out)
            obtain ⟨b0, b1, bh⟩ := pairZ Rwwr.out
            have s1 : wr.cell? ⟨v1, w1' + k, none⟩ = some (.bool (onAt a k)) := cell_gr Gwr.out S1.out
            have s2 : wr.cell? ⟨v2, w2' + k, none⟩ = some (.int .i64 (lvAt a k)) := cell_gr Gwr.out S2.out
            have s3 : wr.cell? ⟨v3, w3' + k, none⟩ = some (.bool (onAt b k)) := cell_gr Gwr.out S3.out
            have s4 : wr.cell? ⟨v4, w4' + k, none⟩ = some (.int .i64 (lvAt b k)) := cell_gr Gwr.out S4.out
            have y1 := has_of_cell s1
            have y2 := has_of_cell s2
            have y3 := has_of_cell s3
            have y4 := has_of_cell s4
            have z1 := POwr.out.has
            have z2 := PLwr.out.has
            have z3 := POwr.out.free k
            have z4 := PLwr.out.free k
            have z5 := True.intro
            have z6 := True.intro
            rw [ha] at s1
            rw [hb] at s3
            go_wp2_with fail
            refine wp_region_grows_tail 15 (by kernel_rfl) (by kernel_rfl) ?_
            simp only [List.take_succ_cons, List.take_zero, List.drop_succ_cons, List.drop_zero]
            repeat (go_big_quiet_step (fail))
            refine wpQuiet_nil ?_
            rintro _ ⟨⟨O, d⟩, rfl⟩
            obtain ⟨W3x, hW3x⟩ : ∃ W : World, Hid (W = xt wr O d) := ⟨_, Lib.hid rfl⟩
            show wpList _ _ _ _ _ (xt wr O d)
            rw [← hW3x.out]
            have ggW3 : Hid (Gr wr W3x) := Lib.hid (by rw [hW3x.out]; exact (Gr.refl _).xt O d)
            have GW3x := Lib.hid (Gwr.out.trans ggW3.out)
            have RwW3x := Lib.hid (Rwwr.out.gr ggW3.out)
            have POW3x := Lib.hid (POwr.out.gr ggW3.out)
            have PLW3x := Lib.hid (PLwr.out.gr ggW3.out)
            clear hW3x e0 e1 e2 e3 eh0 eh1 b0 b1 bh s1 s2 s3 s4 y1 y2 y3 y4 z1 z2 z3 z4 z5 z6
            have z6 := PLW3x.out.iat k kl
            have z4 := PLW3x.out.free k
            have z2 := PLW3x.out.has
            obtain ⟨W3, hW3⟩ : ∃ W : World, Hid (W = W3x.setCell ⟨Bl, k, none⟩ (.int .i64 (lvAt b k))) := ⟨_, Lib.hid rfl⟩
            have GW3 : Hid (Gr W0 W3) := Lib.hid (by rw [hW3.out]; exact GW3x.out.setc hBl)
            have RwW3 : Hid (Row W3 B2 31 [.slice (some ⟨Bo, 0, none⟩) n c5, .slice (some ⟨Bl, 0, none⟩) n c6]) := Lib.hid (by rw [hW3.out]; exact RwW3x.out.oth (fun e => (RwW3x.out.s.apart PLW3x.out (by decide)) e.symm))
            have POW3 : Hid (RowS W3 Bo 4 (bools uo)) := Lib.hid (by rw [hW3.out]; exact POW3x.out.oth (fun e => (POW3x.out.apart PLW3x.out (by decide)) e.symm))
            have PLW3 : Hid (RowS W3 Bl 3 (nums (ul.set k (lvAt b k)))) := Lib.hid (by rw [hW3.out]; exact PLW3x.out.iset k kl _)
            go_upto_region 9 with fail
            rw [← hW3.out]
            clear z6 z4 z2
            obtain ⟨e0, e1, eh0⟩ := pairZ (RA.out.gr GW3.out)
            obtain ⟨e2, e3, eh1⟩ := pairZ (R1b.out.gr GW3.out)
            obtain ⟨b0, b1, bh⟩ := pairZ RwW3.out
            have s1 : W3.cell? ⟨v1, w1' + k, none⟩ = some (.bool (onAt a k)) := cell_gr GW3.out S1.out
            have s2 : W3.cell? ⟨v2, w2' + k, none⟩ = some (.int .i64 (lvAt a k)) := cell_gr GW3.out S2.out
            have s3 : W3.cell? ⟨v3, w3' + k, none⟩ = some (.bool (onAt b k)) := cell_gr GW3.out S3.out
            have s4 : W3.cell? ⟨v4, w4' + k, none⟩ = some (.int .i64 (lvAt b k)) := cell_gr GW3.out S4.out
            have y1 := has_of_cell s1
            have y2 := has_of_cell s2
            have y3 := has_of_cell s3
            have y4 := has_of_cell s4
            have z1 := POW3.out.has
            have z2 := PLW3.out.has
            have z3 := POW3.out.free k
            have z4 := PLW3.out.free k
            have z5 := True.intro
            have z6 := True.intro
            rw [ha] at s1
            rw [hb] at s3
            go_wp2_with fail
            refine wp_region_grows_tail 16 (by kernel_rfl) (by kernel_rfl) ?_
            simp only [List.take_succ_cons, List.take_zero, List.drop_succ_cons, List.drop_zero]
            repeat (go_big_quiet_step (fail))
            refine wpQuiet_nil ?_
            rintro _ ⟨⟨O, d⟩, rfl⟩
            obtain ⟨W4x, hW4x⟩ : ∃ W : World, Hid (W = xt W3 O d) := ⟨_, Lib.hid rfl⟩
            show wpList _ _ _ _ _ (xt W3 O d)
            rw [← hW4x.out]
            have ggW4 : Hid (Gr W3 W4x) := Lib.hid (by rw [hW4x.out]; exact (Gr.refl _).xt O d)
            have GW4x := Lib.hid (GW3.out.trans ggW4.out)
            have RwW4x := Lib.hid (RwW3.out.gr ggW4.out)
            have POW4x := Lib.hid (POW3.out.gr ggW4.out)
            have PLW4x := Lib.hid (PLW3.out.gr ggW4.out)
            clear hW4x e0 e1 e2 e3 eh0 eh1 b0 b1 bh s1 s2 s3 s4 y1 y2 y3 y4 z1 z2 z3 z4 z5 z6
            have z5 := POW4x.out.bat k ku
            have z4 := POW4x.out.free k
            have z2 := POW4x.out.has
            obtain ⟨W4, hW4⟩ : ∃ W : World, Hid (W = W4x.setCell ⟨Bo, k, none⟩ (.bool true)) := ⟨_, Lib.hid rfl⟩
            have GW4 : Hid (Gr W0 W4) := Lib.hid (by rw [hW4.out]; exact GW4x.out.setc hBo)
            have RwW4 : Hid (Row W4 B2 31 [.slice (some ⟨Bo, 0, none⟩) n c5, .slice (some ⟨Bl, 0, none⟩) n c6]) := Lib.hid (by rw [hW4.out]; exact RwW4x.out.oth (fun e => (RwW4x.out.s.apart POW4x.out (by decide)) e.symm))
            have POW4 : Hid (RowS W4 Bo 4 (bools (uo.set k true))) := Lib.hid (by rw [hW4.out]; exact POW4x.out.bset k ku _)
            have PLW4 : Hid (RowS W4 Bl 3 (nums (ul.set k (lvAt b k)))) := Lib.hid (by rw [hW4.out]; exact PLW4x.out.oth (fun e => (POW4x.out.apart PLW4x.out (by decide)) e))
            go_wp2_with fail
            rw [← hW4.out]
            go_roundw
            case rel =>
              refine ⟨k + 1, uo.set k true, (ul.set k (lvAt b k)), by omega, by go_num, GW4.out, RwW4.out, .inr ⟨Bo, rfl, hBo, POW4.out⟩, .inr ⟨Bl, rfl, hBl, PLW4.out⟩, ?_⟩
              have := HST.out
              rwa [HJ.out, show (onAt a k || onAt b k) = true from by rw [HA.out, HB.out]; rfl] at this
            case measure => simp [intOf]; omega
          · have _u := True.intro
            have hj : jlv a b k = lvAt a k := by simp only [jlv, ha, hb, if_true]; rw [if_neg hm]
            have HJ := Lib.hid hj
            have HA := Lib.hid ha
            have HB := Lib.hid hb
            clear hj
            obtain ⟨e0, e1, eh0⟩ := pairZ (RA.out.gr Gwr.out)
            obtain ⟨e2, e3, eh1⟩ := pairZ (R1b.out.gr Gwr.out)
            obtain ⟨b0, b1, bh⟩ := pairZ Rwwr.out
            have s1 : wr.cell? ⟨v1, w1' + k, none⟩ = some (.bool (onAt a k)) := cell_gr Gwr.out S1.out
            have s2 : wr.cell? ⟨v2, w2' + k, none⟩ = some (.int .i64 (lvAt a k)) := cell_gr Gwr.out S2.out
            have s3 : wr.cell? ⟨v3, w3' + k, none⟩ = some (.bool (onAt b k)) := cell_gr Gwr.out S3.out
            have s4 : wr.cell? ⟨v4, w4' + k, none⟩ = some (.int .i64 (lvAt b k)) := cell_gr Gwr.out S4.out
            have y1 := has_of_cell s1
            have y2 := has_of_cell s2
            have y3 := has_of_cell s3
            have y4 := has_of_cell s4
            have z1 := POwr.out.has
            have z2 := PLwr.out.has
            have z3 := POwr.out.free k
            have z4 := PLwr.out.free k
            have z5 := True.intro
            have z6 := True.intro
            rw [ha] at s1
            rw [hb] at s3
            go_wp2_with fail
            refine wp_region_grows_tail 15 (by kernel_rfl) (by kernel_rfl) ?_
            simp only [List.take_succ_cons, List.take_zero, List.drop_succ_cons, List.drop_zero]
            repeat (go_big_quiet_step (fail))
            refine wpQuiet_nil ?_
            rintro _ ⟨⟨O, d⟩, rfl⟩
            obtain ⟨W3x, hW3x⟩ : ∃ W : World, Hid (W = xt wr O d) := ⟨_, Lib.hid rfl⟩
            show wpList _ _ _ _ _ (xt wr O d)
            rw [← hW3x.out]
            have ggW3 : Hid (Gr wr W3x) := Lib.hid (by rw [hW3x.out]; exact (Gr.refl _).xt O d)
            have GW3x := Lib.hid (Gwr.out.trans ggW3.out)
            have RwW3x := Lib.hid (Rwwr.out.gr ggW3.out)
            have POW3x := Lib.hid (POwr.out.gr ggW3.out)
            have PLW3x := Lib.hid (PLwr.out.gr ggW3.out)
            clear hW3x e0 e1 e2 e3 eh0 eh1 b0 b1 bh s1 s2 s3 s4 y1 y2 y3 y4 z1 z2 z3 z4 z5 z6
            have z6 := PLW3x.out.iat k kl
            have z4 := PLW3x.out.free k
            have z2 := PLW3x.out.has
            obtain ⟨W3, hW3⟩ : ∃ W : World, Hid (W = W3x.setCell ⟨Bl, k, none⟩ (.int .i64 (lvAt a k))) := ⟨_, Lib.hid rfl⟩
            have GW3 : Hid (Gr W0 W3) := Lib.hid (by rw [hW3.out]; exact GW3x.out.setc hBl)
            have RwW3 : Hid (Row W3 B2 31 [.slice (some ⟨Bo, 0, none⟩) n c5, .slice (some ⟨Bl, 0, none⟩) n c6]) := Lib.hid (by rw [hW3.out]; exact RwW3x.out.oth (fun e => (RwW3x.out.s.apart PLW3x.out (by decide)) e.symm))
            have POW3 : Hid (RowS W3 Bo 4 (bools uo)) := Lib.hid (by rw [hW3.out]; exact POW3x.out.oth (fun e => (POW3x.out.apart PLW3x.out (by decide)) e.symm))
            have PLW3 : Hid (RowS W3 Bl 3 (nums (ul.set k (lvAt a k)))) := Lib.hid (by rw [hW3.out]; exact PLW3x.out.iset k kl _)
            go_upto_region 9 with fail
            rw [← hW3.out]
            clear z6 z4 z2
            obtain ⟨e0, e1, eh0⟩ := pairZ (RA.out.gr GW3.out)
            obtain ⟨e2, e3, eh1⟩ := pairZ (R1b.out.gr GW3.out)
            obtain ⟨b0, b1, bh⟩ := pairZ RwW3.out
            have s1 : W3.cell? ⟨v1, w1' + k, none⟩ = some (.bool (onAt a k)) := cell_gr GW3.out S1.out
            have s2 : W3.cell? ⟨v2, w2' + k, none⟩ = some (.int .i64 (lvAt a k)) := cell_gr GW3.out S2.out
            have s3 : W3.cell? ⟨v3, w3' + k, none⟩ = some (.bool (onAt b k)) := cell_gr GW3.out S3.out
            have s4 : W3.cell? ⟨v4, w4' + k, none⟩ = some (.int .i64 (lvAt b k)) := cell_gr GW3.out S4.out
            have y1 := has_of_cell s1
            have y2 := has_of_cell s2
            have y3 := has_of_cell s3
            have y4 := has_of_cell s4
            have z1 := POW3.out.has
            have z2 := PLW3.out.has
            have z3 := POW3.out.free k
            have z4 := PLW3.out.free k
            have z5 := True.intro
            have z6 := True.intro
            rw [ha] at s1
            rw [hb] at s3
            go_wp2_with fail
            refine wp_region_grows_tail 16 (by kernel_rfl) (by kernel_rfl) ?_
            simp only [List.take_succ_cons, List.take_zero, List.drop_succ_cons, List.drop_zero]
            repeat (go_big_quiet_step (fail))
            refine wpQuiet_nil ?_
            rintro _ ⟨⟨O, d⟩, rfl⟩
            obtain ⟨W4x, hW4x⟩ : ∃ W : World, Hid (W = xt W3 O d) := ⟨_, Lib.hid rfl⟩
            show wpList _ _ _ _ _ (xt W3 O d)
            rw [← hW4x.out]
            have ggW4 : Hid (Gr W3 W4x) := Lib.hid (by rw [hW4x.out]; exact (Gr.refl _).xt O d)
            have GW4x := Lib.hid (GW3.out.trans ggW4.out)
            have RwW4x := Lib.hid (RwW3.out.gr ggW4.out)
            have POW4x := Lib.hid (POW3.out.gr ggW4.out)
            have PLW4x := Lib.hid (PLW3.out.gr ggW4.out)
            clear hW4x e0 e1 e2 e3 eh0 eh1 b0 b1 bh s1 s2 s3 s4 y1 y2 y3 y4 z1 z2 z3 z4 z5 z6
            have z5 := POW4x.out.bat k ku
            have z4 := POW4x.out.free k
            have z2 := POW4x.out.has
            obtain ⟨W4, hW4⟩ : ∃ W : World, Hid (W = W4x.setCell ⟨Bo, k, none⟩ (.bool true)) := ⟨_, Lib.hid rfl⟩
            have GW4 : Hid (Gr W0 W4) := Lib.hid (by rw [hW4.out]; exact GW4x.out.setc hBo)
            have RwW4 : Hid (Row W4 B2 31 [.slice (some ⟨Bo, 0, none⟩) n c5, .slice (some ⟨Bl, 0, none⟩) n c6]) := Lib.hid (by rw [hW4.out]; exact RwW4x.out.oth (fun e => (RwW4x.out.s.apart POW4x.out (by decide)) e.symm))
            have POW4 : Hid (RowS W4 Bo 4 (bools (uo.set k true))) := Lib.hid (by rw [hW4.out]; exact POW4x.out.bset k ku _)
            have PLW4 : Hid (RowS W4 Bl 3 (nums (ul.set k (lvAt a k)))) := Lib.hid (by rw [hW4.out]; exact PLW4x.out.oth (fun e => (POW4x.out.apart PLW4x.out (by decide)) e))
            go_wp2_with fail
            rw [← hW4.out]
            go_roundw
            case rel =>
              refine ⟨k + 1, uo.set k true, (ul.set k (lvAt a k)), by omega, by go_num, GW4.out, RwW4.out, .inr ⟨Bo, rfl, hBo, POW4.out⟩, .inr ⟨Bl, rfl, hBl, PLW4.out⟩, ?_⟩
              have := HST.out
              rwa [HJ.out, show (onAt a k || onAt b k) = true from by rw [HA.out, HB.out]; rfl] at this
            case measure => simp [intOf]; omega
        · have _u := True.intro
          have hj : jlv a b k = lvAt a k := by simp [jlv, ha, hb]
          have HJ := Lib.hid hj
          have HA := Lib.hid ha
          have HB := Lib.hid hb
          clear hj
          obtain ⟨e0, e1, eh0⟩ := pairZ (RA.out.gr Gwr.out)
          obtain ⟨e2, e3, eh1⟩ := pairZ (R1b.out.gr Gwr.out)
          obtain ⟨b0, b1, bh⟩ := pairZ Rwwr.out
          have s1 : wr.cell? ⟨v1, w1' + k, none⟩ = some (.bool (onAt a k)) := cell_gr Gwr.out S1.out
          have s2 : wr.cell? ⟨v2, w2' + k, none⟩ = some (.int .i64 (lvAt a k)) := cell_gr Gwr.out S2.out
          have s3 : wr.cell? ⟨v3, w3' + k, none⟩ = some (.bool (onAt b k)) := cell_gr Gwr.out S3.out
          have s4 : wr.cell? ⟨v4, w4' + k, none⟩ = some (.int .i64 (lvAt b k)) := cell_gr Gwr.out S4.out
          have y1 := has_of_cell s1
          have y2 := has_of_cell s2
          have y3 := has_of_cell s3
          have y4 := has_of_cell s4
          have z1 := POwr.out.has
          have z2 := PLwr.out.has
          have z3 := POwr.out.free k
          have z4 := PLwr.out.free k
          have z5 := True.intro
          have z6 := True.intro
          rw [ha] at s1
          rw [hb] at s3
          go_wp2_with fail
          refine wp_region_grows_tail 9 (by kernel_rfl) (by kernel_rfl) ?_
          simp only [List.take_succ_cons, List.take_zero, List.drop_succ_cons, List.drop_zero]
          repeat (go_big_quiet_step (fail))
          refine wpQuiet_nil ?_
          rintro _ ⟨⟨O, d⟩, rfl⟩
          obtain ⟨W3x, hW3x⟩ : ∃ W : World, Hid (W = xt wr O d) := ⟨_, Lib.hid rfl⟩
          show wpList _ _ _ _ _ (xt wr O d)
          rw [← hW3x.out]
          have ggW3 : Hid (Gr wr W3x) := Lib.hid (by rw [hW3x.out]; exact (Gr.refl _).xt O d)
          have GW3x := Lib.hid (Gwr.out.trans ggW3.out)
          have RwW3x := Lib.hid (Rwwr.out.gr ggW3.out)
          have POW3x := Lib.hid (POwr.out.gr ggW3.out)
          have PLW3x := Lib.hid (PLwr.out.gr ggW3.out)
          clear hW3x e0 e1 e2 e3 eh0 eh1 b0 b1 bh s1 s2 s3 s4 y1 y2 y3 y4 z1 z2 z3 z4 z5 z6
          have z6 := PLW3x.out.iat k kl
          have z4 := PLW3x.out.free k
          have z2 := PLW3x.out.has
          obtain ⟨W3, hW3⟩ : ∃ W : World, Hid (W = W3x.setCell ⟨Bl, k, none⟩ (.int .i64 (lvAt a k))) := ⟨_, Lib.hid rfl⟩
          have GW3 : Hid (Gr W0 W3) := Lib.hid (by rw [hW3.out]; exact GW3x.out.setc hBl)
          have RwW3 : Hid (Row W3 B2 31 [.slice (some ⟨Bo, 0, none⟩) n c5, .slice (some ⟨Bl, 0, none⟩) n c6]) := Lib.hid (by rw [hW3.out]; exact RwW3x.out.oth (fun e => (RwW3x.out.s.apart PLW3x.out (by decide)) e.symm))
          have POW3 : Hid (RowS W3 Bo 4 (bools uo)) := Lib.hid (by rw [hW3.out]; exact POW3x.out.oth (fun e => (POW3x.out.apart PLW3x.out (by decide)) e.symm))
          have PLW3 : Hid (RowS W3 Bl 3 (nums (ul.set k (lvAt a k)))) := Lib.hid (by rw [hW3.out]; exact PLW3x.out.iset k kl _)
          go_upto_region 9 with fail
          rw [← hW3.out]
          clear z6 z4 z2
          obtain ⟨e0, e1, eh0⟩ := pairZ (RA.out.gr GW3.out)
          obtain ⟨e2, e3, eh1⟩ := pairZ (R1b.out.gr GW3.out)
          obtain ⟨b0, b1, bh⟩ := pairZ RwW3.out
          have s1 : W3.cell? ⟨v1, w1' + k, none⟩ = some (.bool (onAt a k)) := cell_gr GW3.out S1.out
          have s2 : W3.cell? ⟨v2, w2' + k, none⟩ = some (.int .i64 (lvAt a k)) := cell_gr GW3.out S2.out
          have s3 : W3.cell? ⟨v3, w3' + k, none⟩ = some (.bool (onAt b k)) := cell_gr GW3.out S3.out
          have s4 : W3.cell? ⟨v4, w4' + k, none⟩ = some (.int .i64 (lvAt b k)) := cell_gr GW3.out S4.out
          have y1 := has_of_cell s1
          have y2 := has_of_cell s2
          have y3 := has_of_cell s3
          have y4 := has_of_cell s4
          have z1 := POW3.out.has
          have z2 := PLW3.out.has
          have z3 := POW3.out.free k
          have z4 := PLW3.out.free k
          have z5 := True.intro
          have z6 := True.intro
          rw [ha] at s1
          rw [hb] at s3
          go_wp2_with fail
          refine wp_region_grows_tail 16 (by kernel_rfl) (by kernel_rfl) ?_
          simp only [List.take_succ_cons, List.take_zero, List.drop_succ_cons, List.drop_zero]
          repeat (go_big_quiet_step (fail))
          refine wpQuiet_nil ?_
          rintro _ ⟨⟨O, d⟩, rfl⟩
          obtain ⟨W4x, hW4x⟩ : ∃ W : World, Hid (W = xt W3 O d) := ⟨_, Lib.hid rfl⟩
          show wpList _ _ _ _ _ (xt W3 O d)
          rw [← hW4x.out]
          have ggW4 : Hid (Gr W3 W4x) := Lib.hid (by rw [hW4x.out]; exact (Gr.refl _).xt O d)
          have GW4x := Lib.hid (GW3.out.trans ggW4.out)
          have RwW4x := Lib.hid (RwW3.out.gr ggW4.out)
          have POW4x := Lib.hid (POW3.out.gr ggW4.out)
          have PLW4x := Lib.hid (PLW3.out.gr ggW4.out)
          clear hW4x e0 e1 e2 e3 eh0 eh1 b0 b1 bh s1 s2 s3 s4 y1 y2 y3 y4 z1 z2 z3 z4 z5 z6
          have z5 := POW4x.out.bat k ku
          have z4 := POW4x.out.free k
          have z2 := POW4x.out.has
          obtain ⟨W4, hW4⟩ : ∃ W : World, Hid (W = W4x.setCell ⟨Bo, k, none⟩ (.bool true)) := ⟨_, Lib.hid rfl⟩
          have GW4 : Hid (Gr W0 W4) := Lib.hid (by rw [hW4.out]; exact GW4x.out.setc hBo)
          have RwW4 : Hid (Row W4 B2 31 [.slice (some ⟨Bo, 0, none⟩) n c5, .slice (some ⟨Bl, 0, none⟩) n c6]) := Lib.hid (by rw [hW4.out]; exact RwW4x.out.oth (fun e => (RwW4x.out.s.apart POW4x.out (by decide)) e.symm))
          have POW4 : Hid (RowS W4 Bo 4 (bools (uo.set k true))) := Lib.hid (by rw [hW4.out]; exact POW4x.out.bset k ku _)
          have PLW4 : Hid (RowS W4 Bl 3 (nums (ul.set k (lvAt a k)))) := Lib.hid (by rw [hW4.out]; exact PLW4x.out.oth (fun e => (POW4x.out.apart PLW4x.out (by decide)) e))
          go_wp2_with fail
          rw [← hW4.out]
          go_roundw
          case rel =>
            refine ⟨k + 1, uo.set k true, (ul.set k (lvAt a k)), by omega, by go_num, GW4.out, RwW4.out, .inr ⟨Bo, rfl, hBo, POW4.out⟩, .inr ⟨Bl, rfl, hBl, PLW4.out⟩, ?_⟩
            have := HST.out
            rwa [HJ.out, show (onAt a k || onAt b k) = true from by rw [HA.out]; rfl] at this
          case measure => simp [intOf]; omega
      · have _u := True.intro
        have hj : jlv a b k = lvAt b k := by simp [jlv, ha]
        have HJ := Lib.hid hj
        have HA := Lib.hid ha
        skip
        clear hj
        obtain ⟨e0, e1, eh0⟩ := pairZ (RA.out.gr Gwr.out)
        obtain ⟨e2, e3, eh1⟩ := pairZ (R1b.out.gr Gwr.out)
        obtain ⟨b0, b1, bh⟩ := pairZ Rwwr.out
        have s1 : wr.cell? ⟨v1, w1' + k, none⟩ = some (.bool (onAt a k)) := cell_gr Gwr.out S1.out
        have s2 : wr.cell? ⟨v2, w2' + k, none⟩ = some (.int .i64 (lvAt a k)) := cell_gr Gwr.out S2.out
        have s3 : wr.cell? ⟨v3, w3' + k, none⟩ = some (.bool (onAt b k)) := cell_gr Gwr.out S3.out
        have s4 : wr.cell? ⟨v4, w4' + k, none⟩ = some (.int .i64 (lvAt b k)) := cell_gr Gwr.out S4.out
        have y1 := has_of_cell s1
        have y2 := has_of_cell s2
        have y3 := has_of_cell s3
        have y4 := has_of_cell s4
        have z1 := POwr.out.has
        have z2 := PLwr.out.has
        have z3 := POwr.out.free k
        have z4 := PLwr.out.free k
        have z5 := True.intro
        have z6 := True.intro
        rw [ha] at s1
        go_wp2_with fail
        refine wp_region_grows_tail 16 (by kernel_rfl) (by kernel_rfl) ?_
        simp only [List.take_succ_cons, List.take_zero, List.drop_succ_cons, List.drop_zero]
        repeat (go_big_quiet_step (fail))
        refine wpQuiet_nil ?_
        rintro _ ⟨⟨O, d⟩, rfl⟩
        obtain ⟨W4x, hW4x⟩ : ∃ W : World, Hid (W = xt wr O d) := ⟨_, Lib.hid rfl⟩
        show wpList _ _ _ _ _ (xt wr O d)
        rw [← hW4x.out]
        have ggW4 : Hid (Gr wr W4x) := Lib.hid (by rw [hW4x.out]; exact (Gr.refl _).xt O d)
        have GW4x := Lib.hid (Gwr.out.trans ggW4.out)
        have RwW4x := Lib.hid (Rwwr.out.gr ggW4.out)
        have POW4x := Lib.hid (POwr.out.gr ggW4.out)
        have PLW4x := Lib.hid (PLwr.out.gr ggW4.out)
        clear hW4x e0 e1 e2 e3 eh0 eh1 b0 b1 bh s1 s2 s3 s4 y1 y2 y3 y4 z1 z2 z3 z4 z5 z6
        have z5 := POW4x.out.bat k ku
        have z4 := POW4x.out.free k
        have z2 := POW4x.out.has
        obtain ⟨W4, hW4⟩ : ∃ W : World, Hid (W = W4x.setCell ⟨Bo, k, none⟩ (.bool (onAt b k))) := ⟨_, Lib.hid rfl⟩
        have GW4 : Hid (Gr W0 W4) := Lib.hid (by rw [hW4.out]; exact GW4x.out.setc hBo)
        have RwW4 : Hid (Row W4 B2 31 [.slice (some ⟨Bo, 0, none⟩) n c5, .slice (some ⟨Bl, 0, none⟩) n c6]) := Lib.hid (by rw [hW4.out]; exact RwW4x.out.oth (fun e => (RwW4x.out.s.apart POW4x.out (by decide)) e.symm))
        have POW4 : Hid (RowS W4 Bo 4 (bools (uo.set k (onAt b k)))) := Lib.hid (by rw [hW4.out]; exact POW4x.out.bset k ku _)
        have PLW4 : Hid (RowS W4 Bl 3 (nums ul)) := Lib.hid (by rw [hW4.out]; exact PLW4x.out.oth (fun e => (POW4x.out.apart PLW4x.out (by decide)) e))
        go_wp2_with fail
        rw [← hW4.out]
        go_roundw
        case rel =>
          refine ⟨k + 1, uo.set k (onAt b k), ul, by omega, by go_num, GW4.out, RwW4.out, .inr ⟨Bo, rfl, hBo, POW4.out⟩, .inr ⟨Bl, rfl, hBl, PLW4.out⟩, ?_⟩
          have := HST.out
          rwa [HJ.out, HA.out, Bool.false_or, set_same ul k kl _ UL.out] at this
        case measure => simp [intOf]; omega
    · obtain rfl : k = n := by omega
      obtain ⟨d1, d2⟩ := HI.out.done (by have := N3.out; omega) (by have := N4.out; omega)
      obtain ⟨b0, b1, bh⟩ := pairZ hr
      have r := RZ.out.gr hg
      have r0 := r.cell 0 (by simp)
      have r1 := r.cell 1 (by simp)
      have r2 := r.free 0
      have r3 := r.free 1
      have r4 := r.has
      simp only [List.getElem_cons_zero, List.getElem_cons_succ] at r0 r1
      have D1 := Lib.hid d1
      have D2 := Lib.hid d2
      have GN : w.heap.size ≤ N + 1 + 1 := by have := hN.out; omega
      have LO : N + 1 + 1 < W0.heap.size := by have := Z0.out; omega
      rw [d1] at p1
      rw [d2] at p2
      have P1 := Lib.hid (((p1.oth (o := 0) (v := .slice a5 k c5) LO).oth (o := 1) (v := .slice a6 k c6) LO).low GW0.out.size)
      have P2 := Lib.hid (((p2.oth (o := 0) (v := .slice a5 k c5) LO).oth (o := 1) (v := .slice a6 k c6) LO).low GW0.out.size)
      have GE := Lib.hid (((GW0.out.trans hg).setc (o := 0) (v := .slice a5 k c5) GN).setc (o := 1) (v := .slice a6 k c6) GN)
      have L1 : Hid ((joinR a b).on.length = k) := Lib.hid (by rw [joinR_on_len]; exact N3.out)
      have L2 : Hid ((joinR a b).level.length = k) := Lib.hid (by rw [joinR_lv_len]; exact N4.out)
      clear d1 d2 hg hr p1 p2 hinv r GN LO
      go_wp2_with fail
      refine bodyPost_ret (v := .agg #[.slice a5 k c5, .slice a6 k c6]) ?_ rfl ?_
      · simp [results, Try.results54, go_sem, r0, r1]
      · exact ⟨a5, c5, a6, c6, by rw [L1.out, L2.out], by rw [L1.out]; exact hc5, by rw [L2.out]; exact hc6, P1.out, P2.out, GE.out⟩
theorem begR_two {l : List Sup} {a b : Rls} (hc : chk l = 0) : begR l [a, b] = if RlsOk l a ∧ RlsOk l b then 0 else 1 := by
  rw [begR, if_pos hc]
  by_cases h : RlsOk l a ∧ RlsOk l b
  · rw [if_pos h, if_neg]
    rintro ⟨k, hk, q⟩
    have hk2 : k < 2 := hk
    obtain rfl | rfl : k = 0 ∨ k = 1 := by omega
    · exact q h.1
    · exact q h.2
  · rw [if_neg h, if_pos]
    by_cases ha : RlsOk l a
    · exact ⟨1, by simp, fun q => h ⟨ha, q⟩⟩
    · exact ⟨0, by simp, ha⟩
theorem boxZ {W : World} {Y : Nat} {ty : TypeId} {u v : Value} (r : Row W Y ty [u, v]) : W.cell? ⟨Y, 0, none⟩ = some u ∧ W.cell? ⟨Y, 1, none⟩ = some v ∧ Has W Y ∧ W.frozen? ⟨Y, 0, none⟩ = false ∧ W.frozen? ⟨Y, 1, none⟩ = false := ⟨r.cell 0 (by simp), r.cell 1 (by simp), r.has, r.free 0, r.free 1⟩
theorem refBigJoin_any (l : List Sup) (a b : Rls) (ao a1 a2 a3 a4 : Option Addr) (cap c1 c2 c3 c4 : Nat) (w : World) (h : SlOf 5 RSup w ao l) (hf : Fit l.length) (h1 : SlOf 1 RB w a1 a.on) (h2 : SlOf 1 RI w a2 a.level) (h3 : SlOf 1 RB w a3 b.on) (h4 : SlOf 1 RI w a4 b.level)
    (f1 : Fit a.on.length) (f2 : Fit a.level.length) (f3 : Fit b.on.length) (f4 : Fit b.level.length) :
    Calls Try.prog 25 #[.slice ao l.length cap, .agg #[.slice a1 a.on.length c1, .slice a2 a.level.length c2], .agg #[.slice a3 b.on.length c3, .slice a4 b.level.length c4]] w (GivesR w (joinP l a b) (begR l [a, b])) := by
  have CH := Lib.hid (fun W (hW : Gr w W) => refCheck_anyZ l ao cap W (sups_gr h hW) hf)
  have R1 := Lib.hid (fun W (hW : Gr w W) => refRails_any l a ao a1 a2 cap c1 c2 W (sups_gr h hW) hf (h1.giB hW) (h2.giI hW) f1 f2)
  have R2 := Lib.hid (fun W (hW : Gr w W) => refRails_any l b ao a3 a4 cap c3 c4 W (sups_gr h hW) hf (h3.giB hW) (h4.giI hW) f3 f4)
  have JN := Lib.hid (fun (ra : RlsOk l a) (rb : RlsOk l b) W (hW : Gr w W) => refJoin_any a b l.length a1 a2 a3 a4 c1 c2 c3 c4 W (h1.giB hW) (h2.giI hW) (h3.giB hW) (h4.giI hW) ra.2.1 ra.2.2.1 rb.2.1 rb.2.2.1 (rls_fit' ra))
  have cw := chk_wide l
  have NO : Hid (∀ (x : Int) (w' : World), begR l [a, b] = x → x ≠ 0 → Gr w w' → GivesR w (joinP l a b) (begR l [a, b]) (.returned (.tuple #[.agg #[.slice none 0 0, .slice none 0 0], .int .i64 x])) w') := Lib.hid (fun x w' hx h0 hg => by
    rw [joinP, hx, if_neg h0]; exact givesR_no hg)
  obtain ⟨W0, hW0⟩ : ∃ W0 : World, Hid (W0 = ((w.alloc (.cells #[.slice a1 a.on.length c1, .slice a2 a.level.length c2] 31)).alloc (.cells #[.slice a3 b.on.length c3, .slice a4 b.level.length c4] 31)).alloc (.cells #[.slice none 0 0, .slice none 0 0] 31)) := ⟨_, Lib.hid rfl⟩
  have G0 : Hid (Gr w W0) := Lib.hid (by rw [hW0.out]; exact (((Gr.refl _).alloc _).alloc _).alloc _)
  have s1 : (w.alloc (.cells #[.slice a1 a.on.length c1, .slice a2 a.level.length c2] 31)).heap.size = w.heap.size + 1 := by simp
  obtain ⟨N, hN⟩ : ∃ N : Nat, Hid (w.heap.size = N) := ⟨_, Lib.hid rfl⟩
  have RA : Hid (Row W0 N 31 [.slice a1 a.on.length c1, .slice a2 a.level.length c2]) := Lib.hid (by rw [hW0.out, ← hN.out]; exact ((Row.new _ _ _).alloc _).alloc _)
  have R1b : Hid (Row W0 (N + 1) 31 [.slice a3 b.on.length c3, .slice a4 b.level.length c4]) := Lib.hid (by rw [hW0.out, ← hN.out, ← s1]; exact (Row.new _ _ _).alloc _)
  have s2 : ((w.alloc (.cells #[.slice a1 a.on.length c1, .slice a2 a.level.length c2] 31)).alloc (.cells #[.slice a3 b.on.length c3, .slice a4 b.level.length c4] 31)).heap.size = w.heap.size + 1 + 1 := by simp
  have RZ : Hid (Row W0 (N + 1 + 1) 31 [.slice none 0 0, .slice none 0 0]) := Lib.hid (by rw [hW0.out, ← hN.out, ← s2]; exact Row.new _ _ _)
  have GN : Hid (w.heap.size ≤ N + 1 + 1) := Lib.hid (by have := hN.out; omega)
  have RF := Lib.hid (fun W (hW : Gr W0 W) => boxZ (RZ.out.gr hW))
  clear h h1 h2 h3 h4 s1 s2
  by_cases hc : chk l = 0
  · have HB := Lib.hid (begR_two (a := a) (b := b) hc)
    rw [hc] at CH
    go_enter Try.func25, Try.ntmps25
    go_wp2_with fail
    rw [← hW0.out, hN.out]
    refine (CH.out W0 G0.out).mono ?_
    rintro e w1 ⟨rfl, hg1⟩
    have G1 := Lib.hid (G0.out.trans hg1)
    have GG1 := Lib.hid hg1
    obtain ⟨e0, e1, eh0⟩ := pairZ (RA.out.gr hg1)
    have RA1 := Lib.hid (RA.out.gr hg1)
    have RB1 := Lib.hid (R1b.out.gr hg1)
    clear hg1 hW0 CH RA R1b G0
    by_cases ha : RlsOk l a
    · have HA := Lib.hid ha
      rw [decide_eq_true ha] at R1
      clear ha
      go_wp2_with fail
      refine (R1.out w1 G1.out).mono ?_
      rintro e w2 ⟨rfl, hg2⟩
      have G2 := Lib.hid (G1.out.trans hg2)
      have GG2 := Lib.hid (GG1.out.trans hg2)
      have RA2 := Lib.hid (RA1.out.gr hg2)
      have RB2 := Lib.hid (RB1.out.gr hg2)
      clear e0 e1 eh0 hg2 R1 G1 RA1 RB1
      obtain ⟨e2, e3, eh1⟩ := pairZ RB2.out
      by_cases hb : RlsOk l b
      · have HBb := Lib.hid hb
        rw [decide_eq_true hb] at R2
        have BE : Hid (begR l [a, b] = 0) := Lib.hid (by rw [HB.out, if_pos ⟨HA.out, hb⟩])
        clear hb
        go_wp2_with fail
        refine (R2.out w2 G2.out).mono ?_
        rintro e w3 ⟨rfl, hg3⟩
        have G3 := Lib.hid (G2.out.trans hg3)
        have GG3 := Lib.hid (GG2.out.trans hg3)
        clear e2 e3 eh1 
        obtain ⟨e0, e1, eh0⟩ := pairZ (RA2.out.gr hg3)
        obtain ⟨e2, e3, eh1⟩ := pairZ (RB2.out.gr hg3)
        clear hg3 R2 G2 RA2 RB2
        go_wp2_with fail
        refine (JN.out HA.out HBb.out w3 G3.out).mono ?_
        rintro e w4 ⟨a5, c5, a6, c6, rfl, hc5, hc6, o1, o2, hg4⟩
        have G4 := Lib.hid (G3.out.trans hg4)
        have GG4 := Lib.hid (GG3.out.trans hg4)
        have O1 := Lib.hid o1
        have O2 := Lib.hid o2
        clear o1 o2 hg4 e0 e1 e2 e3 eh0 eh1
        obtain ⟨r0, r1, r4, r2, r3⟩ := RF.out w4 GG4.out
        have L1 := joinR_on_len a b
        have GE := Lib.hid ((G4.out.setc (o := 0) (v := .slice a5 (joinR a b).on.length c5) GN.out).setc (o := 1) (v := .slice a6 (joinR a b).level.length c6) GN.out)
        have LO : N + 1 + 1 < w3.heap.size := by have := (RF.out w3 GG3.out).2.2.1; exact this
        have P1 := Lib.hid (((O1.out.oth (o := 0) (v := .slice a5 (joinR a b).on.length c5) LO).oth (o := 1) (v := .slice a6 (joinR a b).level.length c6) LO))
        have P2 := Lib.hid (((O2.out.oth (o := 0) (v := .slice a5 (joinR a b).on.length c5) LO).oth (o := 1) (v := .slice a6 (joinR a b).level.length c6) LO))
        clear L1
        go_wp2_with fail
        refine bodyPost_ret (v := .tuple #[.agg #[.slice a5 (joinR a b).on.length c5, .slice a6 (joinR a b).level.length c6], .int .i64 0]) ?_ rfl ?_
        · simp [results, Try.results25, go_sem, r0, r1]
        rw [BE.out, show joinP l a b = joinR a b from by rw [joinP, if_pos BE.out]]
        exact ⟨a5, a6, c5, c6, rfl, hc5, hc6, P1.out.slB, P2.out.slI (lv_wide (join_wide (rls_wide HA.out) (rls_wide HBb.out))), GE.out⟩
      · rw [decide_eq_false hb] at R2
        have BE : Hid (begR l [a, b] = 1) := Lib.hid (by rw [HB.out, if_neg (fun q => hb q.2)])
        clear hb
        go_wp2_with fail
        refine (R2.out w2 G2.out).mono ?_
        rintro e w3 ⟨rfl, hg3⟩
        have G3 := Lib.hid (G2.out.trans hg3)
        have GG3 := Lib.hid (GG2.out.trans hg3)
        clear e2 e3 eh1 hg3
        obtain ⟨r0, r1, r4, r2, r3⟩ := RF.out w3 GG3.out
        have GE := Lib.hid ((G3.out.setc (o := 0) (v := .slice none 0 0) GN.out).setc (o := 1) (v := .slice none 0 0) GN.out)
        go_wp2_with fail
        refine bodyPost_ret (v := .tuple #[.agg #[.slice none 0 0, .slice none 0 0], .int .i64 1]) ?_ rfl ?_
        · simp [results, Try.results25, go_sem, r0, r1]
        · exact NO.out 1 _ BE.out (by decide) GE.out
    · rw [decide_eq_false ha] at R1
      have BE : Hid (begR l [a, b] = 1) := Lib.hid (by rw [HB.out, if_neg (fun q => ha q.1)])
      clear ha
      go_wp2_with fail
      refine (R1.out w1 G1.out).mono ?_
      rintro e w2 ⟨rfl, hg2⟩
      have G2 := Lib.hid (G1.out.trans hg2)
      have GG2 := Lib.hid (GG1.out.trans hg2)
      clear e0 e1 eh0 hg2
      obtain ⟨r0, r1, r4, r2, r3⟩ := RF.out w2 GG2.out
      have GE := Lib.hid ((G2.out.setc (o := 0) (v := .slice none 0 0) GN.out).setc (o := 1) (v := .slice none 0 0) GN.out)
      go_wp2_with fail
      refine bodyPost_ret (v := .tuple #[.agg #[.slice none 0 0, .slice none 0 0], .int .i64 1]) ?_ rfl ?_
      · simp [results, Try.results25, go_sem, r0, r1]
      · exact NO.out 1 _ BE.out (by decide) GE.out
  · have BE := Lib.hid (begR_chk (rs := [a, b]) hc)
    have HC := Lib.hid hc
    have hb : (chk l != 0) = true := by simpa using hc
    obtain ⟨x, hx⟩ : ∃ x, chk l = x := ⟨_, rfl⟩
    rw [hx] at CH HC BE hb
    clear hx hc
    go_enter Try.func25, Try.ntmps25
    go_wp2_with fail
    rw [← hW0.out, hN.out]
    refine (CH.out W0 G0.out).mono ?_
    rintro e w1 ⟨rfl, hg1⟩
    have G1 := Lib.hid (G0.out.trans hg1)
    have GG1 := Lib.hid hg1
    clear hg1
    obtain ⟨r0, r1, r4, r2, r3⟩ := RF.out w1 GG1.out
    have GE := Lib.hid ((G1.out.setc (o := 0) (v := .slice none 0 0) GN.out).setc (o := 1) (v := .slice none 0 0) GN.out)
    go_wp2_with fail
    refine bodyPost_ret (v := .tuple #[.agg #[.slice none 0 0, .slice none 0 0], .int .i64 x]) ?_ rfl ?_
    · simp [results, Try.results25, go_sem, r0, r1]
    · exact NO.out x _ BE.out HC.out GE.out

theorem infoSup : (Try.prog.info? 70).map (fun i => (i.zero, i.size, i.bytes)) = some (some (.agg #[.int .i64 0, .slice none 0 0, .int .i64 0, .int .i64 0, .bool false]), 5, 56) := by kernel_rfl
abbrev STZ := Sup × Option Addr × Nat
def encT (t : STZ) : List Value := [.int .i64 t.1.parent, .slice t.2.1 t.1.levels.length t.2.2, .int .i64 t.1.dropout, .int .i64 t.1.capacity, .bool t.1.always]
theorem encT_len (t : STZ) : (encT t).length = 5 := rfl
theorem encT_one (t : STZ) : ∀ u ∈ encT t, u.oneCell' = true := by
  intro u hu
  simp only [encT, List.mem_cons, List.not_mem_nil, or_false] at hu
  rcases hu with rfl | rfl | rfl | rfl | rfl <;> rfl
def sups (ts : List STZ) : List Sup := ts.map fun t => t.1
def LvRows (base : Nat) (w : World) (ts : List STZ) : Prop := ∀ t ∈ ts, Own1 base w 3 (nums t.1.levels) t.2.1 ∧ t.1.levels.length ≤ t.2.2
theorem small_sups {ts : List STZ} (h : AllOkZ (sups ts)) (hl : ∀ t ∈ ts, t.1.levels.length ≤ 16) (hn : ts.length ≤ 16) : chk (sups ts) = 0 := by
  refine chk_ok ?_ h
  rintro (q | ⟨k, hk, q⟩)
  · simp [sups] at q; omega
  · have hk' : k < ts.length := by simpa [sups] using hk
    have := hl ts[k] (List.getElem_mem hk')
    simp [sups] at q
    omega
theorem allOk_snoc {ts : List STZ} {t : STZ} (h : AllOkZ (sups ts)) (ht : SupOk t.1 ts.length) : AllOkZ (sups (ts ++ [t])) := by
  intro k hk
  have hk' : k < ts.length + 1 := by simpa [sups] using hk
  by_cases e : k < ts.length
  · obtain ⟨q, h'⟩ := h k (by simpa [sups] using e)
    refine ⟨hk, ?_⟩
    have : (sups (ts ++ [t]))[k] = (sups ts)[k] := by simp [sups, List.getElem_append, e]
    rw [this]; exact h'
  · have e : k = ts.length := by omega
    subst e
    refine ⟨hk, ?_⟩
    have : (sups (ts ++ [t]))[ts.length] = t.1 := by simp [sups]
    rw [this]; exact ht
theorem allOk_lv {l : List Sup} (h : AllOkZ l) (k : Nat) (hk : k < l.length) (j : Nat) (hj : j < l[k].levels.length) : 1 ≤ l[k].levels[j] ∧ l[k].levels[j] ≤ 5000 := by
  obtain ⟨q, h'⟩ := h k hk
  obtain ⟨q', h1, h2, _⟩ := h'.2 j hj
  exact ⟨h1, h2⟩
theorem sups_at {base : Nat} {w : World} {v : Value} {ts : List STZ} (h : w.ownsRow base 70 5 v ts.length (ts.flatMap encT)) (hr : LvRows base w ts) (hok : AllOkZ (sups ts)) (hl : ∀ t ∈ ts, t.1.levels.length ≤ 16) (hn : 0 < ts.length) (hn1 : ts.length ≤ 16) :
    ∃ a c, v = .slice a ts.length c ∧ ts.length ≤ c ∧ SlOf 5 RSup w a (sups ts) := by
  obtain ⟨g, cap, rfl, hc, hb, hcell⟩ := owns_cell h hn
  refine ⟨_, cap, rfl, hc, fun k hk => ⟨g, 0, rfl, ?_⟩⟩
  have hk' : k < ts.length := by simpa [sups] using hk
  have key : ∀ j, (hj : j < 5) → w.cell? ⟨g, 0 + k * 5 + j, none⟩ = (encT ts[k])[j]? := fun j hj => by
    rw [← flat_at encT 5 encT_len ts k j hk' hj, Nat.zero_add]
    exact hcell _ (by omega)
  have hs : (sups ts)[k] = ts[k].1 := by simp [sups]
  obtain ⟨q, hso⟩ := hok k hk
  obtain ⟨r1, r2⟩ := hr ts[k] (List.getElem_mem hk')
  have hll := hl ts[k] (List.getElem_mem hk')
  rw [hs]
  rw [hs] at hso
  have hd := hso.1
  unfold HeadOk at hd
  refine ⟨⟨key 0 (by omega), by unfold Wide; omega⟩, ⟨ts[k].2.1, ts[k].2.2, key 1 (by omega), r2, by unfold Fit; omega, ?_⟩, ⟨key 2 (by omega), by unfold Wide; omega⟩, ⟨key 3 (by omega), by unfold Wide; omega⟩, key 4 (by omega)⟩
  refine r1.slI fun j hj => ?_
  have := allOk_lv hok k hk j (by rw [hs]; exact hj)
  simp only [hs] at this
  unfold Wide; omega
def LvInv (lv : List Int) (x : Int) : Prop := (∀ j, j < lv.length → LvOk lv j) ∧ (∀ y ∈ lv, y < x) ∧ 600 ≤ x ∧ x ≤ 5700
theorem LvInv.snoc {lv : List Int} {x : Int} (h : LvInv lv x) (hx : x ≤ 5000) (dx : Int) (h1 : 50 ≤ dx) (h2 : dx ≤ 700) : LvInv (lv ++ [x]) (x + dx) := by
  obtain ⟨h3, h4, h5, h6⟩ := h
  refine ⟨fun j hj => ?_, fun y hy => ?_, by omega, by omega⟩
  · have hj' : j < lv.length + 1 := by simpa using hj
    by_cases e : j < lv.length
    · obtain ⟨q, q1, q2, q3⟩ := h3 j e
      refine ⟨hj, by rw [List.getElem_append_left e]; exact q1, by rw [List.getElem_append_left e]; exact q2, fun h0 => ?_⟩
      rw [List.getElem_append_left (by omega), List.getElem_append_left e]
      exact q3 h0
    · have e : j = lv.length := by omega
      subst e
      refine ⟨hj, by simp; omega, by simp; omega, fun h0 => ?_⟩
      rw [List.getElem_append_left (by omega)]
      simp only [List.getElem_append_right (Nat.le_refl _), Nat.sub_self, List.getElem_cons_zero]
      exact h4 _ (List.getElem_mem _)
  · rcases List.mem_append.1 hy with q | q
    · have := h4 y q; omega
    · rw [List.mem_singleton.1 q]; omega
def MakesSups (w : World) (b len n : Nat) (e : Ending) (w' : World) : Prop :=
  ∃ l ao cap, e = .returned (.slice ao l.length cap) ∧ chk l = 0 ∧ 1 ≤ l.length ∧ l.length ≤ n ∧ l.length ≤ cap ∧ Hold b w' (fun W => SlOf 5 RSup W ao l) ∧ Mv b len w w'
theorem cell_five (w : World) (x0 x1 x2 x3 x4 : Value) (t : TypeId) : ∀ j u, [x0, x1, x2, x3, x4][j]? = some u → (w.alloc (.cells #[x0, x1, x2, x3, x4] t)).cell? ((⟨w.heap.size, 0, none⟩ : Addr).add j) = some u := by
  intro j u hu
  obtain ⟨hj, hu⟩ := List.getElem?_eq_some_iff.1 hu
  have : (⟨w.heap.size, 0, none⟩ : Addr).add j = ⟨w.heap.size, j, none⟩ := by unfold Addr.add; split <;> simp_all
  rw [this, (Row.new w #[x0, x1, x2, x3, x4] t).cell j hj, ← hu]
theorem supplies_any (w : World) (b len n : Nat) (ht : Tp w b len) (hn : 1 ≤ n) (hn1 : n ≤ 16) :
    Calls Try.prog 9 #[.pointer (some ⟨b, 0, none⟩), .int .i64 n] w (MakesSups w b len n) := by
  have TT := Lib.hid ht
  have hb := ht.has
  have HB := Lib.hid hb
  clear ht hb
  obtain ⟨i0, hi, hz0, hz1, hz2⟩ := info_parts infoInt
  obtain ⟨j0, hj, hy0, hy1, hy2⟩ := info_parts infoSup
  go_enter Try.func9, Try.ntmps9
  go_wp2_with fail
  refine (rangeM_any _ b len _ _ TT.out (by omega) (by omega) (by omega)).mono ?_
  rintro e w1 ⟨x, rfl, ⟨hx1, hx2⟩, hm⟩
  obtain ⟨m, rfl⟩ := Int.eq_ofNat_of_zero_le (show 0 ≤ x by omega)
  have M1 := Lib.hid hm
  clear hm
  go_wp2_with fail
  go_loopw [5, 6] (fun s5 s6 wr => ∃ (ts : List STZ) (m : Nat), s6 = .int .i64 m ∧ Mv b len w wr ∧ wr.ownsRow w.heap.size 70 5 s5 ts.length (ts.flatMap encT) ∧ LvRows w.heap.size wr ts ∧ AllOkZ (sups ts) ∧ (∀ t ∈ ts, t.1.levels.length ≤ 16) ∧ ts.length + m ≤ n ∧ 1 ≤ ts.length + m) (fun _ s6 _ => (intOf s6).toNat)
  case atStart => exact ⟨[], m, rfl, M1.out, World.ownsRow_nil _ _ _ _, fun t h => absurd h List.not_mem_nil, fun k h => absurd h (by simp [sups]), fun t h => absurd h List.not_mem_nil, by simp; omega, by simp; omega⟩
  case round =>
    clear M1
    obtain ⟨ts, m, rfl, hm, ho, hr, hok, hsm, hle, hge⟩ := hrel
    have HM := Lib.hid hm
    have HO := Lib.hid ho
    have HR := Lib.hid hr
    have OK := Lib.hid hok
    have SM := Lib.hid hsm
    obtain ⟨a5, c5, rfl⟩ := owns_slice ho
    clear hm ho hr hok hsm
    by_cases h0 : 0 < m
    · have g0 : (0 : Int) < m := by omega
      go_wp2_with fail
      refine (rangeM_any _ b len _ _ (HM.out.tp TT.out) (by omega) (by omega) (by omega)).mono ?_
      rintro e w2 ⟨par, rfl, ⟨hp1, hp2⟩, hm2⟩
      have M2 := Lib.hid (HM.out.trans HB.out hm2)
      have MW2 := Lib.hid hm2
      clear hm2
      go_wp2_with fail
      refine (pickNew_any w2 b len (M2.out.tp TT.out) _ rfl _ 5 [0, 100, 500, 1000, 10000] (InTo 0 10000) rfl rfl (by omega) (by omega) (by simp [InTo])).mono ?_
      rintro e w3 ⟨cp, rfl, ⟨hcp1, hcp2⟩, hm3⟩
      have M3 := Lib.hid (M2.out.trans HB.out hm3)
      have MW3 := Lib.hid (MW2.out.trans (by have := HM.out.size; have := HB.out; omega) hm3)
      clear hm3
      go_wp2_with fail
      refine (nM_any w3 b len _ (M3.out.tp TT.out) (by omega) (by omega)).mono ?_
      rintro e w4 ⟨al, rfl, ⟨hal1, hal2⟩, hm4⟩
      have M4 := Lib.hid (M3.out.trans HB.out hm4)
      have MW4 := Lib.hid (MW3.out.trans (by have := HM.out.size; have := HB.out; omega) hm4)
      clear hm4 M2 M3 MW2 MW3 hal1 hal2
      obtain ⟨alw, halw⟩ : ∃ alw : Bool, (al == 0) = alw := ⟨_, rfl⟩
      go_wp2_with fail
      try rw [halw]
      clear halw
      refine (pickNew_any (w4.alloc (.cells #[.int .i64 par, .slice none 0 0, .int .i64 0, .int .i64 cp, .bool alw] 70)) b len ((M4.out.tp TT.out).gr ((Gr.refl _).alloc _)) _ (by simp) _ 5 [600, 800, 1100, 1800, 3000] (InTo 600 3000) rfl rfl (by omega) (by omega) (by simp [InTo])).mono ?_
      rintro e w5 ⟨x0, rfl, ⟨hx01, hx02⟩, hm5⟩
      have M5 := Lib.hid ((Mv.of_gr (M4.out.tp TT.out) ((Gr.refl w4).alloc _)).trans (M4.out.tp TT.out).has hm5)
      have R5 := Lib.hid (hm5.row (Row.new w4 _ _) (by have := (M4.out.tp TT.out).has; omega))
      clear hm5
      go_wp2_with fail
      refine (rangeM_any w5 b len _ _ (M5.out.tp (M4.out.tp TT.out)) (by omega) (by omega) (by omega)).mono ?_
      rintro e w6 ⟨k0, rfl, ⟨hk01, hk02⟩, hm6⟩
      have M6 := Lib.hid (M5.out.trans (M4.out.tp TT.out).has hm6)
      have R6 := Lib.hid (hm6.row R5.out (by have := (M4.out.tp TT.out).has; omega))
      clear hm6 M5 R5
      obtain ⟨k1, rfl⟩ := Int.eq_ofNat_of_zero_le (show 0 ≤ k0 by omega)
      obtain ⟨m', rfl⟩ : ∃ m', m = m' + 1 := ⟨m - 1, by omega⟩
      obtain ⟨wa, rfl⟩ : ∃ wa : World, wa = wr := ⟨_, rfl⟩
      go_wp2_with fail
      go_loopw [8, 9] (fun s8 s9 wr => ∃ (lv : List Int) (vL : Value) (x : Int) (k : Nat), s8 = .int .i64 x ∧ s9 = .int .i64 k ∧ Mv b len w4 wr ∧ Row wr w4.heap.size 70 [.int .i64 par, vL, .int .i64 0, .int .i64 cp, .bool alw] ∧ wr.ownsRow w4.heap.size 3 1 vL lv.length (nums lv) ∧ LvInv lv x ∧ lv.length + k ≤ 5 ∧ (lv.length = 0 → 1 ≤ k ∧ x ≤ 5000)) (fun _ s9 _ => (intOf s9).toNat)
      case atStart => exact ⟨[], .slice none 0 0, x0, k1, rfl, rfl, M6.out, R6.out, World.ownsRow_nil _ _ _ _, ⟨fun j h => absurd h (by simp), fun y h => absurd h List.not_mem_nil, by omega, by omega⟩, by simp; omega, fun _ => ⟨by omega, by omega⟩⟩
      case round =>
        clear M6 R6
        obtain ⟨lv, vL, x, k, rfl, rfl, hm, hr, ho, hli, hlk, hne⟩ := hrel
        have MI := Lib.hid hm
        have RI' := Lib.hid hr
        have OI := Lib.hid ho
        have LI := Lib.hid hli
        have lx1 := hli.2.2.1
        have lx2 := hli.2.2.2
        have r1 := hr.cell 1 (by simp)
        have r0 := hr.cell 0 (by simp)
        simp only [List.getElem_cons_zero, List.getElem_cons_succ] at r0 r1
        have r2 := hr.free 1
        have r3 := hr.free 2
        have rh := hr.has
        have bw := (M4.out.tp TT.out).has
        clear hm hr ho hli
        by_cases hc : 0 < k ∧ x ≤ 5000
        · have gk : (0 : Int) < k := by omega
          have gx : x ≤ 5000 := hc.2
          clear hne
          obtain ⟨k', rfl⟩ : ∃ k', k = k' + 1 := ⟨k - 1, by omega⟩
          clear hc
          go_wp2_with (at_builtin; refine wpList_append_own _ rfl _ _ 22 rfl w4.heap.size 3 i0 (.int .i64 0) 1 8 Try.underlying22 hi hz0 hz1 hz2 rfl (by decide) vL lv.length (nums lv) rfl (OI.out.alloc _) ⟨wr.heap.size, 0, none⟩ 1 1 (nums [x]) rfl rfl (cell_one_new _ _ _) (nums_one _) (by unfold maxLen; omega) (by omega) (by have := MI.out.size; simp; omega) ?_; intro v' wy hown' hgrow hnil; have RY := Lib.hid ((RI'.out.alloc _).grown hgrow (owns_apart OI.out RI'.out.s (by decide))); have MY := Lib.hid ((MI.out.alloc _).grown hgrow (fun k e => (OI.out.lt k e).1)); have OY := Lib.hid hown'; obtain ⟨g', cap', rfl⟩ := ownsRow_succ hown'; have y1 := RY.out.cell 1 (by simp); have y2 := RY.out.free 1; have yh := RY.out.has; clear hown' hgrow hnil)
          have RZ := Lib.hid (RY.out.set 1 (.slice (some ⟨g', 0, none⟩) (lv.length + 1) cap'))
          have MZ : Hid (Mv b len w4 (wy.setCell ⟨w4.heap.size, 1, none⟩ (.slice (some ⟨g', 0, none⟩) (lv.length + 1) cap'))) := Lib.hid (MY.out.setc (Nat.le_refl _))
          have OZ := Lib.hid (owns_set (o := 1) (x := .slice (some ⟨g', 0, none⟩) (lv.length + 1) cap') OY.out RY.out.s (by decide))
          refine (pickNew_any (wy.setCell ⟨w4.heap.size, 1, none⟩ (.slice (some ⟨g', 0, none⟩) (lv.length + 1) cap')) b len (MZ.out.tp (M4.out.tp TT.out)) _ (by rw [size_set]) _ 4 [50, 100, 300, 700] (InTo 50 700) rfl rfl (by omega) (by omega) (by simp [InTo])).mono ?_
          rintro e wq ⟨dx, rfl, ⟨hd1, hd2⟩, hmq⟩
          have MQ := Lib.hid (MZ.out.trans bw hmq)
          have RQ := Lib.hid (hmq.row RZ.out (by omega))
          have OQ := Lib.hid (hmq.owns OZ.out bw)
          clear hmq y1 y2 yh
          go_wp2_with fail
          go_roundw
          case rel =>
            refine ⟨lv ++ [x], _, x + dx, k', rfl, by go_num, MQ.out, RQ.out, ?_, LI.out.snoc gx dx hd1 hd2, by simp; omega, fun q => absurd q (by simp)⟩
            have := OQ.out
            rw [List.length_append]
            simpa [nums] using this
          case measure => simp [intOf]
        · have hlv : 1 ≤ lv.length := by
            rcases Nat.eq_zero_or_pos lv.length with q | q
            · have := hne q; exact absurd ⟨by omega, this.2⟩ hc
            · exact q
          have hcb : (decide (0 < (k : Int)) && decide (x ≤ 5000)) = false := by
            rw [Bool.and_eq_false_iff, decide_eq_false_iff_not, decide_eq_false_iff_not]
            by_cases q : 0 < k
            · exact .inr (fun q2 => hc ⟨q, q2⟩)
            · exact .inl (by omega)
          clear hne
          by_cases hp : 0 ≤ par
          · have gp := hp
            rcases Nat.eq_zero_or_pos k with hk0 | hk0
            · subst hk0
              go_wp2_with fail
              refine (pickNew_any wr b len (MI.out.tp (M4.out.tp TT.out)) _ rfl _ 4 [0, 0, 100, 300] (InTo 0 300) rfl rfl (by omega) (by omega) (by simp [InTo])).mono ?_
              rintro e wq ⟨dr, rfl, ⟨hd1, hd2⟩, hmq⟩
              have MQ := Lib.hid (MI.out.trans bw hmq)
              have RQ := Lib.hid (hmq.row RI'.out (by omega))
              have OQ := Lib.hid (hmq.owns OI.out bw)
              have z2 := RQ.out.cell 2 (by simp)
              have z3 := RQ.out.free 2
              have zh := RQ.out.has
              clear hmq r0 r1 r2 r3 rh
              obtain ⟨aL, cL, rfl, hcL, oL⟩ := owns_own1 (owns_set (o := 2) (x := .int .i64 dr) OQ.out RQ.out.s (by decide))
              have OL := Lib.hid oL
              have RX := Lib.hid (show Row (wq.setCell ⟨w4.heap.size, 2, none⟩ (.int .i64 dr)) w4.heap.size 70 [.int .i64 par, .slice aL lv.length cL, .int .i64 dr, .int .i64 cp, .bool alw] from RQ.out.set 2 (.int .i64 dr))
              have MX := Lib.hid (MQ.out.setc (o := 2) (v := .int .i64 dr) (Nat.le_refl _))
              have OX := Lib.hid ((Mv.owns (MW4.out.trans (by have := HM.out.size; have := HB.out; omega) MX.out) HO.out HB.out))
              have f0 := RX.out.cell 0 (by simp)
              have f1 := RX.out.cell 1 (by simp)
              have f2 := RX.out.cell 2 (by simp)
              have f3 := RX.out.cell 3 (by simp)
              have f4 := RX.out.cell 4 (by simp)
              simp only [List.getElem_cons_zero, List.getElem_cons_succ] at f0 f1 f2 f3 f4
              have fh := RX.out.has
              have SOK : Hid (SupOk ⟨par, lv, dr, cp, alw⟩ ts.length) := Lib.hid ⟨⟨hp1, hp2, by show 1 ≤ lv.length; omega, hd1, by show dr ≤ 5000; omega, by show par < 0 → dr = 0; intro q; omega, hcp1, hcp2⟩, LI.out.1⟩
              clear oL
              go_wp2_with (at_builtin; refine wpList_append_own _ rfl _ _ 25 rfl w.heap.size 70 j0 (.agg #[.int .i64 0, .slice none 0 0, .int .i64 0, .int .i64 0, .bool false]) 5 56 Try.underlying25 hj hy0 hy1 hy2 rfl (by decide) (.slice a5 ts.length c5) ts.length (ts.flatMap encT) rfl (OX.out.alloc _) ⟨wq.heap.size, 0, none⟩ 1 1 (encT (⟨par, lv, dr, cp, alw⟩, aL, cL)) rfl rfl (by have := cell_five (wq.setCell ⟨w4.heap.size, 2, none⟩ (.int .i64 dr)) (.int .i64 par) (.slice aL lv.length cL) (.int .i64 dr) (.int .i64 cp) (.bool alw) 70; simpa [encT, size_set] using this) (encT_one _) (by unfold maxLen; omega) (by omega) (by have := MX.out.size; have := M4.out.size; simp only [World.size_alloc, size_set] at *; omega) ?_; intro v' wz hown' hgrow hnil; have HOz := Lib.hid hown'; have HGz := Lib.hid hgrow; clear hown' hgrow hnil)
              go_roundw
              case rel =>
                refine ⟨ts ++ [(⟨par, lv, dr, cp, alw⟩, aL, cL)], m', by go_num, ?_, ?_, ?_, allOk_snoc OK.out SOK.out, ?_, by simp; omega, by simp; omega⟩
                · exact ((M4.out.trans HB.out MX.out).alloc _).grown HGz.out (fun k e => (OX.out.lt k e).1)
                · have := HOz.out
                  rw [List.length_append, List.flatMap_append]
                  simpa using this
                · intro t ht
                  rcases List.mem_append.1 ht with q | q
                  · obtain ⟨r1, r2⟩ := HR.out t q
                    refine ⟨Own1.grown (((MW4.out.trans (by have := HM.out.size; have := HB.out; omega) MX.out).own1 r1 HB.out).gr ((Gr.refl _).alloc _)) HGz.out (fun B hB => owns_apart (OX.out.alloc _) hB (by decide)), r2⟩
                  · rw [List.mem_singleton.1 q]
                    refine ⟨(Own1.grown (OL.out.gr ((Gr.refl _).alloc _)) HGz.out (fun B hB => owns_apart (OX.out.alloc _) hB (by decide))).low (by have := M4.out.size; omega), hcL⟩
                · intro t ht
                  rcases List.mem_append.1 ht with q | q
                  · exact SM.out t q
                  · rw [List.mem_singleton.1 q]; show lv.length ≤ 16; omega
              case measure => simp [intOf]
            · have gk : (0 : Int) < k := by omega
              have gx : ¬ x ≤ 5000 := fun q => hc ⟨hk0, q⟩
              have gxb : decide (x ≤ 5000) = false := by simpa using gx
              clear gx
              go_wp2_with fail
              refine (pickNew_any wr b len (MI.out.tp (M4.out.tp TT.out)) _ rfl _ 4 [0, 0, 100, 300] (InTo 0 300) rfl rfl (by omega) (by omega) (by simp [InTo])).mono ?_
              rintro e wq ⟨dr, rfl, ⟨hd1, hd2⟩, hmq⟩
              have MQ := Lib.hid (MI.out.trans bw hmq)
              have RQ := Lib.hid (hmq.row RI'.out (by omega))
              have OQ := Lib.hid (hmq.owns OI.out bw)
              have z2 := RQ.out.cell 2 (by simp)
              have z3 := RQ.out.free 2
              have zh := RQ.out.has
              clear hmq r0 r1 r2 r3 rh
              obtain ⟨aL, cL, rfl, hcL, oL⟩ := owns_own1 (owns_set (o := 2) (x := .int .i64 dr) OQ.out RQ.out.s (by decide))
              have OL := Lib.hid oL
              have RX := Lib.hid (show Row (wq.setCell ⟨w4.heap.size, 2, none⟩ (.int .i64 dr)) w4.heap.size 70 [.int .i64 par, .slice aL lv.length cL, .int .i64 dr, .int .i64 cp, .bool alw] from RQ.out.set 2 (.int .i64 dr))
              have MX := Lib.hid (MQ.out.setc (o := 2) (v := .int .i64 dr) (Nat.le_refl _))
              have OX := Lib.hid ((Mv.owns (MW4.out.trans (by have := HM.out.size; have := HB.out; omega) MX.out) HO.out HB.out))
              have f0 := RX.out.cell 0 (by simp)
              have f1 := RX.out.cell 1 (by simp)
              have f2 := RX.out.cell 2 (by simp)
              have f3 := RX.out.cell 3 (by simp)
              have f4 := RX.out.cell 4 (by simp)
              simp only [List.getElem_cons_zero, List.getElem_cons_succ] at f0 f1 f2 f3 f4
              have fh := RX.out.has
              have SOK : Hid (SupOk ⟨par, lv, dr, cp, alw⟩ ts.length) := Lib.hid ⟨⟨hp1, hp2, by show 1 ≤ lv.length; omega, hd1, by show dr ≤ 5000; omega, by show par < 0 → dr = 0; intro q; omega, hcp1, hcp2⟩, LI.out.1⟩
              clear oL
              go_wp2_with (at_builtin; refine wpList_append_own _ rfl _ _ 25 rfl w.heap.size 70 j0 (.agg #[.int .i64 0, .slice none 0 0, .int .i64 0, .int .i64 0, .bool false]) 5 56 Try.underlying25 hj hy0 hy1 hy2 rfl (by decide) (.slice a5 ts.length c5) ts.length (ts.flatMap encT) rfl (OX.out.alloc _) ⟨wq.heap.size, 0, none⟩ 1 1 (encT (⟨par, lv, dr, cp, alw⟩, aL, cL)) rfl rfl (by have := cell_five (wq.setCell ⟨w4.heap.size, 2, none⟩ (.int .i64 dr)) (.int .i64 par) (.slice aL lv.length cL) (.int .i64 dr) (.int .i64 cp) (.bool alw) 70; simpa [encT, size_set] using this) (encT_one _) (by unfold maxLen; omega) (by omega) (by have := MX.out.size; have := M4.out.size; simp only [World.size_alloc, size_set] at *; omega) ?_; intro v' wz hown' hgrow hnil; have HOz := Lib.hid hown'; have HGz := Lib.hid hgrow; clear hown' hgrow hnil)
              go_roundw
              case rel =>
                refine ⟨ts ++ [(⟨par, lv, dr, cp, alw⟩, aL, cL)], m', by go_num, ?_, ?_, ?_, allOk_snoc OK.out SOK.out, ?_, by simp; omega, by simp; omega⟩
                · exact ((M4.out.trans HB.out MX.out).alloc _).grown HGz.out (fun k e => (OX.out.lt k e).1)
                · have := HOz.out
                  rw [List.length_append, List.flatMap_append]
                  simpa using this
                · intro t ht
                  rcases List.mem_append.1 ht with q | q
                  · obtain ⟨r1, r2⟩ := HR.out t q
                    refine ⟨Own1.grown (((MW4.out.trans (by have := HM.out.size; have := HB.out; omega) MX.out).own1 r1 HB.out).gr ((Gr.refl _).alloc _)) HGz.out (fun B hB => owns_apart (OX.out.alloc _) hB (by decide)), r2⟩
                  · rw [List.mem_singleton.1 q]
                    refine ⟨(Own1.grown (OL.out.gr ((Gr.refl _).alloc _)) HGz.out (fun B hB => owns_apart (OX.out.alloc _) hB (by decide))).low (by have := M4.out.size; omega), hcL⟩
                · intro t ht
                  rcases List.mem_append.1 ht with q | q
                  · exact SM.out t q
                  · rw [List.mem_singleton.1 q]; show lv.length ≤ 16; omega
              case measure => simp [intOf]
          · have gp : par < 0 := by omega
            clear hp
            rcases Nat.eq_zero_or_pos k with hk0 | hk0
            · subst hk0
              obtain ⟨aL, cL, rfl, hcL, oL⟩ := owns_own1 (OI.out)
              have OL := Lib.hid oL
              have RX := Lib.hid (RI'.out)
              have MX := Lib.hid (MI.out)
              have OX := Lib.hid ((Mv.owns (MW4.out.trans (by have := HM.out.size; have := HB.out; omega) MX.out) HO.out HB.out))
              have f0 := RX.out.cell 0 (by simp)
              have f1 := RX.out.cell 1 (by simp)
              have f2 := RX.out.cell 2 (by simp)
              have f3 := RX.out.cell 3 (by simp)
              have f4 := RX.out.cell 4 (by simp)
              simp only [List.getElem_cons_zero, List.getElem_cons_succ] at f0 f1 f2 f3 f4
              have fh := RX.out.has
              have SOK : Hid (SupOk ⟨par, lv, 0, cp, alw⟩ ts.length) := Lib.hid ⟨⟨hp1, hp2, by show 1 ≤ lv.length; omega, by simp, by simp, fun _ => rfl, hcp1, hcp2⟩, LI.out.1⟩
              clear oL
              go_wp2_with (at_builtin; refine wpList_append_own _ rfl _ _ 25 rfl w.heap.size 70 j0 (.agg #[.int .i64 0, .slice none 0 0, .int .i64 0, .int .i64 0, .bool false]) 5 56 Try.underlying25 hj hy0 hy1 hy2 rfl (by decide) (.slice a5 ts.length c5) ts.length (ts.flatMap encT) rfl (OX.out.alloc _) ⟨wr.heap.size, 0, none⟩ 1 1 (encT (⟨par, lv, 0, cp, alw⟩, aL, cL)) rfl rfl (by have := cell_five wr (.int .i64 par) (.slice aL lv.length cL) (.int .i64 0) (.int .i64 cp) (.bool alw) 70; simpa [encT, size_set] using this) (encT_one _) (by unfold maxLen; omega) (by omega) (by have := MX.out.size; have := M4.out.size; simp only [World.size_alloc, size_set] at *; omega) ?_; intro v' wz hown' hgrow hnil; have HOz := Lib.hid hown'; have HGz := Lib.hid hgrow; clear hown' hgrow hnil)
              go_roundw
              case rel =>
                refine ⟨ts ++ [(⟨par, lv, 0, cp, alw⟩, aL, cL)], m', by go_num, ?_, ?_, ?_, allOk_snoc OK.out SOK.out, ?_, by simp; omega, by simp; omega⟩
                · exact ((M4.out.trans HB.out MX.out).alloc _).grown HGz.out (fun k e => (OX.out.lt k e).1)
                · have := HOz.out
                  rw [List.length_append, List.flatMap_append]
                  simpa using this
                · intro t ht
                  rcases List.mem_append.1 ht with q | q
                  · obtain ⟨r1, r2⟩ := HR.out t q
                    refine ⟨Own1.grown (((MW4.out.trans (by have := HM.out.size; have := HB.out; omega) MX.out).own1 r1 HB.out).gr ((Gr.refl _).alloc _)) HGz.out (fun B hB => owns_apart (OX.out.alloc _) hB (by decide)), r2⟩
                  · rw [List.mem_singleton.1 q]
                    refine ⟨(Own1.grown (OL.out.gr ((Gr.refl _).alloc _)) HGz.out (fun B hB => owns_apart (OX.out.alloc _) hB (by decide))).low (by have := M4.out.size; omega), hcL⟩
                · intro t ht
                  rcases List.mem_append.1 ht with q | q
                  · exact SM.out t q
                  · rw [List.mem_singleton.1 q]; show lv.length ≤ 16; omega
              case measure => simp [intOf]
            · have gk : (0 : Int) < k := by omega
              have gx : ¬ x ≤ 5000 := fun q => hc ⟨hk0, q⟩
              have gxb : decide (x ≤ 5000) = false := by simpa using gx
              clear gx
              obtain ⟨aL, cL, rfl, hcL, oL⟩ := owns_own1 (OI.out)
              have OL := Lib.hid oL
              have RX := Lib.hid (RI'.out)
              have MX := Lib.hid (MI.out)
              have OX := Lib.hid ((Mv.owns (MW4.out.trans (by have := HM.out.size; have := HB.out; omega) MX.out) HO.out HB.out))
              have f0 := RX.out.cell 0 (by simp)
              have f1 := RX.out.cell 1 (by simp)
              have f2 := RX.out.cell 2 (by simp)
              have f3 := RX.out.cell 3 (by simp)
              have f4 := RX.out.cell 4 (by simp)
              simp only [List.getElem_cons_zero, List.getElem_cons_succ] at f0 f1 f2 f3 f4
              have fh := RX.out.has
              have SOK : Hid (SupOk ⟨par, lv, 0, cp, alw⟩ ts.length) := Lib.hid ⟨⟨hp1, hp2, by show 1 ≤ lv.length; omega, by simp, by simp, fun _ => rfl, hcp1, hcp2⟩, LI.out.1⟩
              clear oL
              go_wp2_with (at_builtin; refine wpList_append_own _ rfl _ _ 25 rfl w.heap.size 70 j0 (.agg #[.int .i64 0, .slice none 0 0, .int .i64 0, .int .i64 0, .bool false]) 5 56 Try.underlying25 hj hy0 hy1 hy2 rfl (by decide) (.slice a5 ts.length c5) ts.length (ts.flatMap encT) rfl (OX.out.alloc _) ⟨wr.heap.size, 0, none⟩ 1 1 (encT (⟨par, lv, 0, cp, alw⟩, aL, cL)) rfl rfl (by have := cell_five wr (.int .i64 par) (.slice aL lv.length cL) (.int .i64 0) (.int .i64 cp) (.bool alw) 70; simpa [encT, size_set] using this) (encT_one _) (by unfold maxLen; omega) (by omega) (by have := MX.out.size; have := M4.out.size; simp only [World.size_alloc, size_set] at *; omega) ?_; intro v' wz hown' hgrow hnil; have HOz := Lib.hid hown'; have HGz := Lib.hid hgrow; clear hown' hgrow hnil)
              go_roundw
              case rel =>
                refine ⟨ts ++ [(⟨par, lv, 0, cp, alw⟩, aL, cL)], m', by go_num, ?_, ?_, ?_, allOk_snoc OK.out SOK.out, ?_, by simp; omega, by simp; omega⟩
                · exact ((M4.out.trans HB.out MX.out).alloc _).grown HGz.out (fun k e => (OX.out.lt k e).1)
                · have := HOz.out
                  rw [List.length_append, List.flatMap_append]
                  simpa using this
                · intro t ht
                  rcases List.mem_append.1 ht with q | q
                  · obtain ⟨r1, r2⟩ := HR.out t q
                    refine ⟨Own1.grown (((MW4.out.trans (by have := HM.out.size; have := HB.out; omega) MX.out).own1 r1 HB.out).gr ((Gr.refl _).alloc _)) HGz.out (fun B hB => owns_apart (OX.out.alloc _) hB (by decide)), r2⟩
                  · rw [List.mem_singleton.1 q]
                    refine ⟨(Own1.grown (OL.out.gr ((Gr.refl _).alloc _)) HGz.out (fun B hB => owns_apart (OX.out.alloc _) hB (by decide))).low (by have := M4.out.size; omega), hcL⟩
                · intro t ht
                  rcases List.mem_append.1 ht with q | q
                  · exact SM.out t q
                  · rw [List.mem_singleton.1 q]; show lv.length ≤ 16; omega
              case measure => simp [intOf]
    · have hm0 : m = 0 := by omega
      subst hm0
      go_wp2_with fail
      go_ret
      have hpos : 0 < ts.length := by omega
      refine ⟨sups ts, a5, c5, by simp [sups], small_sups OK.out SM.out (by omega), by simp [sups]; omega, by simp [sups]; omega, ?_, fun p => ?_, HM.out⟩
      · obtain ⟨a', c', e', h1, h2⟩ := sups_at HO.out HR.out OK.out SM.out hpos (by omega)
        cases e'; simpa [sups] using h1
      · obtain ⟨a', c', e', h1, h2⟩ := sups_at (ownsRow_setCell_below HO.out (a := ⟨b, 1, none⟩) HB.out (.int .i64 p)) (fun t ht => ⟨(HR.out t ht).1.oth HB.out, (HR.out t ht).2⟩) OK.out SM.out hpos (by omega)
        cases e'; exact h2
end Go.Proofs.Ytoenkcojfogmmaa
