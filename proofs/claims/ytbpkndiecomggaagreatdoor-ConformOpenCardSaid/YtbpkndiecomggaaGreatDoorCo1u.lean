/- Lemmas and contracts for the proof of ConformOpen (several texts in one, printed by wip/tools/pack.py): WcH WdA WeB. -/
import Derived.Test.YtbpkndiecomggaaGreatDoorCo1q
import Derived.Test.YtbpkndiecomggaaGreatDoorCo1t
set_option maxRecDepth 100000
set_option maxHeartbeats 16000000
set_option linter.unusedVariables false
set_option linter.unusedSimpArgs false
namespace Go.Proofs.YtbpkndiecomggaaGreatDoor
open Go.RowKit
open Classical
theorem eqVio (p q : Vio) (w : World) : (binOp .eql 36 (.agg #[.int .i64 p.kind, .int .i64 p.node, .string (bs p.sch), .string (bs p.prop)]) (.agg #[.int .i64 q.kind, .int .i64 q.node, .string (bs q.sch), .string (bs q.prop)])).run Tryz.prog w = .ok (.bool (p == q)) w := by
  have e : (p == q) = (p.kind == q.kind && p.node == q.node && p.sch == q.sch && p.prop == q.prop) := by
    rw [Bool.eq_iff_iff]; simp; constructor
    · rintro rfl; exact ⟨⟨⟨rfl, rfl⟩, rfl⟩, rfl⟩
    · rintro ⟨⟨⟨h1, h2⟩, h3⟩, h4⟩; cases p; cases q; simp_all
  rw [e]
  have hs := Tryz.stoodInHeld36
  have hu := Tryz.underlying36
  have hz := Tryz.underlying9
  have hn := Tryz.underlying3
  simp [go_sem, hs, hu, hz, hn]
  by_cases h1 : p.kind = q.kind <;> by_cases h2 : p.node = q.node <;> by_cases h3 : p.sch = q.sch <;> by_cases h4 : p.prop = q.prop <;> simp [h1, h2, h3, h4]
theorem VO.at {base : Nat} {w : World} {a : Option Addr} {n c : Nat} {L : List Vio} (h : VO base w (.slice a n c) L) {k : Nat} (hk : k < L.length) :
    ∃ g, a = some ⟨g, 0, none⟩ ∧ w.cell? ⟨g, k * 4, none⟩ = some (.int .i64 L[k].kind) ∧ w.cell? ⟨g, k * 4 + 1, none⟩ = some (.int .i64 L[k].node) ∧ w.cell? ⟨g, k * 4 + 2, none⟩ = some (.string (bs L[k].sch)) ∧ w.cell? ⟨g, k * 4 + 3, none⟩ = some (.string (bs L[k].prop)) := by
  obtain ⟨g, cap, e1, _, _, hc⟩ := owns_cell h (show 0 < L.length by omega)
  injection e1 with e1 _ _
  have hf := fun j (hj : j < 4) => (hc (k * 4 + j) (by omega)).trans (flat_at Vio.enc 4 (fun _ => rfl) L k j hk hj)
  exact ⟨g, e1, hf 0 (by omega), hf 1 (by omega), hf 2 (by omega), hf 3 (by omega)⟩
theorem VO.gr {base : Nat} {w w' : World} {v : Value} {L : List Vio} (h : VO base w v L) (hg : Gr w w') : VO base w' v L := Gr.owns h hg
theorem idxV_any (L : List Vio) (y : Vio) (base : Nat) (a : Option Addr) (c : Nat) (w : World) (h : VO base w (.slice a L.length c) L) (hf : L.length ≤ 1000000) :
    Calls Tryz.prog 86 #[.slice a L.length c, .agg #[.int .i64 y.kind, .int .i64 y.node, .string (bs y.sch), .string (bs y.prop)]] w fun e w' => ∃ i : Int, e = .returned (.int .i64 i) ∧ (decide (0 ≤ i) = L.contains y) ∧ Gr w w' := by
  have H := Lib.hid h
  clear h
  go_enter Tryz.func86, Tryz.ntmps86
  go_wp2_with fail
  have RB := Lib.hid (Row.new w #[.int .i64 y.kind, .int .i64 y.node, .string (bs y.sch), .string (bs y.prop)] 36)
  obtain ⟨W1, hW1⟩ : ∃ W : World, Hid (W = w.alloc (.cells #[.int .i64 y.kind, .int .i64 y.node, .string (bs y.sch), .string (bs y.prop)] 36)) := ⟨_, Lib.hid rfl⟩
  rw [← hW1.out] at RB ⊢
  have G1 : Hid (Gr w W1) := Lib.hid (by rw [hW1.out]; exact (Gr.refl _).alloc _)
  obtain ⟨P0, hP0⟩ : ∃ N : Nat, Hid (w.heap.size = N) := ⟨_, Lib.hid rfl⟩
  rw [hP0.out] at RB ⊢
  clear hW1
  go_loopw [8] (fun i wr => ∃ k : Nat, k ≤ L.length ∧ i = .int .i64 k ∧ (∀ j (hj : j < k) (hjl : j < L.length), ¬ L[j] = y) ∧ Row wr P0 36 [.int .i64 y.kind, .int .i64 y.node, .string (bs y.sch), .string (bs y.prop)] ∧ Gr w wr) (fun i _ => L.length - (intOf i).toNat)
  case atStart => exact ⟨0, Nat.zero_le _, rfl, fun j h => absurd h (by omega), RB.out, G1.out⟩
  case round =>
    clear RB G1
    obtain ⟨k, hk, rfl, hall, hrb, hg⟩ := hrel
    have HA := Lib.hid hall
    have HG := Lib.hid hg
    have HRB := Lib.hid hrb
    have b0 := hrb.cell 0 (by simp)
    have b1 := hrb.cell 1 (by simp)
    have b2 := hrb.cell 2 (by simp)
    have b3 := hrb.cell 3 (by simp)
    simp only [List.getElem_cons_zero, List.getElem_cons_succ] at b0 b1 b2 b3
    clear hall hg hrb
    by_cases hlt : k < L.length
    · obtain ⟨g, rfl, c0, c1, c2, c3⟩ := (H.out.gr HG.out).at hlt
      have hh := has_of_cell c0
      have hh2 := has_of_cell b0
      have hi1 : decide ((k : Int) < L.length) = true := by simp; omega
      have heq := fun W => eqVio y L[k] W
      by_cases hq : L[k] = y
      · have hb : (y == L[k]) = true := by simp [hq]
        simp only [hb] at heq
        have Q := Lib.hid hq
        clear hq hb
        go_wp2_with fail
        go_quiet (fail)
        go_wp2_with fail
        go_ret
        refine ⟨_, rfl, ?_, HG.out.drewN _⟩
        rw [show decide (0 ≤ (k : Int)) = true by simp, eq_comm, List.contains_iff_mem]
        rw [← Q.out]; exact List.getElem_mem hlt
      · have hb : (y == L[k]) = false := by rw [beq_eq_false_iff_ne]; exact fun e => hq e.symm
        simp only [hb] at heq
        have Q := Lib.hid hq
        clear hq hb
        go_wp2_with fail
        go_quiet (fail)
        go_wp2_with fail
        go_roundw
        case rel =>
          refine ⟨k + 1, by omega, by go_num, fun j hj hjl => ?_, HRB.out.drewN _, HG.out.drewN _⟩
          by_cases e : j = k
          · subst e; exact Q.out
          · exact HA.out j (by omega) hjl
        case measure => simp [intOf]; omega
    · go_wp2_with fail
      go_ret
      refine ⟨_, rfl, ?_, HG.out⟩
      rw [eq_comm, show decide ((0:Int) ≤ -1) = false by simp, ← Bool.not_eq_true, List.contains_iff_mem]
      intro hx
      obtain ⟨j, hj, e⟩ := List.getElem_of_mem hx
      exact HA.out j (by omega) hj e
theorem conV_any (L : List Vio) (y : Vio) (base : Nat) (a : Option Addr) (c : Nat) (w : World) (h : VO base w (.slice a L.length c) L) (hf : L.length ≤ 1000000) :
    Calls Tryz.prog 45 #[.slice a L.length c, .agg #[.int .i64 y.kind, .int .i64 y.node, .string (bs y.sch), .string (bs y.prop)]] w (Grows w (.bool (L.contains y))) := by
  have H := Lib.hid h
  clear h
  go_enter Tryz.func45, Tryz.ntmps45
  go_wp2_with fail
  refine (idxV_any L y base a c _ (H.out.gr ((Gr.refl _).alloc _)) hf).mono ?_
  rintro e w' ⟨x, rfl, hx, O, d, rfl⟩
  have X := Lib.hid hx
  clear hx
  go_wp2_with fail
  go_ret
  exact ⟨ret_bool X.out, ((Gr.refl _).alloc _).xt _ _⟩
def hol1F (wr w0 : World) (ts : Tr) (ta : Option Addr) (tc : Nat) (l : List Sch) (sa : Option Addr) (sc PT PY : Nat) (y : Vio) (qq : Bool) (t6 t7 t8 t9 t10 t11 t12 t13 t14 t15 t16 t17 t18 t19 t20 : Value) (d : Array Bool) (w : World) : Prop :=
  Gr wr w ∧ (d.getD 0 false = true → t7 = .agg #[.slice ta ts.length tc]) ∧
  (d.getD 1 false = true → t8 = .int .i64 0) ∧
  (d.getD 2 false = true → t9 = .slice sa l.length sc) ∧
  (d.getD 3 false = true → t10 = .int .i64 0) ∧
  (d.getD 4 false = true → ∃ B, t11 = .slice (some ⟨B, 0, none⟩) 2 2 ∧ Row w B 32 [.int .i64 0, .int .i64 0]) ∧
  (d.getD 5 false = true → t12 = .int .i64 0) ∧
  (d.getD 6 false = true → t13 = .bool true) ∧
  (d.getD 7 false = true → t14 = .bool true) ∧
  (d.getD 8 false = true → t15 = .agg #[.slice ta ts.length tc]) ∧
  (d.getD 9 false = true → t16 = .slice sa l.length sc) ∧
  (d.getD 10 false = true → ∃ a c, t17 = .slice a (vioT ts l).length c ∧ VO w0.heap.size w (.slice a (vioT ts l).length c) (vioT ts l)) ∧
  (d.getD 11 false = true → t18 = .agg #[.int .i64 y.kind, .int .i64 y.node, .string (bs y.sch), .string (bs y.prop)]) ∧
  (d.getD 12 false = true → t19 = .bool qq) ∧
  (d.getD 13 false = true → t20 = .bool qq) ∧
  (d.getD 14 false = true → t6 = .bool qq)
def hol1A (ts : Tr) (sa : Option Addr) (l : List Sch) (sc PT PY : Nat) (t6 t7 t8 t9 t10 t11 t12 t13 t14 t15 t16 t17 t18 t19 t20 s0 s2 s4 : Value) : Act := { tmps := #[s0, .slice sa l.length sc, s2, .pointer (some ⟨PT, 0, none⟩), s4, .pointer (some ⟨PY, 0, none⟩), t6, t7, t8, t9, t10, t11, t12, t13, t14, t15, t16, t17, t18, t19, t20], defers := [] }
theorem hol1 {Q : Exit → Act → World → Prop} {wr w0 : World} {ts : Tr} {ta : Option Addr} {tc : Nat} {l : List Sch} {sa : Option Addr} {sc PT PY : Nat} {y : Vio} {qq : Bool}  {s0 s2 s4 s6 s7 s8 s9 s10 s11 s12 s13 s14 s15 s16 s17 s18 s19 s20 : Value} (hg0 : Gr w0 wr) (ht : SlOf 3 RNod w0 ta ts) (hc : chkT ts = 0) (hs : SlOf 3 RSch w0 sa l) (hl : SchGood l) (hM : MaxV w0) (hV : StdV w0) (hrt : Row wr PT 29 [.slice ta ts.length tc]) (hry : Row wr PY 36 [.int .i64 y.kind, .int .i64 y.node, .string (bs y.sch), .string (bs y.prop)]) (hnv : (vioT ts l).length ≤ 1000000) (hqq : (vioT ts l).contains y = qq)
    (h' : ∀ t6 t7 t8 t9 t10 t11 t12 t13 t14 t15 t16 t17 t18 t19 t20 wx, t6 = .bool qq → Gr wr wx → Q .normal (hol1A ts sa l sc PT PY t6 t7 t8 t9 t10 t11 t12 t13 t14 t15 t16 t17 t18 t19 t20 s0 s2 s4) wx) :
    (Code.region 1 (regIn 1 Tryz.f12) true).wp Tryz.prog Q { tmps := #[s0, .slice sa l.length sc, s2, .pointer (some ⟨PT, 0, none⟩), s4, .pointer (some ⟨PY, 0, none⟩), s6, s7, s8, s9, s10, s11, s12, s13, s14, s15, s16, s17, s18, s19, s20], defers := [] } wr := by
  have HG0 := PLift.up hg0
  have HT := PLift.up ht
  have HC := PLift.up hc
  have HS := PLift.up hs
  have HL := PLift.up hl
  have HM := PLift.up hM
  have HV := PLift.up hV
  have HRT := PLift.up hrt
  have HRY := PLift.up hry
  have HNV := PLift.up hnv
  have HQQ := PLift.up hqq
  clear hg0 ht hc hs hl hM hV hrt hry hnv hqq
  simp only [regIn, Tryz.f12, regOps, Option.bind_some, Option.getD_some, Nat.beq, cond_true, cond_false]
  refine wp_region_steps (fun done a w => ∃ t6 t7 t8 t9 t10 t11 t12 t13 t14 t15 t16 t17 t18 t19 t20, a = hol1A ts sa l sc PT PY t6 t7 t8 t9 t10 t11 t12 t13 t14 t15 t16 t17 t18 t19 t20 s0 s2 s4 ∧ hol1F wr w0 ts ta tc l sa sc PT PY y qq t6 t7 t8 t9 t10 t11 t12 t13 t14 t15 t16 t17 t18 t19 t20 done w) (by kernel_rfl) (by kernel_rfl) ?_ ⟨?_, ?_, ?_, ?_, ?_, ?_, ?_, ?_, ?_, ?_, ?_, ?_, ?_, ?_, ?_, trivial⟩ ?_
  · exact ⟨s6, s7, s8, s9, s10, s11, s12, s13, s14, s15, s16, s17, s18, s19, s20, rfl, (Gr.refl _).drew, fun q => absurd q (by decide), fun q => absurd q (by decide), fun q => absurd q (by decide), fun q => absurd q (by decide), fun q => absurd q (by decide), fun q => absurd q (by decide), fun q => absurd q (by decide), fun q => absurd q (by decide), fun q => absurd q (by decide), fun q => absurd q (by decide), fun q => absurd q (by decide), fun q => absurd q (by decide), fun q => absurd q (by decide), fun q => absurd q (by decide), fun q => absurd q (by decide)⟩
  · rintro done a w hsz hnot hdep ⟨t6, t7, t8, t9, t10, t11, t12, t13, t14, t15, t16, t17, t18, t19, t20, rfl, gw, f0, f1, f2, f3, f4, f5, f6, f7, f8, f9, f10, f11, f12, f13, f14⟩ K hK
    have hn : ¬ done.getD 0 false = true := by rw [getD_both hnot]; decide
    have c0 : w.cell? ⟨PT, 0, none⟩ = some (.slice ta ts.length tc) := (HRT.down.gr gw).cell 0 (by simp)
    have ch := has_of_cell c0
    have HK := PLift.up hK
    clear hK 
    simp only [hol1A]
    go_simp
    have gg : Gr w w := Gr.refl _
    refine HK.down _ _ ⟨_, _, _, _, _, _, _, _, _, _, _, _, _, _, _, rfl, gw, fun _ => rfl, kp f1, kp f2, kp f3, fun q => (let ⟨B, e, h2⟩ := f4 (done_old q (by decide)); ⟨B, e, h2.gr gg⟩), kp f5, kp f6, kp f7, kp f8, kp f9, fun q => (let ⟨a, c, e, h2⟩ := f10 (done_old q (by decide)); ⟨a, c, e, h2.gr gg⟩), kp f11, kp f12, kp f13, kp f14⟩
  · rintro done a w hsz hnot hdep ⟨t6, t7, t8, t9, t10, t11, t12, t13, t14, t15, t16, t17, t18, t19, t20, rfl, gw, f0, f1, f2, f3, f4, f5, f6, f7, f8, f9, f10, f11, f12, f13, f14⟩ K hK
    have hn : ¬ done.getD 1 false = true := by rw [getD_both hnot]; decide
    have d0 := hdep 0 (by kernel_rfl)
    obtain rfl := f0 d0
    have GW := PLift.up gw
    have HK := PLift.up hK
    clear hK d0
    simp only [hol1A]
    go_simp
    have TCK := treeCheck_any ts ta tc w (HT.down.gr RNod.mono (HG0.down.trans GW.down)) (by unfold Fit; have := (good_of HC.down).len.2; omega)
    rw [HC.down] at TCK
    refine TCK.mono ?_
    rintro e w2 ⟨rfl, hg⟩
    have gg : Gr w w2 := hg
    clear hg
    (try go_simp)
    refine HK.down _ _ ⟨_, _, _, _, _, _, _, _, _, _, _, _, _, _, _, rfl, gw.trans gg, kp f0, fun _ => rfl, kp f2, kp f3, fun q => (let ⟨B, e, h2⟩ := f4 (done_old q (by decide)); ⟨B, e, h2.gr gg⟩), kp f5, kp f6, kp f7, kp f8, kp f9, fun q => (let ⟨a, c, e, h2⟩ := f10 (done_old q (by decide)); ⟨a, c, e, h2.gr gg⟩), kp f11, kp f12, kp f13, kp f14⟩
  · rintro done a w hsz hnot hdep ⟨t6, t7, t8, t9, t10, t11, t12, t13, t14, t15, t16, t17, t18, t19, t20, rfl, gw, f0, f1, f2, f3, f4, f5, f6, f7, f8, f9, f10, f11, f12, f13, f14⟩ K hK
    have hn : ¬ done.getD 2 false = true := by rw [getD_both hnot]; decide
    have HK := PLift.up hK
    clear hK 
    simp only [hol1A]
    go_simp
    have gg : Gr w w := Gr.refl _
    refine HK.down _ _ ⟨_, _, _, _, _, _, _, _, _, _, _, _, _, _, _, rfl, gw, kp f0, kp f1, fun _ => rfl, kp f3, fun q => (let ⟨B, e, h2⟩ := f4 (done_old q (by decide)); ⟨B, e, h2.gr gg⟩), kp f5, kp f6, kp f7, kp f8, kp f9, fun q => (let ⟨a, c, e, h2⟩ := f10 (done_old q (by decide)); ⟨a, c, e, h2.gr gg⟩), kp f11, kp f12, kp f13, kp f14⟩
  · rintro done a w hsz hnot hdep ⟨t6, t7, t8, t9, t10, t11, t12, t13, t14, t15, t16, t17, t18, t19, t20, rfl, gw, f0, f1, f2, f3, f4, f5, f6, f7, f8, f9, f10, f11, f12, f13, f14⟩ K hK
    have hn : ¬ done.getD 3 false = true := by rw [getD_both hnot]; decide
    have d2 := hdep 2 (by kernel_rfl)
    obtain rfl := f2 d2
    have GW := PLift.up gw
    have HK := PLift.up hK
    clear hK d2
    simp only [hol1A]
    go_simp
    have SCK := check_any l sa sc w (HS.down.giC (HG0.down.trans GW.down)) HL.down.ok.1 HL.down.sml
    rw [HL.down.chk] at SCK
    refine SCK.mono ?_
    rintro e w2 ⟨rfl, hg⟩
    have gg : Gr w w2 := hg
    clear hg
    (try go_simp)
    refine HK.down _ _ ⟨_, _, _, _, _, _, _, _, _, _, _, _, _, _, _, rfl, gw.trans gg, kp f0, kp f1, kp f2, fun _ => rfl, fun q => (let ⟨B, e, h2⟩ := f4 (done_old q (by decide)); ⟨B, e, h2.gr gg⟩), kp f5, kp f6, kp f7, kp f8, kp f9, fun q => (let ⟨a, c, e, h2⟩ := f10 (done_old q (by decide)); ⟨a, c, e, h2.gr gg⟩), kp f11, kp f12, kp f13, kp f14⟩
  · rintro done a w hsz hnot hdep ⟨t6, t7, t8, t9, t10, t11, t12, t13, t14, t15, t16, t17, t18, t19, t20, rfl, gw, f0, f1, f2, f3, f4, f5, f6, f7, f8, f9, f10, f11, f12, f13, f14⟩ K hK
    have hn : ¬ done.getD 4 false = true := by rw [getD_both hnot]; decide
    have d1 := hdep 1 (by kernel_rfl)
    have d3 := hdep 3 (by kernel_rfl)
    obtain rfl := f1 d1
    obtain rfl := f3 d3
    have HK := PLift.up hK
    clear hK d1 d3
    simp only [hol1A]
    go_simp
    have gg : Gr w (w.alloc (.cells #[.int .i64 0, .int .i64 0] 32)) := (Gr.refl _).alloc _
    refine HK.down _ _ ⟨_, _, _, _, _, _, _, _, _, _, _, _, _, _, _, rfl, gw.trans gg, kp f0, kp f1, kp f2, kp f3, ?_, kp f5, kp f6, kp f7, kp f8, kp f9, fun q => (let ⟨a, c, e, h2⟩ := f10 (done_old q (by decide)); ⟨a, c, e, h2.gr gg⟩), kp f11, kp f12, kp f13, kp f14⟩
    exact fun _ => ⟨_, rfl, Row.new w _ _⟩
  · rintro done a w hsz hnot hdep ⟨t6, t7, t8, t9, t10, t11, t12, t13, t14, t15, t16, t17, t18, t19, t20, rfl, gw, f0, f1, f2, f3, f4, f5, f6, f7, f8, f9, f10, f11, f12, f13, f14⟩ K hK
    have hn : ¬ done.getD 5 false = true := by rw [getD_both hnot]; decide
    have d4 := hdep 4 (by kernel_rfl)
    obtain ⟨B, rfl, h2⟩ := f4 d4
    have HB := PLift.up h2
    have GW := PLift.up gw
    have HK := PLift.up hK
    clear hK 
    simp only [hol1A]
    go_simp
    refine (or2_any0 0 0 0 2 w B HB.down (.inl ⟨rfl, rfl⟩)).mono ?_
    rintro e w2 ⟨rfl, hg⟩
    have gg : Gr w w2 := hg
    clear hg
    (try go_simp)
    refine HK.down _ _ ⟨_, _, _, _, _, _, _, _, _, _, _, _, _, _, _, rfl, gw.trans gg, kp f0, kp f1, kp f2, kp f3, fun _ => ⟨B, rfl, HB.down.gr gg⟩, fun _ => rfl, kp f6, kp f7, kp f8, kp f9, fun q => (let ⟨a, c, e, h2⟩ := f10 (done_old q (by decide)); ⟨a, c, e, h2.gr gg⟩), kp f11, kp f12, kp f13, kp f14⟩
  · rintro done a w hsz hnot hdep ⟨t6, t7, t8, t9, t10, t11, t12, t13, t14, t15, t16, t17, t18, t19, t20, rfl, gw, f0, f1, f2, f3, f4, f5, f6, f7, f8, f9, f10, f11, f12, f13, f14⟩ K hK
    have hn : ¬ done.getD 6 false = true := by rw [getD_both hnot]; decide
    have d5 := hdep 5 (by kernel_rfl)
    obtain rfl := f5 d5
    have HK := PLift.up hK
    clear hK d5
    simp only [hol1A]
    go_simp
    have gg : Gr w w := Gr.refl _
    refine HK.down _ _ ⟨_, _, _, _, _, _, _, _, _, _, _, _, _, _, _, rfl, gw, kp f0, kp f1, kp f2, kp f3, fun q => (let ⟨B, e, h2⟩ := f4 (done_old q (by decide)); ⟨B, e, h2.gr gg⟩), kp f5, fun _ => rfl, kp f7, kp f8, kp f9, fun q => (let ⟨a, c, e, h2⟩ := f10 (done_old q (by decide)); ⟨a, c, e, h2.gr gg⟩), kp f11, kp f12, kp f13, kp f14⟩
  · rintro done a w hsz hnot hdep ⟨t6, t7, t8, t9, t10, t11, t12, t13, t14, t15, t16, t17, t18, t19, t20, rfl, gw, f0, f1, f2, f3, f4, f5, f6, f7, f8, f9, f10, f11, f12, f13, f14⟩ K hK
    have hn : ¬ done.getD 7 false = true := by rw [getD_both hnot]; decide
    have d6 := hdep 6 (by kernel_rfl)
    obtain rfl := f6 d6
    have HK := PLift.up hK
    clear hK d6
    simp only [hol1A]
    go_simp
    have gg : Gr w w := Gr.refl _
    refine HK.down _ _ ⟨_, _, _, _, _, _, _, _, _, _, _, _, _, _, _, rfl, gw, kp f0, kp f1, kp f2, kp f3, fun q => (let ⟨B, e, h2⟩ := f4 (done_old q (by decide)); ⟨B, e, h2.gr gg⟩), kp f5, kp f6, fun _ => rfl, kp f8, kp f9, fun q => (let ⟨a, c, e, h2⟩ := f10 (done_old q (by decide)); ⟨a, c, e, h2.gr gg⟩), kp f11, kp f12, kp f13, kp f14⟩
  · rintro done a w hsz hnot hdep ⟨t6, t7, t8, t9, t10, t11, t12, t13, t14, t15, t16, t17, t18, t19, t20, rfl, gw, f0, f1, f2, f3, f4, f5, f6, f7, f8, f9, f10, f11, f12, f13, f14⟩ K hK
    have hn : ¬ done.getD 8 false = true := by rw [getD_both hnot]; decide
    have d7 := hdep 7 (by kernel_rfl)
    obtain rfl := f7 d7
    have c0 : w.cell? ⟨PT, 0, none⟩ = some (.slice ta ts.length tc) := (HRT.down.gr gw).cell 0 (by simp)
    have ch := has_of_cell c0
    have HK := PLift.up hK
    clear hK d7
    simp only [hol1A]
    go_simp
    have gg : Gr w w := Gr.refl _
    refine HK.down _ _ ⟨_, _, _, _, _, _, _, _, _, _, _, _, _, _, _, rfl, gw, kp f0, kp f1, kp f2, kp f3, fun q => (let ⟨B, e, h2⟩ := f4 (done_old q (by decide)); ⟨B, e, h2.gr gg⟩), kp f5, kp f6, kp f7, fun _ => rfl, kp f9, fun q => (let ⟨a, c, e, h2⟩ := f10 (done_old q (by decide)); ⟨a, c, e, h2.gr gg⟩), kp f11, kp f12, kp f13, kp f14⟩
  · rintro done a w hsz hnot hdep ⟨t6, t7, t8, t9, t10, t11, t12, t13, t14, t15, t16, t17, t18, t19, t20, rfl, gw, f0, f1, f2, f3, f4, f5, f6, f7, f8, f9, f10, f11, f12, f13, f14⟩ K hK
    have hn : ¬ done.getD 9 false = true := by rw [getD_both hnot]; decide
    have d7 := hdep 7 (by kernel_rfl)
    obtain rfl := f7 d7
    have HK := PLift.up hK
    clear hK d7
    simp only [hol1A]
    go_simp
    have gg : Gr w w := Gr.refl _
    refine HK.down _ _ ⟨_, _, _, _, _, _, _, _, _, _, _, _, _, _, _, rfl, gw, kp f0, kp f1, kp f2, kp f3, fun q => (let ⟨B, e, h2⟩ := f4 (done_old q (by decide)); ⟨B, e, h2.gr gg⟩), kp f5, kp f6, kp f7, kp f8, fun _ => rfl, fun q => (let ⟨a, c, e, h2⟩ := f10 (done_old q (by decide)); ⟨a, c, e, h2.gr gg⟩), kp f11, kp f12, kp f13, kp f14⟩
  · rintro done a w hsz hnot hdep ⟨t6, t7, t8, t9, t10, t11, t12, t13, t14, t15, t16, t17, t18, t19, t20, rfl, gw, f0, f1, f2, f3, f4, f5, f6, f7, f8, f9, f10, f11, f12, f13, f14⟩ K hK
    have hn : ¬ done.getD 10 false = true := by rw [getD_both hnot]; decide
    have d7 := hdep 7 (by kernel_rfl)
    have d8 := hdep 8 (by kernel_rfl)
    have d9 := hdep 9 (by kernel_rfl)
    obtain rfl := f7 d7
    obtain rfl := f8 d8
    obtain rfl := f9 d9
    have GW := PLift.up gw
    have HK := PLift.up hK
    clear hK d7 d8 d9
    simp only [hol1A]
    go_simp
    refine (vios_any ts ta tc l sa sc w (HT.down.gr RNod.mono (HG0.down.trans GW.down)) HC.down (HS.down.giC (HG0.down.trans GW.down)) HL.down.ok (HM.down.gr (HG0.down.trans GW.down)) (HV.down.gr (HG0.down.trans GW.down))).mono ?_
    rintro e w2 ⟨v, rfl, hv, hg⟩
    have gg : Gr w w2 := hg
    obtain ⟨a5, c5, rfl⟩ := hv.form
    have VV := PLift.up (show VO w0.heap.size w2 _ _ from owns_low hv (HG0.down.trans GW.down).size)
    clear hg hv
    (try go_simp)
    refine HK.down _ _ ⟨_, _, _, _, _, _, _, _, _, _, _, _, _, _, _, rfl, gw.trans gg, kp f0, kp f1, kp f2, kp f3, fun q => (let ⟨B, e, h2⟩ := f4 (done_old q (by decide)); ⟨B, e, h2.gr gg⟩), kp f5, kp f6, kp f7, kp f8, kp f9, ?_, kp f11, kp f12, kp f13, kp f14⟩
    exact fun _ => ⟨_, _, rfl, VV.down⟩
  · rintro done a w hsz hnot hdep ⟨t6, t7, t8, t9, t10, t11, t12, t13, t14, t15, t16, t17, t18, t19, t20, rfl, gw, f0, f1, f2, f3, f4, f5, f6, f7, f8, f9, f10, f11, f12, f13, f14⟩ K hK
    have hn : ¬ done.getD 11 false = true := by rw [getD_both hnot]; decide
    have d7 := hdep 7 (by kernel_rfl)
    obtain rfl := f7 d7
    have q0 := (HRY.down.gr gw).cell 0 (by simp)
    have q1 := (HRY.down.gr gw).cell 1 (by simp)
    have q2 := (HRY.down.gr gw).cell 2 (by simp)
    have q3 := (HRY.down.gr gw).cell 3 (by simp)
    simp only [List.getElem_cons_zero, List.getElem_cons_succ] at q0 q1 q2 q3
    have ch := has_of_cell q0
    have HK := PLift.up hK
    clear hK d7
    simp only [hol1A]
    go_simp
    have gg : Gr w w := Gr.refl _
    refine HK.down _ _ ⟨_, _, _, _, _, _, _, _, _, _, _, _, _, _, _, rfl, gw, kp f0, kp f1, kp f2, kp f3, fun q => (let ⟨B, e, h2⟩ := f4 (done_old q (by decide)); ⟨B, e, h2.gr gg⟩), kp f5, kp f6, kp f7, kp f8, kp f9, fun q => (let ⟨a, c, e, h2⟩ := f10 (done_old q (by decide)); ⟨a, c, e, h2.gr gg⟩), fun _ => rfl, kp f12, kp f13, kp f14⟩
  · rintro done a w hsz hnot hdep ⟨t6, t7, t8, t9, t10, t11, t12, t13, t14, t15, t16, t17, t18, t19, t20, rfl, gw, f0, f1, f2, f3, f4, f5, f6, f7, f8, f9, f10, f11, f12, f13, f14⟩ K hK
    have hn : ¬ done.getD 12 false = true := by rw [getD_both hnot]; decide
    have d7 := hdep 7 (by kernel_rfl)
    have d10 := hdep 10 (by kernel_rfl)
    have d11 := hdep 11 (by kernel_rfl)
    obtain rfl := f7 d7
    obtain rfl := f11 d11
    obtain ⟨a5, c5, rfl, h2⟩ := f10 d10
    have HVV := PLift.up h2
    have GW := PLift.up gw
    have HK := PLift.up hK
    clear hK d7 d11
    simp only [hol1A]
    go_simp
    have CC := conV_any (vioT ts l) y w0.heap.size a5 c5 w HVV.down HNV.down
    rw [HQQ.down] at CC
    refine CC.mono ?_
    rintro e w2 ⟨rfl, hg⟩
    have gg : Gr w w2 := hg
    clear hg
    (try go_simp)
    refine HK.down _ _ ⟨_, _, _, _, _, _, _, _, _, _, _, _, _, _, _, rfl, gw.trans gg, kp f0, kp f1, kp f2, kp f3, fun q => (let ⟨B, e, h2⟩ := f4 (done_old q (by decide)); ⟨B, e, h2.gr gg⟩), kp f5, kp f6, kp f7, kp f8, kp f9, fun _ => ⟨_, _, rfl, HVV.down.gr gg⟩, kp f11, fun _ => rfl, kp f13, kp f14⟩
  · rintro done a w hsz hnot hdep ⟨t6, t7, t8, t9, t10, t11, t12, t13, t14, t15, t16, t17, t18, t19, t20, rfl, gw, f0, f1, f2, f3, f4, f5, f6, f7, f8, f9, f10, f11, f12, f13, f14⟩ K hK
    have hn : ¬ done.getD 13 false = true := by rw [getD_both hnot]; decide
    have d7 := hdep 7 (by kernel_rfl)
    have d12 := hdep 12 (by kernel_rfl)
    obtain rfl := f7 d7
    obtain rfl := f12 d12
    have HK := PLift.up hK
    clear hK d7 d12
    simp only [hol1A]
    go_simp
    have gg : Gr w w := Gr.refl _
    refine HK.down _ _ ⟨_, _, _, _, _, _, _, _, _, _, _, _, _, _, _, rfl, gw, kp f0, kp f1, kp f2, kp f3, fun q => (let ⟨B, e, h2⟩ := f4 (done_old q (by decide)); ⟨B, e, h2.gr gg⟩), kp f5, kp f6, kp f7, kp f8, kp f9, fun q => (let ⟨a, c, e, h2⟩ := f10 (done_old q (by decide)); ⟨a, c, e, h2.gr gg⟩), kp f11, kp f12, fun _ => rfl, kp f14⟩
  · rintro done a w hsz hnot hdep ⟨t6, t7, t8, t9, t10, t11, t12, t13, t14, t15, t16, t17, t18, t19, t20, rfl, gw, f0, f1, f2, f3, f4, f5, f6, f7, f8, f9, f10, f11, f12, f13, f14⟩ K hK
    have hn : ¬ done.getD 14 false = true := by rw [getD_both hnot]; decide
    have d13 := hdep 13 (by kernel_rfl)
    obtain rfl := f13 d13
    have HK := PLift.up hK
    clear hK d13
    simp only [hol1A]
    go_simp
    have gg : Gr w w := Gr.refl _
    refine HK.down _ _ ⟨_, _, _, _, _, _, _, _, _, _, _, _, _, _, _, rfl, gw, kp f0, kp f1, kp f2, kp f3, fun q => (let ⟨B, e, h2⟩ := f4 (done_old q (by decide)); ⟨B, e, h2.gr gg⟩), kp f5, kp f6, kp f7, kp f8, kp f9, fun q => (let ⟨a, c, e, h2⟩ := f10 (done_old q (by decide)); ⟨a, c, e, h2.gr gg⟩), kp f11, kp f12, kp f13, fun _ => rfl⟩
  · rintro done a w hall ⟨t6, t7, t8, t9, t10, t11, t12, t13, t14, t15, t16, t17, t18, t19, t20, rfl, gw, f0, f1, f2, f3, f4, f5, f6, f7, f8, f9, f10, f11, f12, f13, f14⟩
    exact h' _ _ _ _ _ _ _ _ _ _ _ _ _ _ _ w (f14 (hall 14 (by decide))) gw
theorem holds_any (ts : Tr) (ta : Option Addr) (tc : Nat) (l : List Sch) (sa : Option Addr) (sc : Nat) (y : Vio) (w : World) (h : SlOf 3 RNod w ta ts) (hc : chkT ts = 0) (hs : SlOf 3 RSch w sa l) (hl : SchGood l) (hM : MaxV w) (hV : StdV w) (hn : (vioT ts l).length ≤ 1000000) :
    Calls Tryz.prog 12 #[.agg #[.slice ta ts.length tc], .slice sa l.length sc, .agg #[.int .i64 y.kind, .int .i64 y.node, .string (bs y.sch), .string (bs y.prop)]] w (Grows w (.bool ((vioT ts l).contains y))) := by
  have H := Lib.hid h
  have HC := Lib.hid hc
  have HS := Lib.hid hs
  have HL := Lib.hid hl
  have HM := Lib.hid hM
  have HV := Lib.hid hV
  have HN := Lib.hid hn
  clear h hc hs hl hM hV hn
  obtain ⟨qq, hqq⟩ : ∃ qq, (vioT ts l).contains y = qq := ⟨_, rfl⟩
  rw [hqq]
  have HQQ := Lib.hid hqq
  clear hqq
  obtain ⟨P0, hP0⟩ : ∃ P : Ending → World → Prop, P = Grows w (.bool qq) := ⟨_, rfl⟩
  rw [← hP0]
  have HP0 := Lib.hid hP0
  clear hP0
  go_enter Tryz.func12, Tryz.ntmps12
  go_upto_region 1 with (fail)
  have e1 : (w.alloc (.cells #[.slice ta ts.length tc] 29)).heap.size = w.heap.size + 1 := by simp
  have RT := Lib.hid ((Row.new w #[.slice ta ts.length tc] 29).alloc (.cells #[.int .i64 y.kind, .int .i64 y.node, .string (bs y.sch), .string (bs y.prop)] 36))
  have RY := Row.new (w.alloc (.cells #[.slice ta ts.length tc] 29)) #[.int .i64 y.kind, .int .i64 y.node, .string (bs y.sch), .string (bs y.prop)] 36
  rw [e1] at RY
  have RY := Lib.hid RY
  clear e1
  obtain ⟨W, hW⟩ : ∃ W : World, Hid (W = (w.alloc (.cells #[.slice ta ts.length tc] 29)).alloc (.cells #[.int .i64 y.kind, .int .i64 y.node, .string (bs y.sch), .string (bs y.prop)] 36)) := ⟨_, Lib.hid rfl⟩
  have GW : Hid (Gr w W) := Lib.hid (by rw [hW.out]; exact ((Gr.refl _).alloc _).alloc _)
  rw [← hW.out] at RT RY ⊢
  obtain ⟨PT, hPT⟩ : ∃ N : Nat, Hid (w.heap.size = N) := ⟨_, Lib.hid rfl⟩
  rw [hPT.out] at RT RY ⊢
  obtain ⟨PY, hPY⟩ : ∃ N : Nat, Hid (PT + 1 = N) := ⟨_, Lib.hid rfl⟩
  rw [hPY.out] at RY ⊢
  clear hW hPT hPY
  refine wp_code_eq (c := Code.region 1 (regIn 1 Tryz.f12) true) (by kernel_rfl) (hol1 (wr := W) (y := y) GW.out H.out HC.out HS.out HL.out HM.out HV.out RT.out RY.out HN.out HQQ.out ?_)
  intro t6 t7 t8 t9 t10 t11 t12 t13 t14 t15 t16 t17 t18 t19 t20 wx e6 hgx
  subst e6
  have GX := Lib.hid (GW.out.trans hgx)
  unfold hol1A
  clear hgx
  go_wp2_with fail
  rw [HP0.out]
  exact ⟨rfl, GX.out⟩
def exR10 : Rul := ⟨[112], true, 1, 0, 0, 0, []⟩
def exL10 : List Sch := [⟨[98], false, [exR10]⟩]
def exT10 : Tr := [⟨-1, [], [⟨cmpN, [98, 0]⟩]⟩]
def exY10 : Vio := ⟨1, 0, [98], [112]⟩
theorem exT10_chk : chkT exT10 = 0 := by decide +kernel
theorem exL10_chk : chkSch exL10 = 0 := by decide +kernel
theorem ex10_vio : vioT exT10 exL10 = [exY10] := by kernel_rfl
theorem exL10_good : SchGood exL10 := by
  refine ⟨⟨by decide, fun s hs => ?_⟩, fun s hs => ?_, exL10_chk⟩
  · rw [List.mem_singleton.1 hs]
    refine ⟨by decide, fun r hr => ?_⟩
    rw [List.mem_singleton.1 hr]; decide
  · rw [List.mem_singleton.1 hs]
    refine ⟨by decide, by decide, fun r hr => ?_⟩
    rw [List.mem_singleton.1 hr]
    exact ⟨by decide, by decide, fun y hy => by cases hy⟩
theorem rul_row {w : World} {B T : Nat} {r : Rul} (h : Row w B T [.string (bs r.name), .bool r.req, .int .i64 r.kind, .int .i64 r.low, .int .i64 r.high, .int .i64 r.count, .slice none 0 0]) (hw : r.words = []) (hn : r.name.length ≤ 9223372036854775807) (h2 : Wide r.kind) (h3 : Wide r.low) (h4 : Wide r.high) (h5 : Wide r.count) :
    SlOf 7 RRul w (some ⟨B, 0, none⟩) [r] := fun k hk => by
  obtain rfl : k = 0 := by simp at hk; omega
  have c0 := h.cell 0 (by simp)
  have c1 := h.cell 1 (by simp)
  have c2 := h.cell 2 (by simp)
  have c3 := h.cell 3 (by simp)
  have c4 := h.cell 4 (by simp)
  have c5 := h.cell 5 (by simp)
  have c6 := h.cell 6 (by simp)
  refine ⟨B, 0, rfl, ⟨c0, hn⟩, c1, ⟨c2, h2⟩, ⟨c3, h3⟩, ⟨c4, h4⟩, ⟨c5, h5⟩, none, 0, ?_, ?_, ?_, ?_⟩
  · show w.cell? _ = _
    rw [show ([r] : List Rul)[0].words = [] from hw]
    exact c6
  · rw [show ([r] : List Rul)[0].words = [] from hw]; exact Nat.le_refl _
  · rw [show ([r] : List Rul)[0].words = [] from hw]; unfold Fit; simp
  · rw [show ([r] : List Rul)[0].words = [] from hw]; exact SlOf.nil _ _ _ _
theorem sch_row {w : World} {B T n c : Nat} {s : Sch} {a : Option Addr} (h : Row w B T [.string (bs s.comp), .bool s.closed, .slice a n c]) (hn : s.rules.length = n) (hc : n ≤ c) (hf : n ≤ 1000) (hl : s.comp.length ≤ 1000) (hr : SlOf 7 RRul w a s.rules) :
    SlOf 3 RSch w (some ⟨B, 0, none⟩) [s] := fun k hk => by
  obtain rfl : k = 0 := by simp at hk; omega
  have c0 := h.cell 0 (by simp)
  have c1 := h.cell 1 (by simp)
  have c2 := h.cell 2 (by simp)
  refine ⟨B, 0, rfl, ⟨c0, ?_⟩, c1, a, c, ?_, ?_, ?_, ?_⟩
  · show s.comp.length ≤ _; omega
  · show w.cell? _ = some (.slice a s.rules.length c)
    rw [hn]; exact c2
  · show s.rules.length ≤ c
    omega
  · show Fit s.rules.length
    unfold Fit; omega
  · exact hr
theorem prp_row {w : World} {B T : Nat} {p : Prp} (h : Row w B T [.string (bs p.name), .string (bs p.val)]) (h1 : p.name.length ≤ 1000) (h2 : p.val.length ≤ 1000) : SlOf 2 RPrp w (some ⟨B, 0, none⟩) [p] := fun k hk => by
  obtain rfl : k = 0 := by simp at hk; omega
  have c0 := h.cell 0 (by simp)
  have c1 := h.cell 1 (by simp)
  refine ⟨B, 0, rfl, ⟨c0, ?_⟩, ⟨c1, ?_⟩⟩
  · show p.name.length ≤ _; omega
  · show p.val.length ≤ _; omega
theorem nod_row {w : World} {B T m c : Nat} {n : Nod} {a : Option Addr} (h : Row w B T [.int .i64 n.parent, .string (bs n.name), .slice a m c]) (hn : n.props.length = m) (hc : m ≤ c) (hf : m ≤ 1000) (hl : n.name.length ≤ 1000) (hp : Wide n.parent) (hr : SlOf 2 RPrp w a n.props) :
    SlOf 3 RNod w (some ⟨B, 0, none⟩) [n] := fun k hk => by
  obtain rfl : k = 0 := by simp at hk; omega
  have c0 := h.cell 0 (by simp)
  have c1 := h.cell 1 (by simp)
  have c2 := h.cell 2 (by simp)
  refine ⟨B, 0, rfl, ⟨c0, hp⟩, ⟨c1, ?_⟩, a, c, ?_, ?_, ?_, ?_⟩
  · show n.name.length ≤ _; omega
  · show w.cell? _ = some (.slice a n.props.length c)
    rw [hn]; exact c2
  · show n.props.length ≤ c
    omega
  · show Fit n.props.length
    unfold Fit; omega
  · exact hr
theorem awake10_any (w : World) (hM : MaxV w) (hV : StdV w) : Calls Tryz.prog 13 #[] w (Grows w (.bool true)) := by
  have HM := Lib.hid hM
  have HV := Lib.hid hV
  clear hM hV
  go_enter Tryz.func13, Tryz.ntmps13
  go_upto_region 3 with (fail)
  obtain ⟨V0, hV0⟩ : ∃ W : World, Hid (W = w.alloc (.cells #[.string ⟨#[112]⟩, .bool true, .int .i64 1, .int .i64 0, .int .i64 0, .int .i64 0, .slice none 0 0] 51)) := ⟨_, Lib.hid rfl⟩
  have z0 : V0.heap.size = w.heap.size + 1 := by rw [hV0.out]; simp
  have g0 : Gr w V0 := by rw [hV0.out]; exact (Gr.refl _).alloc _
  have r0 := Row.new w #[.string ⟨#[112]⟩, .bool true, .int .i64 1, .int .i64 0, .int .i64 0, .int .i64 0, .slice none 0 0] 51
  rw [← hV0.out] at r0
  rw [← hV0.out]
  obtain ⟨V1, hV1⟩ : ∃ W : World, Hid (W = V0.alloc (.cells #[.string ⟨#[98]⟩, .bool false, .slice (some ⟨w.heap.size, 0, none⟩) 1 1] 48)) := ⟨_, Lib.hid rfl⟩
  have z1 : V1.heap.size = w.heap.size + 1 + 1 := by rw [hV1.out]; simp [z0]
  have g1 : Gr V0 V1 := by rw [hV1.out]; exact (Gr.refl _).alloc _
  have r1 := Row.new V0 #[.string ⟨#[98]⟩, .bool false, .slice (some ⟨w.heap.size, 0, none⟩) 1 1] 48
  rw [← hV1.out, z0] at r1
  rw [← hV1.out]
  obtain ⟨V2, hV2⟩ : ∃ W : World, Hid (W = V1.alloc (.cells #[.string ⟨#[99, 111, 109, 112, 97, 116, 105, 98, 108, 101]⟩, .string ⟨#[98, 0]⟩] 83)) := ⟨_, Lib.hid rfl⟩
  have z2 : V2.heap.size = w.heap.size + 1 + 1 + 1 := by rw [hV2.out]; simp [z1]
  have g2 : Gr V1 V2 := by rw [hV2.out]; exact (Gr.refl _).alloc _
  have r2 := Row.new V1 #[.string ⟨#[99, 111, 109, 112, 97, 116, 105, 98, 108, 101]⟩, .string ⟨#[98, 0]⟩] 83
  rw [← hV2.out, z1] at r2
  rw [← hV2.out]
  obtain ⟨V3, hV3⟩ : ∃ W : World, Hid (W = V2.alloc (.cells #[.int .i64 (-1), .string ⟨#[]⟩, .slice (some ⟨w.heap.size + 1 + 1, 0, none⟩) 1 1] 86)) := ⟨_, Lib.hid rfl⟩
  have z3 : V3.heap.size = w.heap.size + 1 + 1 + 1 + 1 := by rw [hV3.out]; simp [z2]
  have g3 : Gr V2 V3 := by rw [hV3.out]; exact (Gr.refl _).alloc _
  have r3 := Row.new V2 #[.int .i64 (-1), .string ⟨#[]⟩, .slice (some ⟨w.heap.size + 1 + 1, 0, none⟩) 1 1] 86
  rw [← hV3.out, z2] at r3
  rw [← hV3.out]
  obtain ⟨V4, hV4⟩ : ∃ W : World, Hid (W = V3.alloc (.cells #[.slice (some ⟨w.heap.size + 1 + 1 + 1, 0, none⟩) 1 1] 29)) := ⟨_, Lib.hid rfl⟩
  have z4 : V4.heap.size = w.heap.size + 1 + 1 + 1 + 1 + 1 := by rw [hV4.out]; simp [z3]
  have g4 : Gr V3 V4 := by rw [hV4.out]; exact (Gr.refl _).alloc _
  have r4 := Row.new V3 #[.slice (some ⟨w.heap.size + 1 + 1 + 1, 0, none⟩) 1 1] 29
  rw [← hV4.out, z3] at r4
  rw [← hV4.out]
  have G1 := Lib.hid (g1.trans (g2.trans (g3.trans g4)))
  have GW := Lib.hid (g0.trans G1.out)
  have R0 := r0.gr G1.out
  have R1 := r1.gr (g2.trans (g3.trans g4))
  have R2 := r2.gr (g3.trans g4)
  have R3 := r3.gr g4
  have R4 := Lib.hid r4
  have SR : SlOf 7 RRul V4 (some ⟨w.heap.size, 0, none⟩) [exR10] := rul_row R0 rfl (by decide) (by unfold Wide; decide) (by unfold Wide; decide) (by unfold Wide; decide) (by unfold Wide; decide)
  have SS := Lib.hid (show SlOf 3 RSch V4 (some ⟨w.heap.size + 1, 0, none⟩) exL10 from sch_row (n := 1) (c := 1) R1 rfl (by omega) (by omega) (by decide) SR)
  have SP : SlOf 2 RPrp V4 (some ⟨w.heap.size + 1 + 1, 0, none⟩) [⟨cmpN, [98, 0]⟩] := prp_row R2 (by decide) (by decide)
  have ST := Lib.hid (show SlOf 3 RNod V4 (some ⟨w.heap.size + 1 + 1 + 1, 0, none⟩) exT10 from nod_row (n := ⟨-1, [], [⟨cmpN, [98, 0]⟩]⟩) (m := 1) (c := 1) R3 rfl (by omega) (by omega) (by decide) (by unfold Wide; decide) SP)
  clear G1 SR SP R0 R1 R2 R3 r0 r1 r2 r3 r4 g0 g1 g2 g3 g4 z0 z1 z2 z3 z4 hV0 hV1 hV2 hV3 hV4 V0 V1 V2 V3
  obtain ⟨BS, hBS⟩ : ∃ N : Nat, Hid (w.heap.size + 1 = N) := ⟨_, Lib.hid rfl⟩
  obtain ⟨BT, hBT⟩ : ∃ N : Nat, Hid (w.heap.size + 1 + 1 + 1 = N) := ⟨_, Lib.hid rfl⟩
  obtain ⟨BX, hBX⟩ : ∃ N : Nat, Hid (w.heap.size + 1 + 1 + 1 + 1 = N) := ⟨_, Lib.hid rfl⟩
  rw [hBX.out, hBT.out] at R4
  rw [hBX.out, hBT.out]
  rw [hBS.out] at SS ⊢
  rw [hBT.out] at ST
  clear hBS hBT hBX
  have VC := violations_any exT10 (some ⟨BT, 0, none⟩) 1 exL10 (some ⟨BS, 0, none⟩) 1 V4 ST.out exT10_chk SS.out exL10_good (HM.out.gr GW.out) (HV.out.gr GW.out) (by rw [ex10_vio]; decide)
  rw [ex10_vio] at VC
  have VC := Lib.hid (show Calls Tryz.prog 11 #[.agg #[.slice (some ⟨BT, 0, none⟩) 1 1], .slice (some ⟨BS, 0, none⟩) 1 1] V4 (GivesVios [exY10] V4) from VC)
  have x0 := R4.out.cell 0 (by simp)
  simp only [List.getElem_cons_zero] at x0
  have hx := has_of_cell x0
  go_wp2_with fail
  refine VC.out.mono ?_
  rintro e w1 ⟨v, rfl, hv, hg1⟩
  obtain ⟨a, cc, rfl⟩ := hv.form
  have G2 := Lib.hid (GW.out.trans hg1)
  have R5 := Lib.hid (R4.out.gr hg1)
  obtain ⟨g, rfl, p0, p1, p2, p3⟩ := hv.at (k := 0) (by simp)
  have q0 : w1.cell? ⟨g, 0, none⟩ = some (.int .i64 1) := p0
  have q1 : w1.cell? ⟨g, 1, none⟩ = some (.int .i64 0) := p1
  have q2 : w1.cell? ⟨g, 2, none⟩ = some (.string (bs [98])) := p2
  have q3 : w1.cell? ⟨g, 3, none⟩ = some (.string (bs [112])) := p3
  have HH := Lib.hid (fun W2 (hg : Gr V4 W2) => (by
    have q := holds_any exT10 (some ⟨BT, 0, none⟩) 1 exL10 (some ⟨BS, 0, none⟩) 1 exY10 W2 (ST.out.gr RNod.mono hg) exT10_chk (SS.out.giC hg) exL10_good ((HM.out.gr GW.out).gr hg) ((HV.out.gr GW.out).gr hg) (by rw [ex10_vio]; decide)
    rw [ex10_vio, show ([exY10] : List Vio).contains exY10 = true by simp] at q
    exact q : Calls Tryz.prog 12 #[.agg #[.slice (some ⟨BT, 0, none⟩) 1 1], .slice (some ⟨BS, 0, none⟩) 1 1, .agg #[.int .i64 1, .int .i64 0, .string (bs [98]), .string (bs [112])]] W2 (Grows W2 (.bool true))))
  have G3 := Lib.hid hg1
  have heq : ∀ W, (binOp .eql 36 (.agg #[.int .i64 1, .int .i64 0, .string (bs [98]), .string (bs [112])]) (.agg #[.int .i64 1, .int .i64 0, .string ⟨#[98]⟩, .string ⟨#[112]⟩])).run Tryz.prog W = .ok (.bool true) W := fun W => by
    have q := eqVio exY10 exY10 W
    rw [beq_self_eq_true] at q
    exact q
  have x0 := R5.out.cell 0 (by simp)
  simp only [List.getElem_cons_zero] at x0
  have hx := has_of_cell x0
  have hq := has_of_cell q0
  clear hv hg1 VC p0 p1 p2 p3
  simp only [List.length_cons, List.length_nil, Nat.zero_add]
  go_wp2_with fail
  refine wp_region_grows (by kernel_rfl) (by kernel_rfl) ?_
  repeat (go_big_quiet_step (first | (go_at_call 12; exact calls_grows (HH.out _ (by first | exact G3.out | exact G3.out.drewN _ | exact G3.out.xt _ _)))))
  refine wpQuiet_nil ?_
  rintro _ ⟨⟨O, d9⟩, rfl⟩
  go_wp2_with fail
  go_ret
  exact ⟨rfl, G2.out.xt _ _⟩
def SetV (base : Nat) (ts : Tr) (k : Nat) (p : St) (w : World) (v : Value) : Prop := ∃ (z : St) (m2 : List NM), z.length ≤ 100 ∧ TrAt base w v m2 ∧ m2.map NM.n = setN ts k (putP (nd ts k).props ⟨p, z⟩)
theorem SetV.gr {base : Nat} {ts : Tr} {k : Nat} {p : St} {w w' : World} {v : Value} (h : SetV base ts k p w v) (hg : Gr w w') : SetV base ts k p w' v := let ⟨z, m2, h1, h2, h3⟩ := h; ⟨z, m2, h1, h2.gr hg, h3⟩
theorem SetV.box {base : Nat} {ts : Tr} {k : Nat} {p : St} {w : World} {v u : Value} {B : Nat} {vs : List Value} (h : SetV base ts k p w v) (hr : Row w B 29 vs) : SetV base ts k p (w.setCell ⟨B, 0, none⟩ u) v := let ⟨z, m2, h1, h2, h3⟩ := h; ⟨z, m2, h1, h2.box hr.ty (by decide) (h2.ne_ty hr.ty (by decide)), h3⟩
theorem SetV.form {base : Nat} {ts : Tr} {k : Nat} {p : St} {w : World} {v : Value} (h : SetV base ts k p w v) : ∃ a m c, v = .slice a m c := let ⟨z, m2, h1, h2, h3⟩ := h; let ⟨a, c, e⟩ := owns_slice h2.own; ⟨a, _, c, e⟩
def opn8F (wr : World) (b len PB n cap base k : Nat) (s p : St) (ad : Option Addr) (ms : List NM) (t10 t11 t32 t33 t34 t35 t36 t37 t38 t39 t40 t41 t42 : Value) (d : Array Bool) (w : World) : Prop :=
  (Mv b len wr w ∧ Row w PB 29 [.slice ad n cap]) ∧ (d.getD 0 false = true → t33 = .agg #[.slice ad n cap]) ∧
  (d.getD 1 false = true → t34 = .agg #[.slice ad n cap]) ∧
  (d.getD 2 false = true → t35 = .int .i64 (k : Int)) ∧
  (d.getD 3 false = true → t36 = .string (bs s)) ∧
  (d.getD 4 false = true → t37 = .string (bs p)) ∧
  (d.getD 5 false = true → t38 = .pointer (some ⟨b, 0, none⟩)) ∧
  (d.getD 6 false = true → (∃ z : St, t39 = .string (bs z) ∧ z.length ≤ 100)) ∧
  (d.getD 7 false = true → (d.getD 6 false = true ∧ d.getD 3 false = true ∧ ∃ v, t40 = .tuple #[.agg #[v], .int .i64 0] ∧ SetV base (ms.map NM.n) k p w v)) ∧
  (d.getD 8 false = true → (d.getD 7 false = true ∧ t32 = t40)) ∧
  (d.getD 9 false = true → (d.getD 7 false = true ∧ ∃ v, t40 = .tuple #[.agg #[v], .int .i64 0] ∧ t41 = .agg #[v])) ∧
  (d.getD 10 false = true → (t42 = .int .i64 0)) ∧
  (d.getD 11 false = true → (∃ B, t10 = .pointer (some ⟨B, 0, none⟩) ∧ wr.heap.size ≤ B ∧ (d.getD 12 false = false → Row w B 29 [.slice none 0 0]))) ∧
  (d.getD 12 false = true → (d.getD 7 false = true ∧ d.getD 11 false = true ∧ ∃ (v : Value) (B : Nat), t40 = .tuple #[.agg #[v], .int .i64 0] ∧ t10 = .pointer (some ⟨B, 0, none⟩) ∧ wr.heap.size ≤ B ∧ Row w B 29 [v])) ∧
  (d.getD 13 false = true → (t11 = .int .i64 0))
def opn8A (b PB k : Nat) (p : St) (t10 t11 t32 t33 t34 t35 t36 t37 t38 t39 t40 t41 t42 s0 s1 s2 s3 s4 s6 s12 s13 s14 s15 s16 s17 s18 s19 s20 s21 s22 s23 s24 s25 s26 s27 s28 s29 s30 s31 s43 s44 s45 s46 s47 s48 s49 s50 s51 s52 s53 s54 s55 s56 s57 s58 s59 s60 s61 s62 s63 s64 s65 s66 s67 s68 s69 s70 s71 s72 s73 s74 s75 s76 s77 s78 s79 s80 s81 s82 s83 s84 s85 s86 s87 s88 s89 s90 s91 s92 s93 s94 s95 s96 s97 s98 s99 s100 s101 s102 s103 s104 s105 s106 s107 s108 s109 s110 s111 s112 s113 s114 s115 s116 s117 s118 s119 : Value) : Act := { tmps := #[s0, s1, s2, s3, s4, .pointer (some ⟨b, 0, none⟩), s6, .pointer (some ⟨PB, 0, none⟩), .int .i64 (k : Int), .string (bs p), t10, t11, s12, s13, s14, s15, s16, s17, s18, s19, s20, s21, s22, s23, s24, s25, s26, s27, s28, s29, s30, s31, t32, t33, t34, t35, t36, t37, t38, t39, t40, t41, t42, s43, s44, s45, s46, s47, s48, s49, s50, s51, s52, s53, s54, s55, s56, s57, s58, s59, s60, s61, s62, s63, s64, s65, s66, s67, s68, s69, s70, s71, s72, s73, s74, s75, s76, s77, s78, s79, s80, s81, s82, s83, s84, s85, s86, s87, s88, s89, s90, s91, s92, s93, s94, s95, s96, s97, s98, s99, s100, s101, s102, s103, s104, s105, s106, s107, s108, s109, s110, s111, s112, s113, s114, s115, s116, s117, s118, s119], defers := [] }
theorem opn8 {Q : Exit → Act → World → Prop} {wr : World} {b len PB n cap base k : Nat} {s p : St} {ad : Option Addr} {ms : List NM}  {s0 s1 s2 s3 s4 s6 s10 s11 s12 s13 s14 s15 s16 s17 s18 s19 s20 s21 s22 s23 s24 s25 s26 s27 s28 s29 s30 s31 s32 s33 s34 s35 s36 s37 s38 s39 s40 s41 s42 s43 s44 s45 s46 s47 s48 s49 s50 s51 s52 s53 s54 s55 s56 s57 s58 s59 s60 s61 s62 s63 s64 s65 s66 s67 s68 s69 s70 s71 s72 s73 s74 s75 s76 s77 s78 s79 s80 s81 s82 s83 s84 s85 s86 s87 s88 s89 s90 s91 s92 s93 s94 s95 s96 s97 s98 s99 s100 s101 s102 s103 s104 s105 s106 s107 s108 s109 s110 s111 s112 s113 s114 s115 s116 s117 s118 s119 : Value} (htp : Tp wr b len) (hrow : Row wr PB 29 [.slice ad n cap]) (hnb : PB ≠ b ∧ b < base ∧ base ≤ wr.heap.size ∧ (b < wr.heap.size ∧ PB < wr.heap.size)) (hl : (ms.map NM.n).length = n) (hv : VT (ms.map NM.n)) (hk2 : k < (ms.map NM.n).length) (hps : PathIs (ms.map NM.n) k s) (hp : p ∈ namesV) (htr : TrAt base wr (.slice ad n cap) ms)
    (h' : ∀ t10 t11 t32 t33 t34 t35 t36 t37 t38 t39 t40 t41 t42 wx, (∃ (v : Value) (B : Nat), t11 = .int .i64 0 ∧ t10 = .pointer (some ⟨B, 0, none⟩) ∧ wr.heap.size ≤ B ∧ Row wx B 29 [v] ∧ SetV base (ms.map NM.n) k p wx v) → Mv b len wr wx → Row wx PB 29 [.slice ad n cap] → Q .normal (opn8A b PB k p t10 t11 t32 t33 t34 t35 t36 t37 t38 t39 t40 t41 t42 s0 s1 s2 s3 s4 s6 s12 s13 s14 s15 s16 s17 s18 s19 s20 s21 s22 s23 s24 s25 s26 s27 s28 s29 s30 s31 s43 s44 s45 s46 s47 s48 s49 s50 s51 s52 s53 s54 s55 s56 s57 s58 s59 s60 s61 s62 s63 s64 s65 s66 s67 s68 s69 s70 s71 s72 s73 s74 s75 s76 s77 s78 s79 s80 s81 s82 s83 s84 s85 s86 s87 s88 s89 s90 s91 s92 s93 s94 s95 s96 s97 s98 s99 s100 s101 s102 s103 s104 s105 s106 s107 s108 s109 s110 s111 s112 s113 s114 s115 s116 s117 s118 s119) wx) :
    (Code.region 8 (regIn 8 Tryz.f5) true).wp Tryz.prog Q { tmps := #[s0, s1, s2, s3, s4, .pointer (some ⟨b, 0, none⟩), s6, .pointer (some ⟨PB, 0, none⟩), .int .i64 (k : Int), .string (bs p), s10, s11, s12, s13, s14, s15, s16, s17, s18, s19, s20, s21, s22, s23, s24, s25, s26, s27, s28, s29, s30, s31, s32, s33, s34, s35, s36, s37, s38, s39, s40, s41, s42, s43, s44, s45, s46, s47, s48, s49, s50, s51, s52, s53, s54, s55, s56, s57, s58, s59, s60, s61, s62, s63, s64, s65, s66, s67, s68, s69, s70, s71, s72, s73, s74, s75, s76, s77, s78, s79, s80, s81, s82, s83, s84, s85, s86, s87, s88, s89, s90, s91, s92, s93, s94, s95, s96, s97, s98, s99, s100, s101, s102, s103, s104, s105, s106, s107, s108, s109, s110, s111, s112, s113, s114, s115, s116, s117, s118, s119], defers := [] } wr := by
  have HTP := PLift.up htp
  have HRW := PLift.up hrow
  have HNB := PLift.up hnb
  have HL := PLift.up hl
  have HV := PLift.up hv
  have HK2 := PLift.up hk2
  have HPS := PLift.up hps
  have HP := PLift.up hp
  have HTR := PLift.up htr
  have HBS := PLift.up htp.has
  clear htp hrow hnb hl hv hk2 hps hp htr
  simp only [regIn, Tryz.f5, regOps, Option.bind_some, Option.getD_some, Nat.beq, cond_true, cond_false]
  refine wp_region_steps (fun done a w => ∃ t10 t11 t32 t33 t34 t35 t36 t37 t38 t39 t40 t41 t42, a = opn8A b PB k p t10 t11 t32 t33 t34 t35 t36 t37 t38 t39 t40 t41 t42 s0 s1 s2 s3 s4 s6 s12 s13 s14 s15 s16 s17 s18 s19 s20 s21 s22 s23 s24 s25 s26 s27 s28 s29 s30 s31 s43 s44 s45 s46 s47 s48 s49 s50 s51 s52 s53 s54 s55 s56 s57 s58 s59 s60 s61 s62 s63 s64 s65 s66 s67 s68 s69 s70 s71 s72 s73 s74 s75 s76 s77 s78 s79 s80 s81 s82 s83 s84 s85 s86 s87 s88 s89 s90 s91 s92 s93 s94 s95 s96 s97 s98 s99 s100 s101 s102 s103 s104 s105 s106 s107 s108 s109 s110 s111 s112 s113 s114 s115 s116 s117 s118 s119 ∧ opn8F wr b len PB n cap base k s p ad ms t10 t11 t32 t33 t34 t35 t36 t37 t38 t39 t40 t41 t42 done w) (by kernel_rfl) (by kernel_rfl) ?_ ⟨?_, ?_, ?_, ?_, ?_, ?_, ?_, ?_, ?_, ?_, ?_, ?_, ?_, ?_, trivial⟩ ?_
  · exact ⟨s10, s11, s32, s33, s34, s35, s36, s37, s38, s39, s40, s41, s42, rfl, ⟨Mv.of_gr HTP.down (Gr.refl _).drew, HRW.down.drew⟩, fun q => absurd q (by decide), fun q => absurd q (by decide), fun q => absurd q (by decide), fun q => absurd q (by decide), fun q => absurd q (by decide), fun q => absurd q (by decide), fun q => absurd q (by decide), fun q => absurd q (by decide), fun q => absurd q (by decide), fun q => absurd q (by decide), fun q => absurd q (by decide), fun q => absurd q (by decide), fun q => absurd q (by decide), fun q => absurd q (by decide)⟩
  · rintro done a w hsz hnot hdep ⟨t10, t11, t32, t33, t34, t35, t36, t37, t38, t39, t40, t41, t42, rfl, gw, f0, f1, f2, f3, f4, f5, f6, f7, f8, f9, f10, f11, f12, f13⟩ K hK
    have hn : ¬ done.getD 0 false = true := by rw [getD_both hnot]; decide
    have c0 : w.cell? ⟨PB, 0, none⟩ = some (.slice ad n cap) := gw.2.cell 0 (by simp)
    have ch := has_of_cell c0
    have HK := PLift.up hK
    clear hK 
    simp only [opn8A]
    go_simp
    have gg : Gr w w := Gr.refl _
    refine HK.down _ _ ⟨_, _, _, _, _, _, _, _, _, _, _, _, _, rfl, gw, fun _ => rfl, kp f1, kp f2, fun q => (by first | rfl | exact f3 (done_old q (by decide))), kp f4, kp f5, kp f6, fun q => (let ⟨h1, h2, v, e, h3⟩ := f7 (done_old q (by decide)); ⟨getD_set_true h1, getD_set_true h2, v, e, h3.gr gg⟩), fun q => (let h := f8 (done_old q (by decide)); ⟨getD_set_true h.1, h.2⟩), fun q => (let h := f9 (done_old q (by decide)); ⟨getD_set_true h.1, h.2⟩), kp f10, fun q => (let ⟨B, e, h1, h2⟩ := f11 (done_old q (by decide)); ⟨B, e, h1, fun q2 => (h2 (by rw [getD_set_ne false (by decide)] at q2; exact q2)).gr gg⟩), fun q => (let ⟨h1, h2, v, B, e1, e2, h3, h4⟩ := f12 (done_old q (by decide)); ⟨getD_set_true h1, getD_set_true h2, v, B, e1, e2, h3, h4.gr gg⟩), kp f13⟩
  · rintro done a w hsz hnot hdep ⟨t10, t11, t32, t33, t34, t35, t36, t37, t38, t39, t40, t41, t42, rfl, gw, f0, f1, f2, f3, f4, f5, f6, f7, f8, f9, f10, f11, f12, f13⟩ K hK
    have hn : ¬ done.getD 1 false = true := by rw [getD_both hnot]; decide
    have c0 : w.cell? ⟨PB, 0, none⟩ = some (.slice ad n cap) := gw.2.cell 0 (by simp)
    have ch := has_of_cell c0
    have HK := PLift.up hK
    clear hK 
    simp only [opn8A]
    go_simp
    have gg : Gr w w := Gr.refl _
    refine HK.down _ _ ⟨_, _, _, _, _, _, _, _, _, _, _, _, _, rfl, gw, kp f0, fun _ => rfl, kp f2, fun q => (by first | rfl | exact f3 (done_old q (by decide))), kp f4, kp f5, kp f6, fun q => (let ⟨h1, h2, v, e, h3⟩ := f7 (done_old q (by decide)); ⟨getD_set_true h1, getD_set_true h2, v, e, h3.gr gg⟩), fun q => (let h := f8 (done_old q (by decide)); ⟨getD_set_true h.1, h.2⟩), fun q => (let h := f9 (done_old q (by decide)); ⟨getD_set_true h.1, h.2⟩), kp f10, fun q => (let ⟨B, e, h1, h2⟩ := f11 (done_old q (by decide)); ⟨B, e, h1, fun q2 => (h2 (by rw [getD_set_ne false (by decide)] at q2; exact q2)).gr gg⟩), fun q => (let ⟨h1, h2, v, B, e1, e2, h3, h4⟩ := f12 (done_old q (by decide)); ⟨getD_set_true h1, getD_set_true h2, v, B, e1, e2, h3, h4.gr gg⟩), kp f13⟩
  · rintro done a w hsz hnot hdep ⟨t10, t11, t32, t33, t34, t35, t36, t37, t38, t39, t40, t41, t42, rfl, gw, f0, f1, f2, f3, f4, f5, f6, f7, f8, f9, f10, f11, f12, f13⟩ K hK
    have hn : ¬ done.getD 2 false = true := by rw [getD_both hnot]; decide
    have HK := PLift.up hK
    clear hK 
    simp only [opn8A]
    go_simp
    have gg : Gr w w := Gr.refl _
    refine HK.down _ _ ⟨_, _, _, _, _, _, _, _, _, _, _, _, _, rfl, gw, kp f0, kp f1, fun _ => rfl, fun q => (by first | rfl | exact f3 (done_old q (by decide))), kp f4, kp f5, kp f6, fun q => (let ⟨h1, h2, v, e, h3⟩ := f7 (done_old q (by decide)); ⟨getD_set_true h1, getD_set_true h2, v, e, h3.gr gg⟩), fun q => (let h := f8 (done_old q (by decide)); ⟨getD_set_true h.1, h.2⟩), fun q => (let h := f9 (done_old q (by decide)); ⟨getD_set_true h.1, h.2⟩), kp f10, fun q => (let ⟨B, e, h1, h2⟩ := f11 (done_old q (by decide)); ⟨B, e, h1, fun q2 => (h2 (by rw [getD_set_ne false (by decide)] at q2; exact q2)).gr gg⟩), fun q => (let ⟨h1, h2, v, B, e1, e2, h3, h4⟩ := f12 (done_old q (by decide)); ⟨getD_set_true h1, getD_set_true h2, v, B, e1, e2, h3, h4.gr gg⟩), kp f13⟩
  · rintro done a w hsz hnot hdep ⟨t10, t11, t32, t33, t34, t35, t36, t37, t38, t39, t40, t41, t42, rfl, gw, f0, f1, f2, f3, f4, f5, f6, f7, f8, f9, f10, f11, f12, f13⟩ K hK
    have hn : ¬ done.getD 3 false = true := by rw [getD_both hnot]; decide
    have d1 := hdep 1 (by kernel_rfl)
    have d2 := hdep 2 (by kernel_rfl)
    obtain rfl := f1 d1
    obtain rfl := f2 d2
    have GW := PLift.up gw
    have HK := PLift.up hK
    clear hK d1 d2
    simp only [opn8A]
    go_simp
    have PC := rPath_ok (ms.map NM.n) ad cap k s w ((HTR.down.mv HNB.down.2.1 GW.down.1).sl).2 HV.down HK2.down HPS.down
    rw [HL.down] at PC
    refine PC.mono ?_
    rintro e w2 ⟨rfl, hg⟩
    (try go_simp)
    refine HK.down _ _ ⟨_, _, _, _, _, _, _, _, _, _, _, _, _, rfl, ⟨GW.down.1.gr hg, GW.down.2.gr hg⟩, kp f0, kp f1, kp f2, fun _ => rfl, kp f4, kp f5, kp f6, fun q => absurd (f7 (done_old q (by decide))).2.1 hn, fun q => (let h := f8 (done_old q (by decide)); ⟨getD_set_true h.1, h.2⟩), fun q => (let h := f9 (done_old q (by decide)); ⟨getD_set_true h.1, h.2⟩), kp f10, fun q => (let ⟨B, e, h1, h2⟩ := f11 (done_old q (by decide)); ⟨B, e, h1, fun q2 => (h2 (by rw [getD_set_ne false (by decide)] at q2; exact q2)).gr hg⟩), fun q => (let ⟨h1, h2, v, B, e1, e2, h3, h4⟩ := f12 (done_old q (by decide)); ⟨getD_set_true h1, getD_set_true h2, v, B, e1, e2, h3, h4.gr hg⟩), kp f13⟩
  · rintro done a w hsz hnot hdep ⟨t10, t11, t32, t33, t34, t35, t36, t37, t38, t39, t40, t41, t42, rfl, gw, f0, f1, f2, f3, f4, f5, f6, f7, f8, f9, f10, f11, f12, f13⟩ K hK
    have hn : ¬ done.getD 4 false = true := by rw [getD_both hnot]; decide
    have HK := PLift.up hK
    clear hK 
    simp only [opn8A]
    go_simp
    have gg : Gr w w := Gr.refl _
    refine HK.down _ _ ⟨_, _, _, _, _, _, _, _, _, _, _, _, _, rfl, gw, kp f0, kp f1, kp f2, fun q => (by first | rfl | exact f3 (done_old q (by decide))), fun _ => rfl, kp f5, kp f6, fun q => (let ⟨h1, h2, v, e, h3⟩ := f7 (done_old q (by decide)); ⟨getD_set_true h1, getD_set_true h2, v, e, h3.gr gg⟩), fun q => (let h := f8 (done_old q (by decide)); ⟨getD_set_true h.1, h.2⟩), fun q => (let h := f9 (done_old q (by decide)); ⟨getD_set_true h.1, h.2⟩), kp f10, fun q => (let ⟨B, e, h1, h2⟩ := f11 (done_old q (by decide)); ⟨B, e, h1, fun q2 => (h2 (by rw [getD_set_ne false (by decide)] at q2; exact q2)).gr gg⟩), fun q => (let ⟨h1, h2, v, B, e1, e2, h3, h4⟩ := f12 (done_old q (by decide)); ⟨getD_set_true h1, getD_set_true h2, v, B, e1, e2, h3, h4.gr gg⟩), kp f13⟩
  · rintro done a w hsz hnot hdep ⟨t10, t11, t32, t33, t34, t35, t36, t37, t38, t39, t40, t41, t42, rfl, gw, f0, f1, f2, f3, f4, f5, f6, f7, f8, f9, f10, f11, f12, f13⟩ K hK
    have hn : ¬ done.getD 5 false = true := by rw [getD_both hnot]; decide
    have HK := PLift.up hK
    clear hK 
    simp only [opn8A]
    go_simp
    have gg : Gr w w := Gr.refl _
    refine HK.down _ _ ⟨_, _, _, _, _, _, _, _, _, _, _, _, _, rfl, gw, kp f0, kp f1, kp f2, fun q => (by first | rfl | exact f3 (done_old q (by decide))), kp f4, fun _ => rfl, kp f6, fun q => (let ⟨h1, h2, v, e, h3⟩ := f7 (done_old q (by decide)); ⟨getD_set_true h1, getD_set_true h2, v, e, h3.gr gg⟩), fun q => (let h := f8 (done_old q (by decide)); ⟨getD_set_true h.1, h.2⟩), fun q => (let h := f9 (done_old q (by decide)); ⟨getD_set_true h.1, h.2⟩), kp f10, fun q => (let ⟨B, e, h1, h2⟩ := f11 (done_old q (by decide)); ⟨B, e, h1, fun q2 => (h2 (by rw [getD_set_ne false (by decide)] at q2; exact q2)).gr gg⟩), fun q => (let ⟨h1, h2, v, B, e1, e2, h3, h4⟩ := f12 (done_old q (by decide)); ⟨getD_set_true h1, getD_set_true h2, v, B, e1, e2, h3, h4.gr gg⟩), kp f13⟩
  · rintro done a w hsz hnot hdep ⟨t10, t11, t32, t33, t34, t35, t36, t37, t38, t39, t40, t41, t42, rfl, gw, f0, f1, f2, f3, f4, f5, f6, f7, f8, f9, f10, f11, f12, f13⟩ K hK
    have hn : ¬ done.getD 6 false = true := by rw [getD_both hnot]; decide
    have d5 := hdep 5 (by kernel_rfl)
    obtain rfl := f5 d5
    have TP := PLift.up (gw.1.tp HTP.down)
    have GW := PLift.up gw
    have HK := PLift.up hK
    clear hK d5
    simp only [opn8A]
    go_simp
    refine (value_any w b len TP.down).mono ?_
    rintro e w2 ⟨z, hz, rfl, hm⟩
    (try go_simp)
    refine HK.down _ _ ⟨_, _, _, _, _, _, _, _, _, _, _, _, _, rfl, ⟨GW.down.1.trans HBS.down hm, hm.row GW.down.2 HNB.down.1⟩, kp f0, kp f1, kp f2, fun q => (by first | rfl | exact f3 (done_old q (by decide))), kp f4, kp f5, ?_, fun q => absurd (f7 (done_old q (by decide))).1 hn, fun q => (let h := f8 (done_old q (by decide)); ⟨getD_set_true h.1, h.2⟩), fun q => (let h := f9 (done_old q (by decide)); ⟨getD_set_true h.1, h.2⟩), kp f10, fun q => (let ⟨B, e, h1, h2⟩ := f11 (done_old q (by decide)); ⟨B, e, h1, fun q2 => hm.row (h2 (by rw [getD_set_ne false (by decide)] at q2; exact q2)) (by have := HNB.down.2.2.2; omega)⟩), fun q => (let ⟨h1, h2, v, B, e1, e2, h3, h4⟩ := f12 (done_old q (by decide)); ⟨getD_set_true h1, getD_set_true h2, v, B, e1, e2, h3, hm.row h4 (by have := HNB.down.2.2.2; omega)⟩), kp f13⟩
    exact fun _ => ⟨z, rfl, hz⟩
  · rintro done a w hsz hnot hdep ⟨t10, t11, t32, t33, t34, t35, t36, t37, t38, t39, t40, t41, t42, rfl, gw, f0, f1, f2, f3, f4, f5, f6, f7, f8, f9, f10, f11, f12, f13⟩ K hK
    have hn : ¬ done.getD 7 false = true := by rw [getD_both hnot]; decide
    have d0 := hdep 0 (by kernel_rfl)
    have d3 := hdep 3 (by kernel_rfl)
    have d4 := hdep 4 (by kernel_rfl)
    have d6 := hdep 6 (by kernel_rfl)
    obtain rfl := f0 d0
    obtain rfl := f3 d3
    obtain rfl := f4 d4
    obtain ⟨z, rfl, hz⟩ := f6 d6
    have HZ := PLift.up hz
    have GW := PLift.up gw
    have D6 := PLift.up d6
    have D3 := PLift.up d3
    have HK := PLift.up hK
    clear hK d0 d3 d4
    simp only [opn8A]
    go_simp
    have LK := rSet_ok (ms.map NM.n) ad cap s p z w ((HTR.down.mv HNB.down.2.1 GW.down.1).sl).2 HV.down HP.down (by have := HZ.down; omega)
    have LK2 : Calls Tryz.prog 19 #[.agg #[.slice ad n cap], .string (bs s), .string (bs p), .string (bs z)] w (GivesSet (ms.map NM.n) s p z w) := by have q := LK; rw [HL.down] at q; exact q
    refine LK2.mono ?_
    rintro e w2 ⟨hg, hq⟩
    have ST : PLift (∃ v, e = .returned (.tuple #[.agg #[v], .int .i64 0]) ∧ SetV base (ms.map NM.n) k p w2 v) := PLift.up (by
      rcases hq with ⟨_, hno⟩ | ⟨k2, v, m2, hk2, hp2, rfl, h1, h2⟩
      · exact absurd HPS.down (hno k HK2.down)
      · obtain rfl := HV.down.pathInj hp2 HPS.down hk2 HK2.down
        exact ⟨v, rfl, z, m2, HZ.down, h1.low (by have := GW.down.1.size; have := HNB.down.2.2.1; omega), h2⟩)
    clear hq
    obtain ⟨v, rfl, hs⟩ := ST.down
    (try go_simp)
    refine HK.down _ _ ⟨_, _, _, _, _, _, _, _, _, _, _, _, _, rfl, ⟨GW.down.1.gr hg, GW.down.2.gr hg⟩, kp f0, kp f1, kp f2, fun q => (by first | rfl | exact f3 (done_old q (by decide))), kp f4, kp f5, fun _ => ⟨z, rfl, HZ.down⟩, ?_, fun q => absurd (f8 (done_old q (by decide))).1 hn, fun q => absurd (f9 (done_old q (by decide))).1 hn, kp f10, fun q => (let ⟨B, e, h1, h2⟩ := f11 (done_old q (by decide)); ⟨B, e, h1, fun q2 => (h2 (by rw [getD_set_ne false (by decide)] at q2; exact q2)).gr hg⟩), fun q => absurd (f12 (done_old q (by decide))).1 hn, kp f13⟩
    exact fun _ => ⟨getD_set_true D6.down, getD_set_true D3.down, v, rfl, hs⟩
  · rintro done a w hsz hnot hdep ⟨t10, t11, t32, t33, t34, t35, t36, t37, t38, t39, t40, t41, t42, rfl, gw, f0, f1, f2, f3, f4, f5, f6, f7, f8, f9, f10, f11, f12, f13⟩ K hK
    have hn : ¬ done.getD 8 false = true := by rw [getD_both hnot]; decide
    have d7 := hdep 7 (by kernel_rfl)
    have D7 := PLift.up d7
    have HK := PLift.up hK
    clear hK 
    simp only [opn8A]
    go_simp
    have gg : Gr w w := Gr.refl _
    refine HK.down _ _ ⟨_, _, _, _, _, _, _, _, _, _, _, _, _, rfl, gw, kp f0, kp f1, kp f2, fun q => (by first | rfl | exact f3 (done_old q (by decide))), kp f4, kp f5, kp f6, fun q => (let ⟨h1, h2, v, e, h3⟩ := f7 (done_old q (by decide)); ⟨getD_set_true h1, getD_set_true h2, v, e, h3.gr gg⟩), ?_, fun q => (let h := f9 (done_old q (by decide)); ⟨getD_set_true h.1, h.2⟩), kp f10, fun q => (let ⟨B, e, h1, h2⟩ := f11 (done_old q (by decide)); ⟨B, e, h1, fun q2 => (h2 (by rw [getD_set_ne false (by decide)] at q2; exact q2)).gr gg⟩), fun q => (let ⟨h1, h2, v, B, e1, e2, h3, h4⟩ := f12 (done_old q (by decide)); ⟨getD_set_true h1, getD_set_true h2, v, B, e1, e2, h3, h4.gr gg⟩), kp f13⟩
    exact fun _ => ⟨getD_set_true D7.down, rfl⟩
  · rintro done a w hsz hnot hdep ⟨t10, t11, t32, t33, t34, t35, t36, t37, t38, t39, t40, t41, t42, rfl, gw, f0, f1, f2, f3, f4, f5, f6, f7, f8, f9, f10, f11, f12, f13⟩ K hK
    have hn : ¬ done.getD 9 false = true := by rw [getD_both hnot]; decide
    have d8 := hdep 8 (by kernel_rfl)
    obtain ⟨D7, rfl⟩ := f8 d8
    obtain ⟨h71, h72, v, rfl, hs⟩ := f7 D7
    have D7 := PLift.up D7
    have H7 := PLift.up (And.intro h71 (And.intro h72 hs))
    clear h71 h72 hs
    have HK := PLift.up hK
    clear hK 
    simp only [opn8A]
    go_simp
    have gg : Gr w w := Gr.refl _
    refine HK.down _ _ ⟨_, _, _, _, _, _, _, _, _, _, _, _, _, rfl, gw, kp f0, kp f1, kp f2, fun q => (by first | rfl | exact f3 (done_old q (by decide))), kp f4, kp f5, kp f6, fun _ => ⟨getD_set_true H7.down.1, getD_set_true H7.down.2.1, v, rfl, H7.down.2.2⟩, fun _ => ⟨getD_set_true D7.down, rfl⟩, ?_, kp f10, fun q => (let ⟨B, e, h1, h2⟩ := f11 (done_old q (by decide)); ⟨B, e, h1, fun q2 => (h2 (by rw [getD_set_ne false (by decide)] at q2; exact q2)).gr gg⟩), fun q => (let ⟨h1, h2, v, B, e1, e2, h3, h4⟩ := f12 (done_old q (by decide)); ⟨getD_set_true h1, getD_set_true h2, v, B, e1, e2, h3, h4.gr gg⟩), kp f13⟩
    exact fun _ => ⟨getD_set_true D7.down, v, rfl, rfl⟩
  · rintro done a w hsz hnot hdep ⟨t10, t11, t32, t33, t34, t35, t36, t37, t38, t39, t40, t41, t42, rfl, gw, f0, f1, f2, f3, f4, f5, f6, f7, f8, f9, f10, f11, f12, f13⟩ K hK
    have hn : ¬ done.getD 10 false = true := by rw [getD_both hnot]; decide
    have d8 := hdep 8 (by kernel_rfl)
    obtain ⟨D7, rfl⟩ := f8 d8
    obtain ⟨h71, h72, v, rfl, hs⟩ := f7 D7
    have D7 := PLift.up D7
    have H7 := PLift.up (And.intro h71 (And.intro h72 hs))
    clear h71 h72 hs
    have HK := PLift.up hK
    clear hK 
    simp only [opn8A]
    go_simp
    have gg : Gr w w := Gr.refl _
    refine HK.down _ _ ⟨_, _, _, _, _, _, _, _, _, _, _, _, _, rfl, gw, kp f0, kp f1, kp f2, fun q => (by first | rfl | exact f3 (done_old q (by decide))), kp f4, kp f5, kp f6, fun _ => ⟨getD_set_true H7.down.1, getD_set_true H7.down.2.1, v, rfl, H7.down.2.2⟩, fun _ => ⟨getD_set_true D7.down, rfl⟩, fun q => (let h := f9 (done_old q (by decide)); ⟨getD_set_true h.1, h.2⟩), ?_, fun q => (let ⟨B, e, h1, h2⟩ := f11 (done_old q (by decide)); ⟨B, e, h1, fun q2 => (h2 (by rw [getD_set_ne false (by decide)] at q2; exact q2)).gr gg⟩), fun q => (let ⟨h1, h2, v, B, e1, e2, h3, h4⟩ := f12 (done_old q (by decide)); ⟨getD_set_true h1, getD_set_true h2, v, B, e1, e2, h3, h4.gr gg⟩), kp f13⟩
    exact fun _ => rfl
  · rintro done a w hsz hnot hdep ⟨t10, t11, t32, t33, t34, t35, t36, t37, t38, t39, t40, t41, t42, rfl, gw, f0, f1, f2, f3, f4, f5, f6, f7, f8, f9, f10, f11, f12, f13⟩ K hK
    have hn : ¬ done.getD 11 false = true := by rw [getD_both hnot]; decide
    have GS := PLift.up gw.1.size
    have GW := PLift.up gw
    have HK := PLift.up hK
    clear hK 
    simp only [opn8A]
    go_simp
    have gg : Gr w (w.alloc (.cells #[.slice none 0 0] 29)) := (Gr.refl _).alloc _
    refine HK.down _ _ ⟨_, _, _, _, _, _, _, _, _, _, _, _, _, rfl, ⟨GW.down.1.gr gg, GW.down.2.gr gg⟩, kp f0, kp f1, kp f2, fun q => (by first | rfl | exact f3 (done_old q (by decide))), kp f4, kp f5, kp f6, fun q => (let ⟨h1, h2, v, e, h3⟩ := f7 (done_old q (by decide)); ⟨getD_set_true h1, getD_set_true h2, v, e, h3.gr gg⟩), fun q => (let h := f8 (done_old q (by decide)); ⟨getD_set_true h.1, h.2⟩), fun q => (let h := f9 (done_old q (by decide)); ⟨getD_set_true h.1, h.2⟩), kp f10, ?_, fun q => absurd (f12 (done_old q (by decide))).2.1 hn, kp f13⟩
    exact fun _ => ⟨_, rfl, GS.down, fun _ => Row.new w _ _⟩
  · rintro done a w hsz hnot hdep ⟨t10, t11, t32, t33, t34, t35, t36, t37, t38, t39, t40, t41, t42, rfl, gw, f0, f1, f2, f3, f4, f5, f6, f7, f8, f9, f10, f11, f12, f13⟩ K hK
    have hn : ¬ done.getD 12 false = true := by rw [getD_both hnot]; decide
    have d9 := hdep 9 (by kernel_rfl)
    have d11 := hdep 11 (by kernel_rfl)
    obtain ⟨D7, v, rfl, rfl⟩ := f9 d9
    obtain ⟨h71, h72, v2, e2, hs⟩ := f7 D7
    obtain rfl : v = v2 := by simpa using e2
    obtain ⟨ya, ym, yc, rfl⟩ := hs.form
    obtain ⟨B, rfl, hB, hr⟩ := f11 d11
    have n12 := getD_both hnot
    have RB := PLift.up (hr n12)
    have HBB := PLift.up hB
    have D7 := PLift.up D7
    have D11 := PLift.up d11
    have GW := PLift.up gw
    have H7 := PLift.up (And.intro h71 (And.intro h72 hs))
    have z0 := RB.down.cell 0 (by simp)
    have zf := RB.down.free 0
    have zh := has_of_cell z0
    clear h71 h72 hs hB hr e2
    have HK := PLift.up hK
    clear hK 
    simp only [opn8A]
    go_simp
    refine HK.down _ _ ⟨_, _, _, _, _, _, _, _, _, _, _, _, _, rfl, ⟨GW.down.1.setc HBB.down, GW.down.2.oth (by have := HNB.down.2.2.2; have := HBB.down; omega)⟩, kp f0, kp f1, kp f2, fun q => (by first | rfl | exact f3 (done_old q (by decide))), kp f4, kp f5, kp f6, fun _ => ⟨getD_set_true H7.down.1, getD_set_true H7.down.2.1, _, rfl, H7.down.2.2.box RB.down⟩, fun q => (let h := f8 (done_old q (by decide)); ⟨getD_set_true h.1, h.2⟩), fun _ => ⟨getD_set_true D7.down, _, rfl, rfl⟩, kp f10, fun _ => ⟨B, rfl, HBB.down, fun q2 => absurd q2 (by rw [getD_set_same (by rw [hsz]; decide)]; decide)⟩, ?_, kp f13⟩
    exact fun _ => ⟨getD_set_true D7.down, getD_set_true D11.down, _, B, rfl, rfl, HBB.down, RB.down.set 0 _⟩
  · rintro done a w hsz hnot hdep ⟨t10, t11, t32, t33, t34, t35, t36, t37, t38, t39, t40, t41, t42, rfl, gw, f0, f1, f2, f3, f4, f5, f6, f7, f8, f9, f10, f11, f12, f13⟩ K hK
    have hn : ¬ done.getD 13 false = true := by rw [getD_both hnot]; decide
    have d10 := hdep 10 (by kernel_rfl)
    obtain rfl := f10 d10
    have HK := PLift.up hK
    clear hK 
    simp only [opn8A]
    go_simp
    have gg : Gr w w := Gr.refl _
    refine HK.down _ _ ⟨_, _, _, _, _, _, _, _, _, _, _, _, _, rfl, gw, kp f0, kp f1, kp f2, fun q => (by first | rfl | exact f3 (done_old q (by decide))), kp f4, kp f5, kp f6, fun q => (let ⟨h1, h2, v, e, h3⟩ := f7 (done_old q (by decide)); ⟨getD_set_true h1, getD_set_true h2, v, e, h3.gr gg⟩), fun q => (let h := f8 (done_old q (by decide)); ⟨getD_set_true h.1, h.2⟩), fun q => (let h := f9 (done_old q (by decide)); ⟨getD_set_true h.1, h.2⟩), fun _ => rfl, fun q => (let ⟨B, e, h1, h2⟩ := f11 (done_old q (by decide)); ⟨B, e, h1, fun q2 => (h2 (by rw [getD_set_ne false (by decide)] at q2; exact q2)).gr gg⟩), fun q => (let ⟨h1, h2, v, B, e1, e2, h3, h4⟩ := f12 (done_old q (by decide)); ⟨getD_set_true h1, getD_set_true h2, v, B, e1, e2, h3, h4.gr gg⟩), ?_⟩
    exact fun _ => rfl
  · rintro done a w hall ⟨t10, t11, t32, t33, t34, t35, t36, t37, t38, t39, t40, t41, t42, rfl, gw, f0, f1, f2, f3, f4, f5, f6, f7, f8, f9, f10, f11, f12, f13⟩
    refine h' _ _ _ _ _ _ _ _ _ _ _ _ _ w ?_ gw.1 gw.2
    obtain ⟨_, _, v, e1, hs⟩ := f7 (hall 7 (by decide))
    obtain ⟨_, _, v2, B, e2, e3, h3, h4⟩ := f12 (hall 12 (by decide))
    subst e1
    obtain rfl : v = v2 := by simpa using e2
    exact ⟨v, B, f13 (hall 13 (by decide)), e3, h3, h4, hs⟩
end Go.Proofs.YtbpkndiecomggaaGreatDoor
