/- Lemmas and contracts for the proof of ConformRepairs (several texts in one, printed by wip/tools/pack.py): WcH WdA WfE UdG UdE. -/
import Derived.Test.YtbpkndiecomggaaGreatDoorCr1pr
import Derived.WalkMore
import Derived.Test.YtbpkndiecomggaaGreatDoorCr1pg
import Derived.Test.YtbpkndiecomggaaGreatDoorCr1pk
import Derived.Test.YtbpkndiecomggaaGreatDoorCr1pb
set_option maxRecDepth 100000
set_option maxHeartbeats 16000000
set_option linter.unusedVariables false
set_option linter.unusedSimpArgs false
namespace Go.Proofs.YtbpkndiecomggaaGreatDoor
open Go.RowKit
open Classical
theorem eqVio (p q : Vio) (w : World) : (binOp .eql 36 (.agg #[.int .i64 p.kind, .int .i64 p.node, .string (bs p.sch), .string (bs p.prop)]) (.agg #[.int .i64 q.kind, .int .i64 q.node, .string (bs q.sch), .string (bs q.prop)])).run Tryz.prog w = .ok (.bool (p == q)) w := by
  have e : (p == q) = (p.kind == q.kind && p.node == q.node && p.sch == q.sch && p.prop == q.prop) := by
    rw [Bool.eq_iff_iff]; simp; constructor
    · rintro rfl; exact ⟨⟨⟨rfl, rfl⟩, rfl⟩, rfl⟩
    · rintro ⟨⟨⟨h1, h2⟩, h3⟩, h4⟩; cases p; cases q; simp_all
  rw [e]
  have hs := Tryz.stoodInHeld36
  have hu := Tryz.underlying36
  have hz := Tryz.underlying9
  have hn := Tryz.underlying3
  simp [go_sem, hs, hu, hz, hn]
  by_cases h1 : p.kind = q.kind <;> by_cases h2 : p.node = q.node <;> by_cases h3 : p.sch = q.sch <;> by_cases h4 : p.prop = q.prop <;> simp [h1, h2, h3, h4]
theorem VO.at {base : Nat} {w : World} {a : Option Addr} {n c : Nat} {L : List Vio} (h : VO base w (.slice a n c) L) {k : Nat} (hk : k < L.length) :
    ∃ g, a = some ⟨g, 0, none⟩ ∧ w.cell? ⟨g, k * 4, none⟩ = some (.int .i64 L[k].kind) ∧ w.cell? ⟨g, k * 4 + 1, none⟩ = some (.int .i64 L[k].node) ∧ w.cell? ⟨g, k * 4 + 2, none⟩ = some (.string (bs L[k].sch)) ∧ w.cell? ⟨g, k * 4 + 3, none⟩ = some (.string (bs L[k].prop)) := by
  obtain ⟨g, cap, e1, _, _, hc⟩ := owns_cell h (show 0 < L.length by omega)
  injection e1 with e1 _ _
  have hf := fun j (hj : j < 4) => (hc (k * 4 + j) (by omega)).trans (flat_at Vio.enc 4 (fun _ => rfl) L k j hk hj)
  exact ⟨g, e1, hf 0 (by omega), hf 1 (by omega), hf 2 (by omega), hf 3 (by omega)⟩
theorem VO.gr {base : Nat} {w w' : World} {v : Value} {L : List Vio} (h : VO base w v L) (hg : Gr w w') : VO base w' v L := Gr.owns h hg
theorem idxV_any (L : List Vio) (y : Vio) (base : Nat) (a : Option Addr) (c : Nat) (w : World) (h : VO base w (.slice a L.length c) L) (hf : L.length ≤ 1000000) :
    Calls Tryz.prog 86 #[.slice a L.length c, .agg #[.int .i64 y.kind, .int .i64 y.node, .string (bs y.sch), .string (bs y.prop)]] w fun e w' => ∃ i : Int, e = .returned (.int .i64 i) ∧ (decide (0 ≤ i) = L.contains y) ∧ Gr w w' := by
  have H := Lib.hid h
  clear h
  go_enter Tryz.func86, Tryz.ntmps86
  go_wp2_with fail
  have RB := Lib.hid (Row.new w #[.int .i64 y.kind, .int .i64 y.node, .string (bs y.sch), .string (bs y.prop)] 36)
  obtain ⟨W1, hW1⟩ : ∃ W : World, Hid (W = w.alloc (.cells #[.int .i64 y.kind, .int .i64 y.node, .string (bs y.sch), .string (bs y.prop)] 36)) := ⟨_, Lib.hid rfl⟩
  rw [← hW1.out] at RB ⊢
  have G1 : Hid (Gr w W1) := Lib.hid (by rw [hW1.out]; exact (Gr.refl _).alloc _)
  obtain ⟨P0, hP0⟩ : ∃ N : Nat, Hid (w.heap.size = N) := ⟨_, Lib.hid rfl⟩
  rw [hP0.out] at RB ⊢
  clear hW1
  go_loopw [8] (fun i wr => ∃ k : Nat, k ≤ L.length ∧ i = .int .i64 k ∧ (∀ j (hj : j < k) (hjl : j < L.length), ¬ L[j] = y) ∧ Row wr P0 36 [.int .i64 y.kind, .int .i64 y.node, .string (bs y.sch), .string (bs y.prop)] ∧ Gr w wr) (fun i _ => L.length - (intOf i).toNat)
  case atStart => exact ⟨0, Nat.zero_le _, rfl, fun j h => absurd h (by omega), RB.out, G1.out⟩
  case round =>
    clear RB G1
    obtain ⟨k, hk, rfl, hall, hrb, hg⟩ := hrel
    have HA := Lib.hid hall
    have HG := Lib.hid hg
    have HRB := Lib.hid hrb
    have b0 := hrb.cell 0 (by simp)
    have b1 := hrb.cell 1 (by simp)
    have b2 := hrb.cell 2 (by simp)
    have b3 := hrb.cell 3 (by simp)
    simp only [List.getElem_cons_zero, List.getElem_cons_succ] at b0 b1 b2 b3
    clear hall hg hrb
    by_cases hlt : k < L.length
    · obtain ⟨g, rfl, c0, c1, c2, c3⟩ := (H.out.gr HG.out).at hlt
      have hh := has_of_cell c0
      have hh2 := has_of_cell b0
      have hi1 : decide ((k : Int) < L.length) = true := by simp; omega
      have heq := fun W => eqVio y L[k] W
      by_cases hq : L[k] = y
      · have hb : (y == L[k]) = true := by simp [hq]
        simp only [hb] at heq
        have Q := Lib.hid hq
        clear hq hb
        go_wp2_with fail
        go_quiet (fail)
        go_wp2_with fail
        go_ret
        refine ⟨_, rfl, ?_, HG.out.drewN _⟩
        rw [show decide (0 ≤ (k : Int)) = true by simp, eq_comm, List.contains_iff_mem]
        rw [← Q.out]; exact List.getElem_mem hlt
      · have hb : (y == L[k]) = false := by rw [beq_eq_false_iff_ne]; exact fun e => hq e.symm
        simp only [hb] at heq
        have Q := Lib.hid hq
        clear hq hb
        go_wp2_with fail
        go_quiet (fail)
        go_wp2_with fail
        go_roundw
        case rel =>
          refine ⟨k + 1, by omega, by go_num, fun j hj hjl => ?_, HRB.out.drewN _, HG.out.drewN _⟩
          by_cases e : j = k
          · subst e; exact Q.out
          · exact HA.out j (by omega) hjl
        case measure => simp [intOf]; omega
    · go_wp2_with fail
      go_ret
      refine ⟨_, rfl, ?_, HG.out⟩
      rw [eq_comm, show decide ((0:Int) ≤ -1) = false by simp, ← Bool.not_eq_true, List.contains_iff_mem]
      intro hx
      obtain ⟨j, hj, e⟩ := List.getElem_of_mem hx
      exact HA.out j (by omega) hj e
theorem conV_any (L : List Vio) (y : Vio) (base : Nat) (a : Option Addr) (c : Nat) (w : World) (h : VO base w (.slice a L.length c) L) (hf : L.length ≤ 1000000) :
    Calls Tryz.prog 45 #[.slice a L.length c, .agg #[.int .i64 y.kind, .int .i64 y.node, .string (bs y.sch), .string (bs y.prop)]] w (Grows w (.bool (L.contains y))) := by
  have H := Lib.hid h
  clear h
  go_enter Tryz.func45, Tryz.ntmps45
  go_wp2_with fail
  refine (idxV_any L y base a c _ (H.out.gr ((Gr.refl _).alloc _)) hf).mono ?_
  rintro e w' ⟨x, rfl, hx, O, d, rfl⟩
  have X := Lib.hid hx
  clear hx
  go_wp2_with fail
  go_ret
  exact ⟨ret_bool X.out, ((Gr.refl _).alloc _).xt _ _⟩
def hol1F (wr w0 : World) (ts : Tr) (ta : Option Addr) (tc : Nat) (l : List Sch) (sa : Option Addr) (sc PT PY : Nat) (y : Vio) (qq : Bool) (t6 t7 t8 t9 t10 t11 t12 t13 t14 t15 t16 t17 t18 t19 t20 : Value) (d : Array Bool) (w : World) : Prop :=
  Gr wr w ∧ (d.getD 0 false = true → t7 = .agg #[.slice ta ts.length tc]) ∧
  (d.getD 1 false = true → t8 = .int .i64 0) ∧
  (d.getD 2 false = true → t9 = .slice sa l.length sc) ∧
  (d.getD 3 false = true → t10 = .int .i64 0) ∧
  (d.getD 4 false = true → ∃ B, t11 = .slice (some ⟨B, 0, none⟩) 2 2 ∧ Row w B 32 [.int .i64 0, .int .i64 0]) ∧
  (d.getD 5 false = true → t12 = .int .i64 0) ∧
  (d.getD 6 false = true → t13 = .bool true) ∧
  (d.getD 7 false = true → t14 = .bool true) ∧
  (d.getD 8 false = true → t15 = .agg #[.slice ta ts.length tc]) ∧
  (d.getD 9 false = true → t16 = .slice sa l.length sc) ∧
  (d.getD 10 false = true → ∃ a c, t17 = .slice a (vioT ts l).length c ∧ VO w0.heap.size w (.slice a (vioT ts l).length c) (vioT ts l)) ∧
  (d.getD 11 false = true → t18 = .agg #[.int .i64 y.kind, .int .i64 y.node, .string (bs y.sch), .string (bs y.prop)]) ∧
  (d.getD 12 false = true → t19 = .bool qq) ∧
  (d.getD 13 false = true → t20 = .bool qq) ∧
  (d.getD 14 false = true → t6 = .bool qq)
def hol1A (ts : Tr) (sa : Option Addr) (l : List Sch) (sc PT PY : Nat) (t6 t7 t8 t9 t10 t11 t12 t13 t14 t15 t16 t17 t18 t19 t20 s0 s2 s4 : Value) : Act := { tmps := #[s0, .slice sa l.length sc, s2, .pointer (some ⟨PT, 0, none⟩), s4, .pointer (some ⟨PY, 0, none⟩), t6, t7, t8, t9, t10, t11, t12, t13, t14, t15, t16, t17, t18, t19, t20], defers := [] }
theorem hol1 {Q : Exit → Act → World → Prop} {wr w0 : World} {ts : Tr} {ta : Option Addr} {tc : Nat} {l : List Sch} {sa : Option Addr} {sc PT PY : Nat} {y : Vio} {qq : Bool}  {s0 s2 s4 s6 s7 s8 s9 s10 s11 s12 s13 s14 s15 s16 s17 s18 s19 s20 : Value} (hg0 : Gr w0 wr) (ht : SlOf 3 RNod w0 ta ts) (hc : chkT ts = 0) (hs : SlOf 3 RSch w0 sa l) (hl : SchGood l) (hM : MaxV w0) (hV : StdV w0) (hrt : Row wr PT 29 [.slice ta ts.length tc]) (hry : Row wr PY 36 [.int .i64 y.kind, .int .i64 y.node, .string (bs y.sch), .string (bs y.prop)]) (hnv : (vioT ts l).length ≤ 1000000) (hqq : (vioT ts l).contains y = qq)
    (h' : ∀ t6 t7 t8 t9 t10 t11 t12 t13 t14 t15 t16 t17 t18 t19 t20 wx, t6 = .bool qq → Gr wr wx → Q .normal (hol1A ts sa l sc PT PY t6 t7 t8 t9 t10 t11 t12 t13 t14 t15 t16 t17 t18 t19 t20 s0 s2 s4) wx) :
    (Code.region 1 (regIn 1 Tryz.f12) true).wp Tryz.prog Q { tmps := #[s0, .slice sa l.length sc, s2, .pointer (some ⟨PT, 0, none⟩), s4, .pointer (some ⟨PY, 0, none⟩), s6, s7, s8, s9, s10, s11, s12, s13, s14, s15, s16, s17, s18, s19, s20], defers := [] } wr := by
  have HG0 := PLift.up hg0
  have HT := PLift.up ht
  have HC := PLift.up hc
  have HS := PLift.up hs
  have HL := PLift.up hl
  have HM := PLift.up hM
  have HV := PLift.up hV
  have HRT := PLift.up hrt
  have HRY := PLift.up hry
  have HNV := PLift.up hnv
  have HQQ := PLift.up hqq
  clear hg0 ht hc hs hl hM hV hrt hry hnv hqq
  simp only [regIn, Tryz.f12, regOps, Option.bind_some, Option.getD_some, Nat.beq, cond_true, cond_false]
  refine wp_region_steps (fun done a w => ∃ t6 t7 t8 t9 t10 t11 t12 t13 t14 t15 t16 t17 t18 t19 t20, a = hol1A ts sa l sc PT PY t6 t7 t8 t9 t10 t11 t12 t13 t14 t15 t16 t17 t18 t19 t20 s0 s2 s4 ∧ hol1F wr w0 ts ta tc l sa sc PT PY y qq t6 t7 t8 t9 t10 t11 t12 t13 t14 t15 t16 t17 t18 t19 t20 done w) (by kernel_rfl) (by kernel_rfl) ?_ ⟨?_, ?_, ?_, ?_, ?_, ?_, ?_, ?_, ?_, ?_, ?_, ?_, ?_, ?_, ?_, trivial⟩ ?_
  · exact ⟨s6, s7, s8, s9, s10, s11, s12, s13, s14, s15, s16, s17, s18, s19, s20, rfl, (Gr.refl _).drew, fun q => absurd q (by decide), fun q => absurd q (by decide), fun q => absurd q (by decide), fun q => absurd q (by decide), fun q => absurd q (by decide), fun q => absurd q (by decide), fun q => absurd q (by decide), fun q => absurd q (by decide), fun q => absurd q (by decide), fun q => absurd q (by decide), fun q => absurd q (by decide), fun q => absurd q (by decide), fun q => absurd q (by decide), fun q => absurd q (by decide), fun q => absurd q (by decide)⟩
  · rintro done a w hsz hnot hdep ⟨t6, t7, t8, t9, t10, t11, t12, t13, t14, t15, t16, t17, t18, t19, t20, rfl, gw, f0, f1, f2, f3, f4, f5, f6, f7, f8, f9, f10, f11, f12, f13, f14⟩ K hK
    have hn : ¬ done.getD 0 false = true := by rw [getD_both hnot]; decide
    have c0 : w.cell? ⟨PT, 0, none⟩ = some (.slice ta ts.length tc) := (HRT.down.gr gw).cell 0 (by simp)
    have ch := has_of_cell c0
    have HK := PLift.up hK
    clear hK 
    simp only [hol1A]
    go_simp
    have gg : Gr w w := Gr.refl _
    refine HK.down _ _ ⟨_, _, _, _, _, _, _, _, _, _, _, _, _, _, _, rfl, gw, fun _ => rfl, kp f1, kp f2, kp f3, fun q => (let ⟨B, e, h2⟩ := f4 (done_old q (by decide)); ⟨B, e, h2.gr gg⟩), kp f5, kp f6, kp f7, kp f8, kp f9, fun q => (let ⟨a, c, e, h2⟩ := f10 (done_old q (by decide)); ⟨a, c, e, h2.gr gg⟩), kp f11, kp f12, kp f13, kp f14⟩
  · rintro done a w hsz hnot hdep ⟨t6, t7, t8, t9, t10, t11, t12, t13, t14, t15, t16, t17, t18, t19, t20, rfl, gw, f0, f1, f2, f3, f4, f5, f6, f7, f8, f9, f10, f11, f12, f13, f14⟩ K hK
    have hn : ¬ done.getD 1 false = true := by rw [getD_both hnot]; decide
    have d0 := hdep 0 (by kernel_rfl)
    obtain rfl := f0 d0
    have GW := PLift.up gw
    have HK := PLift.up hK
    clear hK d0
    simp only [hol1A]
    go_simp
    have TCK := treeCheck_any ts ta tc w (HT.down.gr RNod.mono (HG0.down.trans GW.down)) (by unfold Fit; have := (good_of HC.down).len.2; omega)
    rw [HC.down] at TCK
    refine TCK.mono ?_
    rintro e w2 ⟨rfl, hg⟩
    have gg : Gr w w2 := hg
    clear hg
    (try go_simp)
    refine HK.down _ _ ⟨_, _, _, _, _, _, _, _, _, _, _, _, _, _, _, rfl, gw.trans gg, kp f0, fun _ => rfl, kp f2, kp f3, fun q => (let ⟨B, e, h2⟩ := f4 (done_old q (by decide)); ⟨B, e, h2.gr gg⟩), kp f5, kp f6, kp f7, kp f8, kp f9, fun q => (let ⟨a, c, e, h2⟩ := f10 (done_old q (by decide)); ⟨a, c, e, h2.gr gg⟩), kp f11, kp f12, kp f13, kp f14⟩
  · rintro done a w hsz hnot hdep ⟨t6, t7, t8, t9, t10, t11, t12, t13, t14, t15, t16, t17, t18, t19, t20, rfl, gw, f0, f1, f2, f3, f4, f5, f6, f7, f8, f9, f10, f11, f12, f13, f14⟩ K hK
    have hn : ¬ done.getD 2 false = true := by rw [getD_both hnot]; decide
    have HK := PLift.up hK
    clear hK 
    simp only [hol1A]
    go_simp
    have gg : Gr w w := Gr.refl _
    refine HK.down _ _ ⟨_, _, _, _, _, _, _, _, _, _, _, _, _, _, _, rfl, gw, kp f0, kp f1, fun _ => rfl, kp f3, fun q => (let ⟨B, e, h2⟩ := f4 (done_old q (by decide)); ⟨B, e, h2.gr gg⟩), kp f5, kp f6, kp f7, kp f8, kp f9, fun q => (let ⟨a, c, e, h2⟩ := f10 (done_old q (by decide)); ⟨a, c, e, h2.gr gg⟩), kp f11, kp f12, kp f13, kp f14⟩
  · rintro done a w hsz hnot hdep ⟨t6, t7, t8, t9, t10, t11, t12, t13, t14, t15, t16, t17, t18, t19, t20, rfl, gw, f0, f1, f2, f3, f4, f5, f6, f7, f8, f9, f10, f11, f12, f13, f14⟩ K hK
    have hn : ¬ done.getD 3 false = true := by rw [getD_both hnot]; decide
    have d2 := hdep 2 (by kernel_rfl)
    obtain rfl := f2 d2
    have GW := PLift.up gw
    have HK := PLift.up hK
    clear hK d2
    simp only [hol1A]
    go_simp
    have SCK := check_any l sa sc w (HS.down.giC (HG0.down.trans GW.down)) HL.down.ok.1 HL.down.sml
    rw [HL.down.chk] at SCK
    refine SCK.mono ?_
    rintro e w2 ⟨rfl, hg⟩
    have gg : Gr w w2 := hg
    clear hg
    (try go_simp)
    refine HK.down _ _ ⟨_, _, _, _, _, _, _, _, _, _, _, _, _, _, _, rfl, gw.trans gg, kp f0, kp f1, kp f2, fun _ => rfl, fun q => (let ⟨B, e, h2⟩ := f4 (done_old q (by decide)); ⟨B, e, h2.gr gg⟩), kp f5, kp f6, kp f7, kp f8, kp f9, fun q => (let ⟨a, c, e, h2⟩ := f10 (done_old q (by decide)); ⟨a, c, e, h2.gr gg⟩), kp f11, kp f12, kp f13, kp f14⟩
  · rintro done a w hsz hnot hdep ⟨t6, t7, t8, t9, t10, t11, t12, t13, t14, t15, t16, t17, t18, t19, t20, rfl, gw, f0, f1, f2, f3, f4, f5, f6, f7, f8, f9, f10, f11, f12, f13, f14⟩ K hK
    have hn : ¬ done.getD 4 false = true := by rw [getD_both hnot]; decide
    have d1 := hdep 1 (by kernel_rfl)
    have d3 := hdep 3 (by kernel_rfl)
    obtain rfl := f1 d1
    obtain rfl := f3 d3
    have HK := PLift.up hK
    clear hK d1 d3
    simp only [hol1A]
    go_simp
    have gg : Gr w (w.alloc (.cells #[.int .i64 0, .int .i64 0] 32)) := (Gr.refl _).alloc _
    refine HK.down _ _ ⟨_, _, _, _, _, _, _, _, _, _, _, _, _, _, _, rfl, gw.trans gg, kp f0, kp f1, kp f2, kp f3, ?_, kp f5, kp f6, kp f7, kp f8, kp f9, fun q => (let ⟨a, c, e, h2⟩ := f10 (done_old q (by decide)); ⟨a, c, e, h2.gr gg⟩), kp f11, kp f12, kp f13, kp f14⟩
    exact fun _ => ⟨_, rfl, Row.new w _ _⟩
  · rintro done a w hsz hnot hdep ⟨t6, t7, t8, t9, t10, t11, t12, t13, t14, t15, t16, t17, t18, t19, t20, rfl, gw, f0, f1, f2, f3, f4, f5, f6, f7, f8, f9, f10, f11, f12, f13, f14⟩ K hK
    have hn : ¬ done.getD 5 false = true := by rw [getD_both hnot]; decide
    have d4 := hdep 4 (by kernel_rfl)
    obtain ⟨B, rfl, h2⟩ := f4 d4
    have HB := PLift.up h2
    have GW := PLift.up gw
    have HK := PLift.up hK
    clear hK 
    simp only [hol1A]
    go_simp
    refine (or2_any0 0 0 0 2 w B HB.down (.inl ⟨rfl, rfl⟩)).mono ?_
    rintro e w2 ⟨rfl, hg⟩
    have gg : Gr w w2 := hg
    clear hg
    (try go_simp)
    refine HK.down _ _ ⟨_, _, _, _, _, _, _, _, _, _, _, _, _, _, _, rfl, gw.trans gg, kp f0, kp f1, kp f2, kp f3, fun _ => ⟨B, rfl, HB.down.gr gg⟩, fun _ => rfl, kp f6, kp f7, kp f8, kp f9, fun q => (let ⟨a, c, e, h2⟩ := f10 (done_old q (by decide)); ⟨a, c, e, h2.gr gg⟩), kp f11, kp f12, kp f13, kp f14⟩
  · rintro done a w hsz hnot hdep ⟨t6, t7, t8, t9, t10, t11, t12, t13, t14, t15, t16, t17, t18, t19, t20, rfl, gw, f0, f1, f2, f3, f4, f5, f6, f7, f8, f9, f10, f11, f12, f13, f14⟩ K hK
    have hn : ¬ done.getD 6 false = true := by rw [getD_both hnot]; decide
    have d5 := hdep 5 (by kernel_rfl)
    obtain rfl := f5 d5
    have HK := PLift.up hK
    clear hK d5
    simp only [hol1A]
    go_simp
    have gg : Gr w w := Gr.refl _
    refine HK.down _ _ ⟨_, _, _, _, _, _, _, _, _, _, _, _, _, _, _, rfl, gw, kp f0, kp f1, kp f2, kp f3, fun q => (let ⟨B, e, h2⟩ := f4 (done_old q (by decide)); ⟨B, e, h2.gr gg⟩), kp f5, fun _ => rfl, kp f7, kp f8, kp f9, fun q => (let ⟨a, c, e, h2⟩ := f10 (done_old q (by decide)); ⟨a, c, e, h2.gr gg⟩), kp f11, kp f12, kp f13, kp f14⟩
  · rintro done a w hsz hnot hdep ⟨t6, t7, t8, t9, t10, t11, t12, t13, t14, t15, t16, t17, t18, t19, t20, rfl, gw, f0, f1, f2, f3, f4, f5, f6, f7, f8, f9, f10, f11, f12, f13, f14⟩ K hK
    have hn : ¬ done.getD 7 false = true := by rw [getD_both hnot]; decide
    have d6 := hdep 6 (by kernel_rfl)
    obtain rfl := f6 d6
    have HK := PLift.up hK
    clear hK d6
    simp only [hol1A]
    go_simp
    have gg : Gr w w := Gr.refl _
    refine HK.down _ _ ⟨_, _, _, _, _, _, _, _, _, _, _, _, _, _, _, rfl, gw, kp f0, kp f1, kp f2, kp f3, fun q => (let ⟨B, e, h2⟩ := f4 (done_old q (by decide)); ⟨B, e, h2.gr gg⟩), kp f5, kp f6, fun _ => rfl, kp f8, kp f9, fun q => (let ⟨a, c, e, h2⟩ := f10 (done_old q (by decide)); ⟨a, c, e, h2.gr gg⟩), kp f11, kp f12, kp f13, kp f14⟩
  · rintro done a w hsz hnot hdep ⟨t6, t7, t8, t9, t10, t11, t12, t13, t14, t15, t16, t17, t18, t19, t20, rfl, gw, f0, f1, f2, f3, f4, f5, f6, f7, f8, f9, f10, f11, f12, f13, f14⟩ K hK
    have hn : ¬ done.getD 8 false = true := by rw [getD_both hnot]; decide
    have d7 := hdep 7 (by kernel_rfl)
    obtain rfl := f7 d7
    have c0 : w.cell? ⟨PT, 0, none⟩ = some (.slice ta ts.length tc) := (HRT.down.gr gw).cell 0 (by simp)
    have ch := has_of_cell c0
    have HK := PLift.up hK
    clear hK d7
    simp only [hol1A]
    go_simp
    have gg : Gr w w := Gr.refl _
    refine HK.down _ _ ⟨_, _, _, _, _, _, _, _, _, _, _, _, _, _, _, rfl, gw, kp f0, kp f1, kp f2, kp f3, fun q => (let ⟨B, e, h2⟩ := f4 (done_old q (by decide)); ⟨B, e, h2.gr gg⟩), kp f5, kp f6, kp f7, fun _ => rfl, kp f9, fun q => (let ⟨a, c, e, h2⟩ := f10 (done_old q (by decide)); ⟨a, c, e, h2.gr gg⟩), kp f11, kp f12, kp f13, kp f14⟩
  · rintro done a w hsz hnot hdep ⟨t6, t7, t8, t9, t10, t11, t12, t13, t14, t15, t16, t17, t18, t19, t20, rfl, gw, f0, f1, f2, f3, f4, f5, f6, f7, f8, f9, f10, f11, f12, f13, f14⟩ K hK
    have hn : ¬ done.getD 9 false = true := by rw [getD_both hnot]; decide
    have d7 := hdep 7 (by kernel_rfl)
    obtain rfl := f7 d7
    have HK := PLift.up hK
    clear hK d7
    simp only [hol1A]
    go_simp
    have gg : Gr w w := Gr.refl _
    refine HK.down _ _ ⟨_, _, _, _, _, _, _, _, _, _, _, _, _, _, _, rfl, gw, kp f0, kp f1, kp f2, kp f3, fun q => (let ⟨B, e, h2⟩ := f4 (done_old q (by decide)); ⟨B, e, h2.gr gg⟩), kp f5, kp f6, kp f7, kp f8, fun _ => rfl, fun q => (let ⟨a, c, e, h2⟩ := f10 (done_old q (by decide)); ⟨a, c, e, h2.gr gg⟩), kp f11, kp f12, kp f13, kp f14⟩
  · rintro done a w hsz hnot hdep ⟨t6, t7, t8, t9, t10, t11, t12, t13, t14, t15, t16, t17, t18, t19, t20, rfl, gw, f0, f1, f2, f3, f4, f5, f6, f7, f8, f9, f10, f11, f12, f13, f14⟩ K hK
    have hn : ¬ done.getD 10 false = true := by rw [getD_both hnot]; decide
    have d7 := hdep 7 (by kernel_rfl)
    have d8 := hdep 8 (by kernel_rfl)
    have d9 := hdep 9 (by kernel_rfl)
    obtain rfl := f7 d7
    obtain rfl := f8 d8
    obtain rfl := f9 d9
    have GW := PLift.up gw
    have HK := PLift.up hK
    clear hK d7 d8 d9
    simp only [hol1A]
    go_simp
    refine (vios_any ts ta tc l sa sc w (HT.down.gr RNod.mono (HG0.down.trans GW.down)) HC.down (HS.down.giC (HG0.down.trans GW.down)) HL.down.ok (HM.down.gr (HG0.down.trans GW.down)) (HV.down.gr (HG0.down.trans GW.down))).mono ?_
    rintro e w2 ⟨v, rfl, hv, hg⟩
    have gg : Gr w w2 := hg
    obtain ⟨a5, c5, rfl⟩ := hv.form
    have VV := PLift.up (show VO w0.heap.size w2 _ _ from owns_low hv (HG0.down.trans GW.down).size)
    clear hg hv
    (try go_simp)
    refine HK.down _ _ ⟨_, _, _, _, _, _, _, _, _, _, _, _, _, _, _, rfl, gw.trans gg, kp f0, kp f1, kp f2, kp f3, fun q => (let ⟨B, e, h2⟩ := f4 (done_old q (by decide)); ⟨B, e, h2.gr gg⟩), kp f5, kp f6, kp f7, kp f8, kp f9, ?_, kp f11, kp f12, kp f13, kp f14⟩
    exact fun _ => ⟨_, _, rfl, VV.down⟩
  · rintro done a w hsz hnot hdep ⟨t6, t7, t8, t9, t10, t11, t12, t13, t14, t15, t16, t17, t18, t19, t20, rfl, gw, f0, f1, f2, f3, f4, f5, f6, f7, f8, f9, f10, f11, f12, f13, f14⟩ K hK
    have hn : ¬ done.getD 11 false = true := by rw [getD_both hnot]; decide
    have d7 := hdep 7 (by kernel_rfl)
    obtain rfl := f7 d7
    have q0 := (HRY.down.gr gw).cell 0 (by simp)
    have q1 := (HRY.down.gr gw).cell 1 (by simp)
    have q2 := (HRY.down.gr gw).cell 2 (by simp)
    have q3 := (HRY.down.gr gw).cell 3 (by simp)
    simp only [List.getElem_cons_zero, List.getElem_cons_succ] at q0 q1 q2 q3
    have ch := has_of_cell q0
    have HK := PLift.up hK
    clear hK d7
    simp only [hol1A]
    go_simp
    have gg : Gr w w := Gr.refl _
    refine HK.down _ _ ⟨_, _, _, _, _, _, _, _, _, _, _, _, _, _, _, rfl, gw, kp f0, kp f1, kp f2, kp f3, fun q => (let ⟨B, e, h2⟩ := f4 (done_old q (by decide)); ⟨B, e, h2.gr gg⟩), kp f5, kp f6, kp f7, kp f8, kp f9, fun q => (let ⟨a, c, e, h2⟩ := f10 (done_old q (by decide)); ⟨a, c, e, h2.gr gg⟩), fun _ => rfl, kp f12, kp f13, kp f14⟩
  · rintro done a w hsz hnot hdep ⟨t6, t7, t8, t9, t10, t11, t12, t13, t14, t15, t16, t17, t18, t19, t20, rfl, gw, f0, f1, f2, f3, f4, f5, f6, f7, f8, f9, f10, f11, f12, f13, f14⟩ K hK
    have hn : ¬ done.getD 12 false = true := by rw [getD_both hnot]; decide
    have d7 := hdep 7 (by kernel_rfl)
    have d10 := hdep 10 (by kernel_rfl)
    have d11 := hdep 11 (by kernel_rfl)
    obtain rfl := f7 d7
    obtain rfl := f11 d11
    obtain ⟨a5, c5, rfl, h2⟩ := f10 d10
    have HVV := PLift.up h2
    have GW := PLift.up gw
    have HK := PLift.up hK
    clear hK d7 d11
    simp only [hol1A]
    go_simp
    have CC := conV_any (vioT ts l) y w0.heap.size a5 c5 w HVV.down HNV.down
    rw [HQQ.down] at CC
    refine CC.mono ?_
    rintro e w2 ⟨rfl, hg⟩
    have gg : Gr w w2 := hg
    clear hg
    (try go_simp)
    refine HK.down _ _ ⟨_, _, _, _, _, _, _, _, _, _, _, _, _, _, _, rfl, gw.trans gg, kp f0, kp f1, kp f2, kp f3, fun q => (let ⟨B, e, h2⟩ := f4 (done_old q (by decide)); ⟨B, e, h2.gr gg⟩), kp f5, kp f6, kp f7, kp f8, kp f9, fun _ => ⟨_, _, rfl, HVV.down.gr gg⟩, kp f11, fun _ => rfl, kp f13, kp f14⟩
  · rintro done a w hsz hnot hdep ⟨t6, t7, t8, t9, t10, t11, t12, t13, t14, t15, t16, t17, t18, t19, t20, rfl, gw, f0, f1, f2, f3, f4, f5, f6, f7, f8, f9, f10, f11, f12, f13, f14⟩ K hK
    have hn : ¬ done.getD 13 false = true := by rw [getD_both hnot]; decide
    have d7 := hdep 7 (by kernel_rfl)
    have d12 := hdep 12 (by kernel_rfl)
    obtain rfl := f7 d7
    obtain rfl := f12 d12
    have HK := PLift.up hK
    clear hK d7 d12
    simp only [hol1A]
    go_simp
    have gg : Gr w w := Gr.refl _
    refine HK.down _ _ ⟨_, _, _, _, _, _, _, _, _, _, _, _, _, _, _, rfl, gw, kp f0, kp f1, kp f2, kp f3, fun q => (let ⟨B, e, h2⟩ := f4 (done_old q (by decide)); ⟨B, e, h2.gr gg⟩), kp f5, kp f6, kp f7, kp f8, kp f9, fun q => (let ⟨a, c, e, h2⟩ := f10 (done_old q (by decide)); ⟨a, c, e, h2.gr gg⟩), kp f11, kp f12, fun _ => rfl, kp f14⟩
  · rintro done a w hsz hnot hdep ⟨t6, t7, t8, t9, t10, t11, t12, t13, t14, t15, t16, t17, t18, t19, t20, rfl, gw, f0, f1, f2, f3, f4, f5, f6, f7, f8, f9, f10, f11, f12, f13, f14⟩ K hK
    have hn : ¬ done.getD 14 false = true := by rw [getD_both hnot]; decide
    have d13 := hdep 13 (by kernel_rfl)
    obtain rfl := f13 d13
    have HK := PLift.up hK
    clear hK d13
    simp only [hol1A]
    go_simp
    have gg : Gr w w := Gr.refl _
    refine HK.down _ _ ⟨_, _, _, _, _, _, _, _, _, _, _, _, _, _, _, rfl, gw, kp f0, kp f1, kp f2, kp f3, fun q => (let ⟨B, e, h2⟩ := f4 (done_old q (by decide)); ⟨B, e, h2.gr gg⟩), kp f5, kp f6, kp f7, kp f8, kp f9, fun q => (let ⟨a, c, e, h2⟩ := f10 (done_old q (by decide)); ⟨a, c, e, h2.gr gg⟩), kp f11, kp f12, kp f13, fun _ => rfl⟩
  · rintro done a w hall ⟨t6, t7, t8, t9, t10, t11, t12, t13, t14, t15, t16, t17, t18, t19, t20, rfl, gw, f0, f1, f2, f3, f4, f5, f6, f7, f8, f9, f10, f11, f12, f13, f14⟩
    exact h' _ _ _ _ _ _ _ _ _ _ _ _ _ _ _ w (f14 (hall 14 (by decide))) gw
theorem holds_any (ts : Tr) (ta : Option Addr) (tc : Nat) (l : List Sch) (sa : Option Addr) (sc : Nat) (y : Vio) (w : World) (h : SlOf 3 RNod w ta ts) (hc : chkT ts = 0) (hs : SlOf 3 RSch w sa l) (hl : SchGood l) (hM : MaxV w) (hV : StdV w) (hn : (vioT ts l).length ≤ 1000000) :
    Calls Tryz.prog 12 #[.agg #[.slice ta ts.length tc], .slice sa l.length sc, .agg #[.int .i64 y.kind, .int .i64 y.node, .string (bs y.sch), .string (bs y.prop)]] w (Grows w (.bool ((vioT ts l).contains y))) := by
  have H := Lib.hid h
  have HC := Lib.hid hc
  have HS := Lib.hid hs
  have HL := Lib.hid hl
  have HM := Lib.hid hM
  have HV := Lib.hid hV
  have HN := Lib.hid hn
  clear h hc hs hl hM hV hn
  obtain ⟨qq, hqq⟩ : ∃ qq, (vioT ts l).contains y = qq := ⟨_, rfl⟩
  rw [hqq]
  have HQQ := Lib.hid hqq
  clear hqq
  obtain ⟨P0, hP0⟩ : ∃ P : Ending → World → Prop, P = Grows w (.bool qq) := ⟨_, rfl⟩
  rw [← hP0]
  have HP0 := Lib.hid hP0
  clear hP0
  go_enter Tryz.func12, Tryz.ntmps12
  go_upto_region 1 with (fail)
  have e1 : (w.alloc (.cells #[.slice ta ts.length tc] 29)).heap.size = w.heap.size + 1 := by simp
  have RT := Lib.hid ((Row.new w #[.slice ta ts.length tc] 29).alloc (.cells #[.int .i64 y.kind, .int .i64 y.node, .string (bs y.sch), .string (bs y.prop)] 36))
  have RY := Row.new (w.alloc (.cells #[.slice ta ts.length tc] 29)) #[.int .i64 y.kind, .int .i64 y.node, .string (bs y.sch), .string (bs y.prop)] 36
  rw [e1] at RY
  have RY := Lib.hid RY
  clear e1
  obtain ⟨W, hW⟩ : ∃ W : World, Hid (W = (w.alloc (.cells #[.slice ta ts.length tc] 29)).alloc (.cells #[.int .i64 y.kind, .int .i64 y.node, .string (bs y.sch), .string (bs y.prop)] 36)) := ⟨_, Lib.hid rfl⟩
  have GW : Hid (Gr w W) := Lib.hid (by rw [hW.out]; exact ((Gr.refl _).alloc _).alloc _)
  rw [← hW.out] at RT RY ⊢
  obtain ⟨PT, hPT⟩ : ∃ N : Nat, Hid (w.heap.size = N) := ⟨_, Lib.hid rfl⟩
  rw [hPT.out] at RT RY ⊢
  obtain ⟨PY, hPY⟩ : ∃ N : Nat, Hid (PT + 1 = N) := ⟨_, Lib.hid rfl⟩
  rw [hPY.out] at RY ⊢
  clear hW hPT hPY
  refine wp_code_eq (c := Code.region 1 (regIn 1 Tryz.f12) true) (by kernel_rfl) (hol1 (wr := W) (y := y) GW.out H.out HC.out HS.out HL.out HM.out HV.out RT.out RY.out HN.out HQQ.out ?_)
  intro t6 t7 t8 t9 t10 t11 t12 t13 t14 t15 t16 t17 t18 t19 t20 wx e6 hgx
  subst e6
  have GX := Lib.hid (GW.out.trans hgx)
  unfold hol1A
  clear hgx
  go_wp2_with fail
  rw [HP0.out]
  exact ⟨rfl, GX.out⟩
def exR10 : Rul := ⟨[112], true, 1, 0, 0, 0, []⟩
def exL10 : List Sch := [⟨[98], false, [exR10]⟩]
def exT10 : Tr := [⟨-1, [], [⟨cmpN, [98, 0]⟩]⟩]
def exY10 : Vio := ⟨1, 0, [98], [112]⟩
theorem exT10_chk : chkT exT10 = 0 := by decide +kernel
theorem exL10_chk : chkSch exL10 = 0 := by decide +kernel
theorem ex10_vio : vioT exT10 exL10 = [exY10] := by kernel_rfl
theorem exL10_good : SchGood exL10 := by
  refine ⟨⟨by decide, fun s hs => ?_⟩, fun s hs => ?_, exL10_chk⟩
  · rw [List.mem_singleton.1 hs]
    refine ⟨by decide, fun r hr => ?_⟩
    rw [List.mem_singleton.1 hr]; decide
  · rw [List.mem_singleton.1 hs]
    refine ⟨by decide, by decide, fun r hr => ?_⟩
    rw [List.mem_singleton.1 hr]
    exact ⟨by decide, by decide, fun y hy => by cases hy⟩
theorem rul_row {w : World} {B T : Nat} {r : Rul} (h : Row w B T [.string (bs r.name), .bool r.req, .int .i64 r.kind, .int .i64 r.low, .int .i64 r.high, .int .i64 r.count, .slice none 0 0]) (hw : r.words = []) (hn : r.name.length ≤ 9223372036854775807) (h2 : Wide r.kind) (h3 : Wide r.low) (h4 : Wide r.high) (h5 : Wide r.count) :
    SlOf 7 RRul w (some ⟨B, 0, none⟩) [r] := fun k hk => by
  obtain rfl : k = 0 := by simp at hk; omega
  have c0 := h.cell 0 (by simp)
  have c1 := h.cell 1 (by simp)
  have c2 := h.cell 2 (by simp)
  have c3 := h.cell 3 (by simp)
  have c4 := h.cell 4 (by simp)
  have c5 := h.cell 5 (by simp)
  have c6 := h.cell 6 (by simp)
  refine ⟨B, 0, rfl, ⟨c0, hn⟩, c1, ⟨c2, h2⟩, ⟨c3, h3⟩, ⟨c4, h4⟩, ⟨c5, h5⟩, none, 0, ?_, ?_, ?_, ?_⟩
  · show w.cell? _ = _
    rw [show ([r] : List Rul)[0].words = [] from hw]
    exact c6
  · rw [show ([r] : List Rul)[0].words = [] from hw]; exact Nat.le_refl _
  · rw [show ([r] : List Rul)[0].words = [] from hw]; unfold Fit; simp
  · rw [show ([r] : List Rul)[0].words = [] from hw]; exact SlOf.nil _ _ _ _
theorem sch_row {w : World} {B T n c : Nat} {s : Sch} {a : Option Addr} (h : Row w B T [.string (bs s.comp), .bool s.closed, .slice a n c]) (hn : s.rules.length = n) (hc : n ≤ c) (hf : n ≤ 1000) (hl : s.comp.length ≤ 1000) (hr : SlOf 7 RRul w a s.rules) :
    SlOf 3 RSch w (some ⟨B, 0, none⟩) [s] := fun k hk => by
  obtain rfl : k = 0 := by simp at hk; omega
  have c0 := h.cell 0 (by simp)
  have c1 := h.cell 1 (by simp)
  have c2 := h.cell 2 (by simp)
  refine ⟨B, 0, rfl, ⟨c0, ?_⟩, c1, a, c, ?_, ?_, ?_, ?_⟩
  · show s.comp.length ≤ _; omega
  · show w.cell? _ = some (.slice a s.rules.length c)
    rw [hn]; exact c2
  · show s.rules.length ≤ c
    omega
  · show Fit s.rules.length
    unfold Fit; omega
  · exact hr
theorem prp_row {w : World} {B T : Nat} {p : Prp} (h : Row w B T [.string (bs p.name), .string (bs p.val)]) (h1 : p.name.length ≤ 1000) (h2 : p.val.length ≤ 1000) : SlOf 2 RPrp w (some ⟨B, 0, none⟩) [p] := fun k hk => by
  obtain rfl : k = 0 := by simp at hk; omega
  have c0 := h.cell 0 (by simp)
  have c1 := h.cell 1 (by simp)
  refine ⟨B, 0, rfl, ⟨c0, ?_⟩, ⟨c1, ?_⟩⟩
  · show p.name.length ≤ _; omega
  · show p.val.length ≤ _; omega
theorem nod_row {w : World} {B T m c : Nat} {n : Nod} {a : Option Addr} (h : Row w B T [.int .i64 n.parent, .string (bs n.name), .slice a m c]) (hn : n.props.length = m) (hc : m ≤ c) (hf : m ≤ 1000) (hl : n.name.length ≤ 1000) (hp : Wide n.parent) (hr : SlOf 2 RPrp w a n.props) :
    SlOf 3 RNod w (some ⟨B, 0, none⟩) [n] := fun k hk => by
  obtain rfl : k = 0 := by simp at hk; omega
  have c0 := h.cell 0 (by simp)
  have c1 := h.cell 1 (by simp)
  have c2 := h.cell 2 (by simp)
  refine ⟨B, 0, rfl, ⟨c0, hp⟩, ⟨c1, ?_⟩, a, c, ?_, ?_, ?_, ?_⟩
  · show n.name.length ≤ _; omega
  · show w.cell? _ = some (.slice a n.props.length c)
    rw [hn]; exact c2
  · show n.props.length ≤ c
    omega
  · show Fit n.props.length
    unfold Fit; omega
  · exact hr
theorem awake10_any (w : World) (hM : MaxV w) (hV : StdV w) : Calls Tryz.prog 13 #[] w (Grows w (.bool true)) := by
  have HM := Lib.hid hM
  have HV := Lib.hid hV
  clear hM hV
  go_enter Tryz.func13, Tryz.ntmps13
  go_upto_region 3 with (fail)
  obtain ⟨V0, hV0⟩ : ∃ W : World, Hid (W = w.alloc (.cells #[.string ⟨#[112]⟩, .bool true, .int .i64 1, .int .i64 0, .int .i64 0, .int .i64 0, .slice none 0 0] 51)) := ⟨_, Lib.hid rfl⟩
  have z0 : V0.heap.size = w.heap.size + 1 := by rw [hV0.out]; simp
  have g0 : Gr w V0 := by rw [hV0.out]; exact (Gr.refl _).alloc _
  have r0 := Row.new w #[.string ⟨#[112]⟩, .bool true, .int .i64 1, .int .i64 0, .int .i64 0, .int .i64 0, .slice none 0 0] 51
  rw [← hV0.out] at r0
  rw [← hV0.out]
  obtain ⟨V1, hV1⟩ : ∃ W : World, Hid (W = V0.alloc (.cells #[.string ⟨#[98]⟩, .bool false, .slice (some ⟨w.heap.size, 0, none⟩) 1 1] 48)) := ⟨_, Lib.hid rfl⟩
  have z1 : V1.heap.size = w.heap.size + 1 + 1 := by rw [hV1.out]; simp [z0]
  have g1 : Gr V0 V1 := by rw [hV1.out]; exact (Gr.refl _).alloc _
  have r1 := Row.new V0 #[.string ⟨#[98]⟩, .bool false, .slice (some ⟨w.heap.size, 0, none⟩) 1 1] 48
  rw [← hV1.out, z0] at r1
  rw [← hV1.out]
  obtain ⟨V2, hV2⟩ : ∃ W : World, Hid (W = V1.alloc (.cells #[.string ⟨#[99, 111, 109, 112, 97, 116, 105, 98, 108, 101]⟩, .string ⟨#[98, 0]⟩] 83)) := ⟨_, Lib.hid rfl⟩
  have z2 : V2.heap.size = w.heap.size + 1 + 1 + 1 := by rw [hV2.out]; simp [z1]
  have g2 : Gr V1 V2 := by rw [hV2.out]; exact (Gr.refl _).alloc _
  have r2 := Row.new V1 #[.string ⟨#[99, 111, 109, 112, 97, 116, 105, 98, 108, 101]⟩, .string ⟨#[98, 0]⟩] 83
  rw [← hV2.out, z1] at r2
  rw [← hV2.out]
  obtain ⟨V3, hV3⟩ : ∃ W : World, Hid (W = V2.alloc (.cells #[.int .i64 (-1), .string ⟨#[]⟩, .slice (some ⟨w.heap.size + 1 + 1, 0, none⟩) 1 1] 86)) := ⟨_, Lib.hid rfl⟩
  have z3 : V3.heap.size = w.heap.size + 1 + 1 + 1 + 1 := by rw [hV3.out]; simp [z2]
  have g3 : Gr V2 V3 := by rw [hV3.out]; exact (Gr.refl _).alloc _
  have r3 := Row.new V2 #[.int .i64 (-1), .string ⟨#[]⟩, .slice (some ⟨w.heap.size + 1 + 1, 0, none⟩) 1 1] 86
  rw [← hV3.out, z2] at r3
  rw [← hV3.out]
  obtain ⟨V4, hV4⟩ : ∃ W : World, Hid (W = V3.alloc (.cells #[.slice (some ⟨w.heap.size + 1 + 1 + 1, 0, none⟩) 1 1] 29)) := ⟨_, Lib.hid rfl⟩
  have z4 : V4.heap.size = w.heap.size + 1 + 1 + 1 + 1 + 1 := by rw [hV4.out]; simp [z3]
  have g4 : Gr V3 V4 := by rw [hV4.out]; exact (Gr.refl _).alloc _
  have r4 := Row.new V3 #[.slice (some ⟨w.heap.size + 1 + 1 + 1, 0, none⟩) 1 1] 29
  rw [← hV4.out, z3] at r4
  rw [← hV4.out]
  have G1 := Lib.hid (g1.trans (g2.trans (g3.trans g4)))
  have GW := Lib.hid (g0.trans G1.out)
  have R0 := r0.gr G1.out
  have R1 := r1.gr (g2.trans (g3.trans g4))
  have R2 := r2.gr (g3.trans g4)
  have R3 := r3.gr g4
  have R4 := Lib.hid r4
  have SR : SlOf 7 RRul V4 (some ⟨w.heap.size, 0, none⟩) [exR10] := rul_row R0 rfl (by decide) (by unfold Wide; decide) (by unfold Wide; decide) (by unfold Wide; decide) (by unfold Wide; decide)
  have SS := Lib.hid (show SlOf 3 RSch V4 (some ⟨w.heap.size + 1, 0, none⟩) exL10 from sch_row (n := 1) (c := 1) R1 rfl (by omega) (by omega) (by decide) SR)
  have SP : SlOf 2 RPrp V4 (some ⟨w.heap.size + 1 + 1, 0, none⟩) [⟨cmpN, [98, 0]⟩] := prp_row R2 (by decide) (by decide)
  have ST := Lib.hid (show SlOf 3 RNod V4 (some ⟨w.heap.size + 1 + 1 + 1, 0, none⟩) exT10 from nod_row (n := ⟨-1, [], [⟨cmpN, [98, 0]⟩]⟩) (m := 1) (c := 1) R3 rfl (by omega) (by omega) (by decide) (by unfold Wide; decide) SP)
  clear G1 SR SP R0 R1 R2 R3 r0 r1 r2 r3 r4 g0 g1 g2 g3 g4 z0 z1 z2 z3 z4 hV0 hV1 hV2 hV3 hV4 V0 V1 V2 V3
  obtain ⟨BS, hBS⟩ : ∃ N : Nat, Hid (w.heap.size + 1 = N) := ⟨_, Lib.hid rfl⟩
  obtain ⟨BT, hBT⟩ : ∃ N : Nat, Hid (w.heap.size + 1 + 1 + 1 = N) := ⟨_, Lib.hid rfl⟩
  obtain ⟨BX, hBX⟩ : ∃ N : Nat, Hid (w.heap.size + 1 + 1 + 1 + 1 = N) := ⟨_, Lib.hid rfl⟩
  rw [hBX.out, hBT.out] at R4
  rw [hBX.out, hBT.out]
  rw [hBS.out] at SS ⊢
  rw [hBT.out] at ST
  clear hBS hBT hBX
  have VC := violations_any exT10 (some ⟨BT, 0, none⟩) 1 exL10 (some ⟨BS, 0, none⟩) 1 V4 ST.out exT10_chk SS.out exL10_good (HM.out.gr GW.out) (HV.out.gr GW.out) (by rw [ex10_vio]; decide)
  rw [ex10_vio] at VC
  have VC := Lib.hid (show Calls Tryz.prog 11 #[.agg #[.slice (some ⟨BT, 0, none⟩) 1 1], .slice (some ⟨BS, 0, none⟩) 1 1] V4 (GivesVios [exY10] V4) from VC)
  have x0 := R4.out.cell 0 (by simp)
  simp only [List.getElem_cons_zero] at x0
  have hx := has_of_cell x0
  go_wp2_with fail
  refine VC.out.mono ?_
  rintro e w1 ⟨v, rfl, hv, hg1⟩
  obtain ⟨a, cc, rfl⟩ := hv.form
  have G2 := Lib.hid (GW.out.trans hg1)
  have R5 := Lib.hid (R4.out.gr hg1)
  obtain ⟨g, rfl, p0, p1, p2, p3⟩ := hv.at (k := 0) (by simp)
  have q0 : w1.cell? ⟨g, 0, none⟩ = some (.int .i64 1) := p0
  have q1 : w1.cell? ⟨g, 1, none⟩ = some (.int .i64 0) := p1
  have q2 : w1.cell? ⟨g, 2, none⟩ = some (.string (bs [98])) := p2
  have q3 : w1.cell? ⟨g, 3, none⟩ = some (.string (bs [112])) := p3
  have HH := Lib.hid (fun W2 (hg : Gr V4 W2) => (by
    have q := holds_any exT10 (some ⟨BT, 0, none⟩) 1 exL10 (some ⟨BS, 0, none⟩) 1 exY10 W2 (ST.out.gr RNod.mono hg) exT10_chk (SS.out.giC hg) exL10_good ((HM.out.gr GW.out).gr hg) ((HV.out.gr GW.out).gr hg) (by rw [ex10_vio]; decide)
    rw [ex10_vio, show ([exY10] : List Vio).contains exY10 = true by simp] at q
    exact q : Calls Tryz.prog 12 #[.agg #[.slice (some ⟨BT, 0, none⟩) 1 1], .slice (some ⟨BS, 0, none⟩) 1 1, .agg #[.int .i64 1, .int .i64 0, .string (bs [98]), .string (bs [112])]] W2 (Grows W2 (.bool true))))
  have G3 := Lib.hid hg1
  have heq : ∀ W, (binOp .eql 36 (.agg #[.int .i64 1, .int .i64 0, .string (bs [98]), .string (bs [112])]) (.agg #[.int .i64 1, .int .i64 0, .string ⟨#[98]⟩, .string ⟨#[112]⟩])).run Tryz.prog W = .ok (.bool true) W := fun W => by
    have q := eqVio exY10 exY10 W
    rw [beq_self_eq_true] at q
    exact q
  have x0 := R5.out.cell 0 (by simp)
  simp only [List.getElem_cons_zero] at x0
  have hx := has_of_cell x0
  have hq := has_of_cell q0
  clear hv hg1 VC p0 p1 p2 p3
  simp only [List.length_cons, List.length_nil, Nat.zero_add]
  go_wp2_with fail
  refine wp_region_grows (by kernel_rfl) (by kernel_rfl) ?_
  repeat (go_big_quiet_step (first | (go_at_call 12; exact calls_grows (HH.out _ (by first | exact G3.out | exact G3.out.drewN _ | exact G3.out.xt _ _)))))
  refine wpQuiet_nil ?_
  rintro _ ⟨⟨O, d9⟩, rfl⟩
  go_wp2_with fail
  go_ret
  exact ⟨rfl, G2.out.xt _ _⟩
theorem neVio (p q : Vio) (w : World) : (binOp .neq 36 (.agg #[.int .i64 p.kind, .int .i64 p.node, .string (bs p.sch), .string (bs p.prop)]) (.agg #[.int .i64 q.kind, .int .i64 q.node, .string (bs q.sch), .string (bs q.prop)])).run Tryz.prog w = .ok (.bool (p != q)) w := by
  have e : (p != q) = !(p.kind == q.kind && p.node == q.node && p.sch == q.sch && p.prop == q.prop) := by
    unfold bne
    congr 1
    rw [Bool.eq_iff_iff]; simp; constructor
    · rintro rfl; exact ⟨⟨⟨rfl, rfl⟩, rfl⟩, rfl⟩
    · rintro ⟨⟨⟨h1, h2⟩, h3⟩, h4⟩; cases p; cases q; simp_all
  rw [e]
  have hs := Tryz.stoodInHeld36
  have hu := Tryz.underlying36
  have hz := Tryz.underlying9
  have hn := Tryz.underlying3
  simp [go_sem, hs, hu, hz, hn]
  by_cases h1 : p.kind = q.kind <;> by_cases h2 : p.node = q.node <;> by_cases h3 : p.sch = q.sch <;> by_cases h4 : p.prop = q.prop <;> simp [h1, h2, h3, h4]
theorem repT {P0 : Ending → World → Prop} {PY PZ n ll vc zn zc c1 bb : Nat} {za va a1 : Option Addr} {l : List Sch} {zs : Tr} {L : List Vio} {kd nd0 : Int} {sc0 pr0 : St} {w W : World} {s0 s1 s2 s3 s5 s7 s9 s12 s13 s14 s15 s16 s17 s18 s19 s20 s21 s22 s23 s24 s25 s26 s27 s28 s29 s30 s31 s32 s33 s34 s35 s36 s37 s38 s39 s40 s41 s42 s43 s44 s45 s46 s47 s48 s49 s50 s51 s52 s53 s54 s55 s56 s57 s58 s59 s60 s61 s62 s63 s64 s65 s66 s67 s68 s69 s70 s71 s72 s73 s74 s75 s76 s77 s78 s79 s80 s81 s82 s83 s84 s85 s86 s87 s88 s89 s90 s91 s92 s93 s94 s95 s96 s97 s98 s99 s100 s101 s102 s103 s104 s105 s106 s107 s108 s109 s110 s111 s112 s113 s114 s115 s116 s117 s118 s119 s120 s121 s122 s123 s124 s125 s126 s127 s128 s129 s130 s131 s132 s133 s134 s135 s136 s137 s138 s139 s140 s141 s142 s143 s144 s145 s146 s147 s148 s149 s150 s151 s152 s153 s154 s155 s156 s157 s158 s159 s160 s161 s162 s163 s164 s165 s166 s167 s168 s169 s170 s171 : Value}
    (hP0 : Hid (P0 = Grows w (.bool true))) (GX : Hid (Gr w W)) (VA : Hid (VO bb W (.slice a1 n c1) L)) (hn : Hid (L.length = n)) (RY : Hid (Row W PY 36 [.int .i64 kd, .int .i64 nd0, .string (bs sc0), .string (bs pr0)])) (RZ : Hid (Row W PZ 29 [.slice za zn zc])) (SZ : Hid (SlOf 3 RNod W za zs)) (zl : Hid (zs.length = zn)) (VZ : Hid (VT zs)) (B0 : Hid ((vioT zs l).length ≤ 96))
    (SS : Hid (SlOf 3 RSch W va l)) (hll : Hid (l.length = ll)) (SG : Hid (SchGood l)) (HM : Hid (MaxV W)) (HV : Hid (StdV W)) (LS : Hid (Less ⟨kd, nd0, sc0, pr0⟩ L (vioT zs l))) (ND : Hid (∀ i k (hk : k < i) (hi : i < L.length), L[k]'(by omega) ≠ L[i])) :
    (tl 11 Tryz.f4).wp Tryz.prog (bodyPost Tryz.prog Tryz.f4 P0) { tmps := #[s0, s1, s2, s3, .slice va ll vc, s5, .slice a1 n c1, s7, .pointer (some ⟨PY, 0, none⟩), s9, .pointer (some ⟨PZ, 0, none⟩), .int .i64 0, s12, s13, s14, s15, s16, s17, s18, s19, s20, s21, s22, s23, s24, s25, s26, s27, s28, s29, s30, s31, s32, s33, s34, s35, s36, s37, s38, s39, s40, s41, s42, s43, s44, s45, s46, s47, s48, s49, s50, s51, s52, s53, s54, s55, s56, s57, s58, s59, s60, s61, s62, s63, s64, s65, s66, s67, s68, s69, s70, s71, s72, s73, s74, s75, s76, s77, s78, s79, s80, s81, s82, s83, s84, s85, s86, s87, s88, s89, s90, s91, s92, s93, s94, s95, s96, s97, s98, s99, s100, s101, s102, s103, s104, s105, s106, s107, s108, s109, s110, s111, s112, s113, s114, s115, s116, s117, s118, s119, s120, s121, s122, s123, s124, s125, s126, s127, s128, s129, s130, s131, s132, s133, s134, s135, s136, s137, s138, s139, s140, s141, s142, s143, s144, s145, s146, s147, s148, s149, s150, s151, s152, s153, s154, s155, s156, s157, s158, s159, s160, s161, s162, s163, s164, s165, s166, s167, s168, s169, s170, s171], defers := [] } W := by
  simp only [tl, Tryz.f4, Option.map_some, Option.getD_some, sndN]
  have HP0 : Hid (P0 = Grows w (.bool true)) := hP0
  have HB0 : Hid ((vioT zs l).length ≤ 96) := B0
  have V1 := violations_any zs za zc l va vc W SZ.out (chk_V VZ.out) SS.out SG.out HM.out HV.out (by have := B0.out; omega)
  rw [zl.out, hll.out] at V1
  have V1 := Lib.hid V1
  obtain ⟨m, hm0, hm1, hm2, hm3⟩ := LS.out.at
  have LL := LS.out.len
  obtain ⟨L2, hL2⟩ : ∃ L2, vioT zs l = L2 := ⟨_, rfl⟩
  rw [hL2] at V1 hm2 hm3 LL HB0
  clear hL2 LS B0
  obtain ⟨n2, hn2⟩ : ∃ N : Nat, Hid (L2.length = N) := ⟨_, Lib.hid rfl⟩
  have NN : Hid (n = n2 + 1 ∧ n2 ≤ 96 ∧ m < n) := Lib.hid ⟨by rw [← hn.out, ← hn2.out]; exact LL, by rw [← hn2.out]; exact HB0.out, by rw [← hn.out]; exact hm0⟩
  have MY : Hid (L[m]? = some ⟨kd, nd0, sc0, pr0⟩) := Lib.hid hm1
  have M2 := Lib.hid hm2
  have M3 := Lib.hid hm3
  clear hm0 hm1 hm2 hm3 LL HB0
  have z0 := RZ.out.cell 0 (by simp)
  simp only [List.getElem_cons_zero] at z0
  have hz := has_of_cell z0
  go_wp2_with fail
  refine V1.out.mono ?_
  rintro e w5 ⟨v2, rfl, hv2, hg5⟩
  obtain ⟨a2, c2, rfl⟩ := hv2.form
  have VB2 := Lib.hid hv2
  have G5 := Lib.hid hg5
  clear hv2 hg5 V1 z0 hz
  rw [hn2.out]
  have nn := NN.out
  have w1 : IntKind.i64.wrap ((n : Int) - 1) = (n2 : Int) := by rw [show (n : Int) - 1 = (n2 : Int) by omega]; exact Go.IntWalk.i64_in _ (by omega)
  go_wp2_with fail
  clear w1
  go_loopw [20, 155] (fun s20 s155 wr => ∃ i j : Nat, i ≤ n ∧ s155 = .int .i64 (i : Int) ∧ s20 = .int .i64 (j : Int) ∧ (i ≤ m → j = i) ∧ (m < i → j + 1 = i) ∧ Gr w5 wr) (fun _ s155 _ => n - (intOf s155).toNat)
  case atStart => exact ⟨0, 0, Nat.zero_le _, rfl, rfl, fun _ => rfl, fun h => by omega, by first | exact Gr.refl _ | exact (Gr.refl _).drewN _⟩
  case round =>
    obtain ⟨i, j, hi, rfl, rfl, j1, j2, hg⟩ := hrel
    have HG := Lib.hid hg
    have J := Lib.hid (And.intro j1 j2)
    clear hg j1 j2
    by_cases hlt : i < n
    · have KL : i < L.length := by rw [hn.out]; exact hlt
      obtain ⟨g, e1, p0, p1, p2, p3⟩ := (VA.out.gr (G5.out.trans HG.out)).at KL
      subst e1
      have ry := RY.out.gr (G5.out.trans HG.out)
      have y0 := ry.cell 0 (by simp)
      have y1 := ry.cell 1 (by simp)
      have y2 := ry.cell 2 (by simp)
      have y3 := ry.cell 3 (by simp)
      simp only [List.getElem_cons_zero, List.getElem_cons_succ] at y0 y1 y2 y3
      have hy := has_of_cell y0
      have hp := has_of_cell p0
      have kn : (i : Int) < (n : Int) := by omega
      have heq := fun W => eqVio L[i] ⟨kd, nd0, sc0, pr0⟩ W
      have HLT := Lib.hid hlt
      clear ry
      by_cases him : i = m
      · subst him
        have jm : j = i := J.out.1 (Nat.le_refl _)
        subst jm
        have hb : (L[j] == (⟨kd, nd0, sc0, pr0⟩ : Vio)) = true := by
          have q := MY.out
          rw [List.getElem?_eq_getElem KL] at q
          rw [Option.some.inj q]
          exact beq_self_eq_true _
        simp only [hb] at heq
        clear hb
        go_wp2_with fail
        go_roundw
        case rel => exact ⟨j + 1, j, by have := HLT.out; omega, by go_num, rfl, fun h => by omega, fun h => rfl, by first | exact HG.out.alloc _ | exact (HG.out.alloc _).drewN _⟩
        case measure => exact meas_up HLT.out
      · have hb : (L[i] == (⟨kd, nd0, sc0, pr0⟩ : Vio)) = false := by
          rw [beq_eq_false_iff_ne]
          intro e
          have q := MY.out
          have hm2 : m < L.length := by have := hn.out; have := NN.out; omega
          rw [List.getElem?_eq_getElem hm2] at q
          have q := Option.some.inj q
          rcases Nat.lt_or_ge i m with x | x
          · exact ND.out m i x hm2 (by rw [e, q])
          · exact ND.out i m (by omega) KL (by rw [e, q])
        simp only [hb] at heq
        clear hb
        have JL : j < L2.length := by have := hn2.out; have := NN.out; have := J.out; omega
        have EJ : L2[j] = L[i] := by
          rcases Nat.lt_or_ge i m with x | x
          · obtain rfl := J.out.1 (by omega)
            have q := M2.out j x
            rw [List.getElem?_eq_getElem JL, List.getElem?_eq_getElem KL] at q
            exact Option.some.inj q
          · have j2 := J.out.2 (by omega)
            have q := M3.out j (by omega)
            rw [List.getElem?_eq_getElem JL] at q
            have e : L[j + 1]? = some L[i] := by rw [j2, List.getElem?_eq_getElem KL]
            rw [e] at q
            exact Option.some.inj q
        obtain ⟨g2, e2, q0, q1, q2, q3⟩ := (VB2.out.gr HG.out).at JL
        subst e2
        rw [EJ] at q0 q1 q2 q3
        have hq := has_of_cell q0
        have jn : (j : Int) < (n2 : Int) := by have := hn2.out; omega
        have hne := fun W => neVio L[i] L[i] W
        have hb2 : (L[i] != L[i]) = false := by simp
        simp only [hb2] at hne
        clear hb2 EJ
        go_wp2_with fail
        go_quiet (fail)
        go_wp2_with fail
        go_roundw
        case rel => exact ⟨i + 1, j + 1, by have := HLT.out; omega, by go_num, by go_num, fun h => by have := J.out; omega, fun h => by have := J.out; omega, by first | exact (HG.out.alloc _).drewN _ | exact HG.out.alloc _⟩
        case measure => exact meas_up HLT.out
    · obtain rfl : i = n := by omega
      have AW := awake10_any wr (HM.out.gr (G5.out.trans HG.out)) (HV.out.gr (G5.out.trans HG.out))
      go_wp2_with fail
      refine AW.mono ?_
      rintro e w6 ⟨rfl, hg6⟩
      go_wp2_with fail
      rw [HP0.out]
      exact ⟨rfl, GX.out.trans (G5.out.trans (HG.out.trans hg6))⟩

theorem infoSch : (Tryz.prog.info? 48).map (fun i => (i.zero, i.size, i.bytes)) = some (some (.agg #[.string (bs []), .bool false, .slice none 0 0]), 3, 48) := by kernel_rfl
theorem SM.enc_one (x : SM) {a : Option Addr} {n c : Nat} (h : x.v = .slice a n c) : ∀ u ∈ x.enc, u.oneCell' = true := by
  intro u hu
  simp only [SM.enc, List.mem_cons, List.not_mem_nil, or_false] at hu
  rcases hu with q | q | q <;> subst q
  · rfl
  · rfl
  · rw [h]; rfl
end Go.Proofs.YtbpkndiecomggaaGreatDoor
