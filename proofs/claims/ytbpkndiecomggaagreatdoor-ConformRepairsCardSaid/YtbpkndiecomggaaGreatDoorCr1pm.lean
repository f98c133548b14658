/- Lemmas and contracts for the proof of ConformRepairs (several texts in one, printed by wip/tools/pack.py): VcF VcG VcH. -/
import Derived.Test.YtbpkndiecomggaaGreatDoorCr1pl
set_option maxRecDepth 100000
set_option maxHeartbeats 16000000
set_option linter.unusedVariables false
set_option linter.unusedSimpArgs false
namespace Go.Proofs.YtbpkndiecomggaaGreatDoor
open Go.RowKit
open Classical
def StepV (base n : Nat) (w : World) (v : Value) (er : Nat) : Prop := (0 < er ∧ er ≤ 8 ∧ v = .slice none 0 0) ∨ (er = 0 ∧ ∃ ms : List NM, TrAt base w v ms ∧ VB (ms.map NM.n) ∧ ms.length = n + 1)
theorem StepV.one {base n : Nat} {w : World} {v : Value} {er : Nat} (h : StepV base n w v er) : ∃ a m c, v = .slice a m c := by
  rcases h with ⟨_, _, rfl⟩ | ⟨_, ms, h, _⟩
  · exact ⟨_, _, _, rfl⟩
  · obtain ⟨a, c, e⟩ := owns_slice h.own; exact ⟨_, _, _, e⟩
theorem StepV.gr {base n : Nat} {w w' : World} {v : Value} {er : Nat} (h : StepV base n w v er) (hg : Gr w w') : StepV base n w' v er := h.imp id fun ⟨e, ms, h1, h2⟩ => ⟨e, ms, h1.gr hg, h2⟩
theorem StepV.mv {base n b len : Nat} {w w' : World} {v : Value} {er : Nat} (h : StepV base n w v er) (hb : b < base) (hm : Mv b len w w') : StepV base n w' v er := h.imp id fun ⟨e, ms, h1, h2⟩ => ⟨e, ms, h1.mv hb hm, h2⟩
theorem StepV.box {base n B o : Nat} {w : World} {v u : Value} {vs : List Value} {er : Nat} (h : StepV base n w v er) (hr : Row w B 29 vs) : StepV base n (w.setCell ⟨B, o, none⟩ u) v er := h.imp id fun ⟨e, ms, h1, h2⟩ => ⟨e, ms, h1.box hr.ty (by decide) (h1.ne_ty hr.ty (by decide)), h2⟩
def stp1F (wr : World) (b len PB P2 n cap base : Nat) (ad : Option Addr) (ms : List NM) (t5 t6 t7 t8 t9 t10 t11 t12 t13 t14 t15 t16 : Value) (d : Array Bool) (w : World) : Prop :=
  (Mv b len wr w ∧ Row w PB 29 [.slice ad n cap]) ∧ (d.getD 0 false = true → t8 = .agg #[.slice ad n cap]) ∧
  (d.getD 1 false = true → t9 = .pointer (some ⟨b, 0, none⟩)) ∧
  (d.getD 2 false = true → t10 = .agg #[.slice ad n cap]) ∧
  (d.getD 3 false = true → ∃ s : St, t11 = .string (bs s)) ∧
  (d.getD 4 false = true → t12 = .pointer (some ⟨b, 0, none⟩)) ∧
  (d.getD 5 false = true → ∃ x : St, t13 = .string (bs x) ∧ x ∈ nodesV) ∧
  (d.getD 6 false = true → ∃ (v : Value) (er : Nat), t14 = .tuple #[.agg #[v], .int .i64 (er : Int)] ∧ StepV base n w v er) ∧
  (d.getD 7 false = true → (d.getD 6 false = true ∧ t7 = t14)) ∧
  (d.getD 8 false = true → (d.getD 6 false = true ∧ ∃ (v : Value) (er : Nat), t14 = .tuple #[.agg #[v], .int .i64 (er : Int)] ∧ t15 = .agg #[v])) ∧
  (d.getD 9 false = true → (d.getD 6 false = true ∧ ∃ (v : Value) (er : Nat), t14 = .tuple #[.agg #[v], .int .i64 (er : Int)] ∧ t16 = .int .i64 (er : Int))) ∧
  (d.getD 10 false = true → ∃ B, t5 = .pointer (some ⟨B, 0, none⟩) ∧ wr.heap.size ≤ B ∧ (d.getD 11 false = false → Row w B 29 [.slice none 0 0])) ∧
  (d.getD 11 false = true → (d.getD 6 false = true ∧ d.getD 10 false = true ∧ ∃ (v : Value) (er B : Nat), t14 = .tuple #[.agg #[v], .int .i64 (er : Int)] ∧ t5 = .pointer (some ⟨B, 0, none⟩) ∧ wr.heap.size ≤ B ∧ Row w B 29 [v])) ∧
  (d.getD 12 false = true → (d.getD 6 false = true ∧ ∃ (v : Value) (er : Nat), t14 = .tuple #[.agg #[v], .int .i64 (er : Int)] ∧ t6 = .int .i64 (er : Int)))
def stp1A (b PB P2 : Nat) (t5 t6 t7 t8 t9 t10 t11 t12 t13 t14 t15 t16 s1 s2 s17 s18 s19 s20 : Value) : Act := { tmps := #[.pointer (some ⟨b, 0, none⟩), s1, s2, .pointer (some ⟨PB, 0, none⟩), .pointer (some ⟨P2, 0, none⟩), t5, t6, t7, t8, t9, t10, t11, t12, t13, t14, t15, t16, s17, s18, s19, s20], defers := [] }
theorem stp1 {Q : Exit → Act → World → Prop} {wr : World} {b len PB P2 n cap base : Nat} {ad : Option Addr} {ms : List NM}  {s1 s2 s5 s6 s7 s8 s9 s10 s11 s12 s13 s14 s15 s16 s17 s18 s19 s20 : Value} (htp : Tp wr b len) (hrow : Row wr PB 29 [.slice ad n cap]) (hnb : PB ≠ b ∧ b < base ∧ b < wr.heap.size ∧ base ≤ wr.heap.size ∧ PB < wr.heap.size) (hl : (ms.map NM.n).length = n) (hv : VB (ms.map NM.n)) (htr : TrAt base wr (.slice ad n cap) ms)
    (h' : ∀ t5 t6 t7 t8 t9 t10 t11 t12 t13 t14 t15 t16 wx, (∃ (v : Value) (er B : Nat), t6 = .int .i64 (er : Int) ∧ t5 = .pointer (some ⟨B, 0, none⟩) ∧ wr.heap.size ≤ B ∧ Row wx B 29 [v] ∧ StepV base n wx v er) → Mv b len wr wx → Row wx PB 29 [.slice ad n cap] → Q .normal (stp1A b PB P2 t5 t6 t7 t8 t9 t10 t11 t12 t13 t14 t15 t16 s1 s2 s17 s18 s19 s20) wx) :
    (Code.region 1 (regIn 1 Tryz.f66) true).wp Tryz.prog Q { tmps := #[.pointer (some ⟨b, 0, none⟩), s1, s2, .pointer (some ⟨PB, 0, none⟩), .pointer (some ⟨P2, 0, none⟩), s5, s6, s7, s8, s9, s10, s11, s12, s13, s14, s15, s16, s17, s18, s19, s20], defers := [] } wr := by
  have HTP := PLift.up htp
  have HRW := PLift.up hrow
  have HNB := PLift.up (show PB ≠ b ∧ b < base ∧ (b < wr.heap.size ∧ PB < wr.heap.size) ∧ base ≤ wr.heap.size from ⟨hnb.1, hnb.2.1, ⟨hnb.2.2.1, hnb.2.2.2.2⟩, hnb.2.2.2.1⟩)
  have HL := PLift.up hl
  have HV := PLift.up hv
  have HTR := PLift.up htr
  have HBS := PLift.up htp.has
  clear htp hrow hnb hl hv htr
  simp only [regIn, Tryz.f66, regOps, Option.bind_some, Option.getD_some, Nat.beq, cond_true, cond_false]
  refine wp_region_steps (fun done a w => ∃ t5 t6 t7 t8 t9 t10 t11 t12 t13 t14 t15 t16, a = stp1A b PB P2 t5 t6 t7 t8 t9 t10 t11 t12 t13 t14 t15 t16 s1 s2 s17 s18 s19 s20 ∧ stp1F wr b len PB P2 n cap base ad ms t5 t6 t7 t8 t9 t10 t11 t12 t13 t14 t15 t16 done w) (by kernel_rfl) (by kernel_rfl) ?_ ⟨?_, ?_, ?_, ?_, ?_, ?_, ?_, ?_, ?_, ?_, ?_, ?_, ?_, trivial⟩ ?_
  · exact ⟨s5, s6, s7, s8, s9, s10, s11, s12, s13, s14, s15, s16, rfl, ⟨Mv.of_gr HTP.down (Gr.refl _).drew, HRW.down.drew⟩, fun q => absurd q (by decide), fun q => absurd q (by decide), fun q => absurd q (by decide), fun q => absurd q (by decide), fun q => absurd q (by decide), fun q => absurd q (by decide), fun q => absurd q (by decide), fun q => absurd q (by decide), fun q => absurd q (by decide), fun q => absurd q (by decide), fun q => absurd q (by decide), fun q => absurd q (by decide), fun q => absurd q (by decide)⟩
  · rintro done a w hsz hnot hdep ⟨t5, t6, t7, t8, t9, t10, t11, t12, t13, t14, t15, t16, rfl, gw, f0, f1, f2, f3, f4, f5, f6, f7, f8, f9, f10, f11, f12⟩ K hK
    have hn : ¬ done.getD 0 false = true := by rw [getD_both hnot]; decide
    have c0 : w.cell? ⟨PB, 0, none⟩ = some (.slice ad n cap) := gw.2.cell 0 (by simp)
    have ch := has_of_cell c0
    have HK := PLift.up hK
    clear hK 
    simp only [stp1A]
    go_simp
    have gg : Gr w w := Gr.refl _
    refine HK.down _ _ ⟨_, _, _, _, _, _, _, _, _, _, _, _, rfl, gw, fun _ => rfl, kp f1, kp f2, kp f3, kp f4, kp f5, kp f6, fun q => (let h := f7 (done_old q (by decide)); ⟨getD_set_true h.1, h.2⟩), fun q => (let h := f8 (done_old q (by decide)); ⟨getD_set_true h.1, h.2⟩), fun q => (let h := f9 (done_old q (by decide)); ⟨getD_set_true h.1, h.2⟩), fun q => (let ⟨B, e, h1, h2⟩ := f10 (done_old q (by decide)); ⟨B, e, h1, fun q2 => h2 (by rw [getD_set_ne false (by decide)] at q2; exact q2)⟩), fun q => (let ⟨h1, h2, v, er, B, e1, e2, h3, h4⟩ := f11 (done_old q (by decide)); ⟨getD_set_true h1, getD_set_true h2, v, er, B, e1, e2, h3, h4⟩), fun q => (let h := f12 (done_old q (by decide)); ⟨getD_set_true h.1, h.2⟩)⟩
  · rintro done a w hsz hnot hdep ⟨t5, t6, t7, t8, t9, t10, t11, t12, t13, t14, t15, t16, rfl, gw, f0, f1, f2, f3, f4, f5, f6, f7, f8, f9, f10, f11, f12⟩ K hK
    have hn : ¬ done.getD 1 false = true := by rw [getD_both hnot]; decide
    have HK := PLift.up hK
    clear hK 
    simp only [stp1A]
    go_simp
    have gg : Gr w w := Gr.refl _
    refine HK.down _ _ ⟨_, _, _, _, _, _, _, _, _, _, _, _, rfl, gw, kp f0, fun _ => rfl, kp f2, kp f3, kp f4, kp f5, kp f6, fun q => (let h := f7 (done_old q (by decide)); ⟨getD_set_true h.1, h.2⟩), fun q => (let h := f8 (done_old q (by decide)); ⟨getD_set_true h.1, h.2⟩), fun q => (let h := f9 (done_old q (by decide)); ⟨getD_set_true h.1, h.2⟩), fun q => (let ⟨B, e, h1, h2⟩ := f10 (done_old q (by decide)); ⟨B, e, h1, fun q2 => h2 (by rw [getD_set_ne false (by decide)] at q2; exact q2)⟩), fun q => (let ⟨h1, h2, v, er, B, e1, e2, h3, h4⟩ := f11 (done_old q (by decide)); ⟨getD_set_true h1, getD_set_true h2, v, er, B, e1, e2, h3, h4⟩), fun q => (let h := f12 (done_old q (by decide)); ⟨getD_set_true h.1, h.2⟩)⟩
  · rintro done a w hsz hnot hdep ⟨t5, t6, t7, t8, t9, t10, t11, t12, t13, t14, t15, t16, rfl, gw, f0, f1, f2, f3, f4, f5, f6, f7, f8, f9, f10, f11, f12⟩ K hK
    have hn : ¬ done.getD 2 false = true := by rw [getD_both hnot]; decide
    have c0 : w.cell? ⟨PB, 0, none⟩ = some (.slice ad n cap) := gw.2.cell 0 (by simp)
    have ch := has_of_cell c0
    have HK := PLift.up hK
    clear hK 
    simp only [stp1A]
    go_simp
    have gg : Gr w w := Gr.refl _
    refine HK.down _ _ ⟨_, _, _, _, _, _, _, _, _, _, _, _, rfl, gw, kp f0, kp f1, fun _ => rfl, kp f3, kp f4, kp f5, kp f6, fun q => (let h := f7 (done_old q (by decide)); ⟨getD_set_true h.1, h.2⟩), fun q => (let h := f8 (done_old q (by decide)); ⟨getD_set_true h.1, h.2⟩), fun q => (let h := f9 (done_old q (by decide)); ⟨getD_set_true h.1, h.2⟩), fun q => (let ⟨B, e, h1, h2⟩ := f10 (done_old q (by decide)); ⟨B, e, h1, fun q2 => h2 (by rw [getD_set_ne false (by decide)] at q2; exact q2)⟩), fun q => (let ⟨h1, h2, v, er, B, e1, e2, h3, h4⟩ := f11 (done_old q (by decide)); ⟨getD_set_true h1, getD_set_true h2, v, er, B, e1, e2, h3, h4⟩), fun q => (let h := f12 (done_old q (by decide)); ⟨getD_set_true h.1, h.2⟩)⟩
  · rintro done a w hsz hnot hdep ⟨t5, t6, t7, t8, t9, t10, t11, t12, t13, t14, t15, t16, rfl, gw, f0, f1, f2, f3, f4, f5, f6, f7, f8, f9, f10, f11, f12⟩ K hK
    have hn : ¬ done.getD 3 false = true := by rw [getD_both hnot]; decide
    have d1 := hdep 1 (by kernel_rfl)
    have d2 := hdep 2 (by kernel_rfl)
    obtain rfl := f1 d1
    obtain rfl := f2 d2
    have TP := PLift.up (gw.1.tp HTP.down)
    have GW := PLift.up gw
    have HK := PLift.up hK
    clear hK d1 d2
    simp only [stp1A]
    go_simp
    refine (gPath_any base ms ad n cap b len w TP.down (HTR.down.mv HNB.down.2.1 GW.down.1) HV.down.v ⟨HNB.down.2.1, by have := GW.down.1.size; have := HNB.down.2.2.2; omega⟩).mono ?_
    rintro e w2 ⟨s, _, rfl, hm⟩
    (try go_simp)
    refine HK.down _ _ ⟨_, _, _, _, _, _, _, _, _, _, _, _, rfl, ⟨GW.down.1.trans HBS.down hm, hm.row GW.down.2 HNB.down.1⟩, kp f0, kp f1, kp f2, ?_, kp f4, kp f5, fun q => (let ⟨v, er, e, hs⟩ := f6 (done_old q (by decide)); ⟨v, er, e, hs.mv HNB.down.2.1 hm⟩), fun q => (let h := f7 (done_old q (by decide)); ⟨getD_set_true h.1, h.2⟩), fun q => (let h := f8 (done_old q (by decide)); ⟨getD_set_true h.1, h.2⟩), fun q => (let h := f9 (done_old q (by decide)); ⟨getD_set_true h.1, h.2⟩), fun q => (let ⟨B, e, h1, h2⟩ := f10 (done_old q (by decide)); ⟨B, e, h1, fun q2 => hm.row (h2 (by rw [getD_set_ne false (by decide)] at q2; exact q2)) (by have := HNB.down.2.2.1; omega)⟩), fun q => (let ⟨h1, h2, v, er, B, e1, e2, h3, h4⟩ := f11 (done_old q (by decide)); ⟨getD_set_true h1, getD_set_true h2, v, er, B, e1, e2, h3, hm.row h4 (by have := HNB.down.2.2.1; omega)⟩), fun q => (let h := f12 (done_old q (by decide)); ⟨getD_set_true h.1, h.2⟩)⟩
    exact fun _ => ⟨s, rfl⟩
  · rintro done a w hsz hnot hdep ⟨t5, t6, t7, t8, t9, t10, t11, t12, t13, t14, t15, t16, rfl, gw, f0, f1, f2, f3, f4, f5, f6, f7, f8, f9, f10, f11, f12⟩ K hK
    have hn : ¬ done.getD 4 false = true := by rw [getD_both hnot]; decide
    have HK := PLift.up hK
    clear hK 
    simp only [stp1A]
    go_simp
    have gg : Gr w w := Gr.refl _
    refine HK.down _ _ ⟨_, _, _, _, _, _, _, _, _, _, _, _, rfl, gw, kp f0, kp f1, kp f2, kp f3, fun _ => rfl, kp f5, kp f6, fun q => (let h := f7 (done_old q (by decide)); ⟨getD_set_true h.1, h.2⟩), fun q => (let h := f8 (done_old q (by decide)); ⟨getD_set_true h.1, h.2⟩), fun q => (let h := f9 (done_old q (by decide)); ⟨getD_set_true h.1, h.2⟩), fun q => (let ⟨B, e, h1, h2⟩ := f10 (done_old q (by decide)); ⟨B, e, h1, fun q2 => h2 (by rw [getD_set_ne false (by decide)] at q2; exact q2)⟩), fun q => (let ⟨h1, h2, v, er, B, e1, e2, h3, h4⟩ := f11 (done_old q (by decide)); ⟨getD_set_true h1, getD_set_true h2, v, er, B, e1, e2, h3, h4⟩), fun q => (let h := f12 (done_old q (by decide)); ⟨getD_set_true h.1, h.2⟩)⟩
  · rintro done a w hsz hnot hdep ⟨t5, t6, t7, t8, t9, t10, t11, t12, t13, t14, t15, t16, rfl, gw, f0, f1, f2, f3, f4, f5, f6, f7, f8, f9, f10, f11, f12⟩ K hK
    have hn : ¬ done.getD 5 false = true := by rw [getD_both hnot]; decide
    have d4 := hdep 4 (by kernel_rfl)
    obtain rfl := f4 d4
    have TP := PLift.up (gw.1.tp HTP.down)
    have GW := PLift.up gw
    have HK := PLift.up hK
    clear hK d4
    simp only [stp1A]
    go_simp
    refine (tName_any w b len TP.down).mono ?_
    rintro e w2 ⟨x, hx, rfl, hm⟩
    (try go_simp)
    refine HK.down _ _ ⟨_, _, _, _, _, _, _, _, _, _, _, _, rfl, ⟨GW.down.1.trans HBS.down hm, hm.row GW.down.2 HNB.down.1⟩, kp f0, kp f1, kp f2, kp f3, kp f4, ?_, fun q => (let ⟨v, er, e, hs⟩ := f6 (done_old q (by decide)); ⟨v, er, e, hs.mv HNB.down.2.1 hm⟩), fun q => (let h := f7 (done_old q (by decide)); ⟨getD_set_true h.1, h.2⟩), fun q => (let h := f8 (done_old q (by decide)); ⟨getD_set_true h.1, h.2⟩), fun q => (let h := f9 (done_old q (by decide)); ⟨getD_set_true h.1, h.2⟩), fun q => (let ⟨B, e, h1, h2⟩ := f10 (done_old q (by decide)); ⟨B, e, h1, fun q2 => hm.row (h2 (by rw [getD_set_ne false (by decide)] at q2; exact q2)) (by have := HNB.down.2.2.1; omega)⟩), fun q => (let ⟨h1, h2, v, er, B, e1, e2, h3, h4⟩ := f11 (done_old q (by decide)); ⟨getD_set_true h1, getD_set_true h2, v, er, B, e1, e2, h3, hm.row h4 (by have := HNB.down.2.2.1; omega)⟩), fun q => (let h := f12 (done_old q (by decide)); ⟨getD_set_true h.1, h.2⟩)⟩
    exact fun _ => ⟨x, rfl, hx⟩
  · rintro done a w hsz hnot hdep ⟨t5, t6, t7, t8, t9, t10, t11, t12, t13, t14, t15, t16, rfl, gw, f0, f1, f2, f3, f4, f5, f6, f7, f8, f9, f10, f11, f12⟩ K hK
    have hn : ¬ done.getD 6 false = true := by rw [getD_both hnot]; decide
    have d0 := hdep 0 (by kernel_rfl)
    have d3 := hdep 3 (by kernel_rfl)
    have d5 := hdep 5 (by kernel_rfl)
    obtain rfl := f0 d0
    obtain ⟨s, rfl⟩ := f3 d3
    obtain ⟨x, rfl, hx⟩ := f5 d5
    have HX := PLift.up hx
    have GW := PLift.up gw
    have HK := PLift.up hK
    clear hK d0
    simp only [stp1A]
    go_simp
    have LK := rAdd_ok (ms.map NM.n) ad cap s x w ((HTR.down.mv HNB.down.2.1 GW.down.1).sl).2 HV.down.v HX.down
    have LK2 : Calls Tryz.prog 98 #[.agg #[.slice ad n cap], .string (bs s), .string (bs x)] w (GivesTE w (ms.map NM.n)) := by have q := LK; rw [HL.down] at q; exact q
    refine LK2.mono ?_
    rintro e w2 ⟨hg, hq⟩
    have ST : PLift (∃ (v : Value) (er : Nat), e = .returned (.tuple #[.agg #[v], .int .i64 (er : Int)]) ∧ StepV base n w2 v er) := PLift.up (by
      rcases hq with ⟨er, e1, e2, rfl⟩ | ⟨v, m2, rfl, h1, h2, h2x, h3⟩
      · exact ⟨_, er, rfl, .inl ⟨e1, e2, rfl⟩⟩
      · exact ⟨v, 0, rfl, .inr ⟨rfl, m2, h1.low (by have := GW.down.1.size; have := HNB.down.2.2.2; omega), ⟨h2, h2x HV.down.x⟩, by rw [h3, HL.down]⟩⟩)
    clear hq
    obtain ⟨v, er, rfl, hs⟩ := ST.down
    (try go_simp)
    refine HK.down _ _ ⟨_, _, _, _, _, _, _, _, _, _, _, _, rfl, ⟨GW.down.1.gr hg, GW.down.2.gr hg⟩, kp f0, kp f1, kp f2, fun _ => ⟨s, rfl⟩, kp f4, fun _ => ⟨x, rfl, HX.down⟩, ?_, fun q => absurd (f7 (done_old q (by decide))).1 hn, fun q => absurd (f8 (done_old q (by decide))).1 hn, fun q => absurd (f9 (done_old q (by decide))).1 hn, fun q => (let ⟨B, e, h1, h2⟩ := f10 (done_old q (by decide)); ⟨B, e, h1, fun q2 => (h2 (by rw [getD_set_ne false (by decide)] at q2; exact q2)).gr hg⟩), fun q => absurd (f11 (done_old q (by decide))).1 hn, fun q => absurd (f12 (done_old q (by decide))).1 hn⟩
    exact fun _ => ⟨v, er, rfl, hs⟩
  · rintro done a w hsz hnot hdep ⟨t5, t6, t7, t8, t9, t10, t11, t12, t13, t14, t15, t16, rfl, gw, f0, f1, f2, f3, f4, f5, f6, f7, f8, f9, f10, f11, f12⟩ K hK
    have hn : ¬ done.getD 7 false = true := by rw [getD_both hnot]; decide
    have d6 := hdep 6 (by kernel_rfl)
    have D6 := PLift.up d6
    obtain ⟨v, er, rfl, hs⟩ := f6 d6
    have HK := PLift.up hK
    clear hK 
    simp only [stp1A]
    go_simp
    have gg : Gr w w := Gr.refl _
    refine HK.down _ _ ⟨_, _, _, _, _, _, _, _, _, _, _, _, rfl, gw, kp f0, kp f1, kp f2, kp f3, kp f4, kp f5, fun _ => ⟨v, er, rfl, hs⟩, ?_, fun q => (let h := f8 (done_old q (by decide)); ⟨getD_set_true h.1, h.2⟩), fun q => (let h := f9 (done_old q (by decide)); ⟨getD_set_true h.1, h.2⟩), fun q => (let ⟨B, e, h1, h2⟩ := f10 (done_old q (by decide)); ⟨B, e, h1, fun q2 => h2 (by rw [getD_set_ne false (by decide)] at q2; exact q2)⟩), fun q => (let ⟨h1, h2, v, er, B, e1, e2, h3, h4⟩ := f11 (done_old q (by decide)); ⟨getD_set_true h1, getD_set_true h2, v, er, B, e1, e2, h3, h4⟩), fun q => (let h := f12 (done_old q (by decide)); ⟨getD_set_true h.1, h.2⟩)⟩
    exact fun _ => ⟨getD_set_true D6.down, rfl⟩
  · rintro done a w hsz hnot hdep ⟨t5, t6, t7, t8, t9, t10, t11, t12, t13, t14, t15, t16, rfl, gw, f0, f1, f2, f3, f4, f5, f6, f7, f8, f9, f10, f11, f12⟩ K hK
    have hn : ¬ done.getD 8 false = true := by rw [getD_both hnot]; decide
    have d7 := hdep 7 (by kernel_rfl)
    obtain ⟨D6, rfl⟩ := f7 d7
    have D6 := PLift.up D6
    obtain ⟨v, er, rfl, hs⟩ := f6 D6.down
    have HK := PLift.up hK
    clear hK 
    simp only [stp1A]
    go_simp
    have gg : Gr w w := Gr.refl _
    refine HK.down _ _ ⟨_, _, _, _, _, _, _, _, _, _, _, _, rfl, gw, kp f0, kp f1, kp f2, kp f3, kp f4, kp f5, fun _ => ⟨v, er, rfl, hs⟩, fun _ => ⟨getD_set_true D6.down, rfl⟩, ?_, fun q => (let h := f9 (done_old q (by decide)); ⟨getD_set_true h.1, h.2⟩), fun q => (let ⟨B, e, h1, h2⟩ := f10 (done_old q (by decide)); ⟨B, e, h1, fun q2 => h2 (by rw [getD_set_ne false (by decide)] at q2; exact q2)⟩), fun q => (let ⟨h1, h2, v, er, B, e1, e2, h3, h4⟩ := f11 (done_old q (by decide)); ⟨getD_set_true h1, getD_set_true h2, v, er, B, e1, e2, h3, h4⟩), fun q => (let h := f12 (done_old q (by decide)); ⟨getD_set_true h.1, h.2⟩)⟩
    exact fun _ => ⟨getD_set_true D6.down, v, er, rfl, rfl⟩
  · rintro done a w hsz hnot hdep ⟨t5, t6, t7, t8, t9, t10, t11, t12, t13, t14, t15, t16, rfl, gw, f0, f1, f2, f3, f4, f5, f6, f7, f8, f9, f10, f11, f12⟩ K hK
    have hn : ¬ done.getD 9 false = true := by rw [getD_both hnot]; decide
    have d7 := hdep 7 (by kernel_rfl)
    obtain ⟨D6, rfl⟩ := f7 d7
    have D6 := PLift.up D6
    obtain ⟨v, er, rfl, hs⟩ := f6 D6.down
    have HK := PLift.up hK
    clear hK 
    simp only [stp1A]
    go_simp
    have gg : Gr w w := Gr.refl _
    refine HK.down _ _ ⟨_, _, _, _, _, _, _, _, _, _, _, _, rfl, gw, kp f0, kp f1, kp f2, kp f3, kp f4, kp f5, fun _ => ⟨v, er, rfl, hs⟩, fun _ => ⟨getD_set_true D6.down, rfl⟩, fun q => (let h := f8 (done_old q (by decide)); ⟨getD_set_true h.1, h.2⟩), ?_, fun q => (let ⟨B, e, h1, h2⟩ := f10 (done_old q (by decide)); ⟨B, e, h1, fun q2 => h2 (by rw [getD_set_ne false (by decide)] at q2; exact q2)⟩), fun q => (let ⟨h1, h2, v, er, B, e1, e2, h3, h4⟩ := f11 (done_old q (by decide)); ⟨getD_set_true h1, getD_set_true h2, v, er, B, e1, e2, h3, h4⟩), fun q => (let h := f12 (done_old q (by decide)); ⟨getD_set_true h.1, h.2⟩)⟩
    exact fun _ => ⟨getD_set_true D6.down, v, er, rfl, rfl⟩
  · rintro done a w hsz hnot hdep ⟨t5, t6, t7, t8, t9, t10, t11, t12, t13, t14, t15, t16, rfl, gw, f0, f1, f2, f3, f4, f5, f6, f7, f8, f9, f10, f11, f12⟩ K hK
    have hn : ¬ done.getD 10 false = true := by rw [getD_both hnot]; decide
    have GS := PLift.up gw.1.size
    have GW := PLift.up gw
    have HK := PLift.up hK
    clear hK 
    simp only [stp1A]
    go_simp
    have gg : Gr w (w.alloc (.cells #[.slice none 0 0] 29)) := (Gr.refl _).alloc _
    refine HK.down _ _ ⟨_, _, _, _, _, _, _, _, _, _, _, _, rfl, ⟨GW.down.1.gr gg, GW.down.2.gr gg⟩, kp f0, kp f1, kp f2, kp f3, kp f4, kp f5, fun q => (let ⟨v, er, e, hs⟩ := f6 (done_old q (by decide)); ⟨v, er, e, hs.gr gg⟩), fun q => (let h := f7 (done_old q (by decide)); ⟨getD_set_true h.1, h.2⟩), fun q => (let h := f8 (done_old q (by decide)); ⟨getD_set_true h.1, h.2⟩), fun q => (let h := f9 (done_old q (by decide)); ⟨getD_set_true h.1, h.2⟩), ?_, fun q => absurd (f11 (done_old q (by decide))).2.1 hn, fun q => (let h := f12 (done_old q (by decide)); ⟨getD_set_true h.1, h.2⟩)⟩
    exact fun _ => ⟨_, rfl, GS.down, fun _ => Row.new w _ _⟩
  · rintro done a w hsz hnot hdep ⟨t5, t6, t7, t8, t9, t10, t11, t12, t13, t14, t15, t16, rfl, gw, f0, f1, f2, f3, f4, f5, f6, f7, f8, f9, f10, f11, f12⟩ K hK
    have hn : ¬ done.getD 11 false = true := by rw [getD_both hnot]; decide
    have d10 := hdep 10 (by kernel_rfl)
    have d8 := hdep 8 (by kernel_rfl)
    obtain ⟨D6, v, er, e14, rfl⟩ := f8 d8
    have D6 := PLift.up D6
    have D10 := PLift.up d10
    subst e14
    obtain ⟨v2, er2, e2, hs⟩ := f6 D6.down
    injection e2 with e2
    obtain ⟨rfl, he⟩ : v = v2 ∧ (er : Int) = er2 := by simpa using e2
    obtain rfl : er = er2 := by omega
    obtain ⟨ya, ym, yc, rfl⟩ := hs.one
    obtain ⟨B, rfl, hB, hr⟩ := f10 d10
    have n11 := getD_both hnot
    have rb := hr n11
    have RB := PLift.up rb
    have z0 := rb.cell 0 (by simp)
    have zf := rb.free 0
    have zh := has_of_cell z0
    have HBB := PLift.up hB
    have GW := PLift.up gw
    have HK := PLift.up hK
    clear hK 
    simp only [stp1A]
    go_simp
    refine HK.down _ _ ⟨_, _, _, _, _, _, _, _, _, _, _, _, rfl, ⟨GW.down.1.setc HBB.down, GW.down.2.oth (by have := HNB.down.2.2.1; have := HNB.down.2.2.2; have := HBB.down; have := HNB.down.1; omega)⟩, kp f0, kp f1, kp f2, kp f3, kp f4, kp f5, fun _ => ⟨_, er, rfl, hs.box RB.down⟩, fun q => (let h := f7 (done_old q (by decide)); ⟨getD_set_true h.1, h.2⟩), fun _ => ⟨getD_set_true D6.down, _, er, rfl, rfl⟩, fun q => (let h := f9 (done_old q (by decide)); ⟨getD_set_true h.1, h.2⟩), fun _ => ⟨B, rfl, HBB.down, fun q2 => absurd q2 (by rw [getD_set_same (by rw [hsz]; decide)]; decide)⟩, ?_, fun q => (let h := f12 (done_old q (by decide)); ⟨getD_set_true h.1, h.2⟩)⟩
    exact fun _ => ⟨getD_set_true D6.down, getD_set_true D10.down, _, er, B, rfl, rfl, HBB.down, RB.down.set 0 _⟩
  · rintro done a w hsz hnot hdep ⟨t5, t6, t7, t8, t9, t10, t11, t12, t13, t14, t15, t16, rfl, gw, f0, f1, f2, f3, f4, f5, f6, f7, f8, f9, f10, f11, f12⟩ K hK
    have hn : ¬ done.getD 12 false = true := by rw [getD_both hnot]; decide
    have d9 := hdep 9 (by kernel_rfl)
    obtain ⟨D6, v, er, rfl, rfl⟩ := f9 d9
    have D6 := PLift.up D6
    have HK := PLift.up hK
    clear hK 
    simp only [stp1A]
    go_simp
    have gg : Gr w w := Gr.refl _
    refine HK.down _ _ ⟨_, _, _, _, _, _, _, _, _, _, _, _, rfl, gw, kp f0, kp f1, kp f2, kp f3, kp f4, kp f5, kp f6, fun q => (let h := f7 (done_old q (by decide)); ⟨getD_set_true h.1, h.2⟩), fun q => (let h := f8 (done_old q (by decide)); ⟨getD_set_true h.1, h.2⟩), fun _ => ⟨getD_set_true D6.down, v, er, rfl, rfl⟩, fun q => (let ⟨B, e, h1, h2⟩ := f10 (done_old q (by decide)); ⟨B, e, h1, fun q2 => h2 (by rw [getD_set_ne false (by decide)] at q2; exact q2)⟩), fun q => (let ⟨h1, h2, v, er, B, e1, e2, h3, h4⟩ := f11 (done_old q (by decide)); ⟨getD_set_true h1, getD_set_true h2, v, er, B, e1, e2, h3, h4⟩), ?_⟩
    exact fun _ => ⟨getD_set_true D6.down, v, er, rfl, rfl⟩
  · rintro done a w hall ⟨t5, t6, t7, t8, t9, t10, t11, t12, t13, t14, t15, t16, rfl, gw, f0, f1, f2, f3, f4, f5, f6, f7, f8, f9, f10, f11, f12⟩
    refine h' _ _ _ _ _ _ _ _ _ _ _ _ w ?_ gw.1 gw.2
    obtain ⟨v, er, e1, hs⟩ := f6 (hall 6 (by decide))
    obtain ⟨_, _, v2, er2, B, e2, e3, h3, h4⟩ := f11 (hall 11 (by decide))
    obtain ⟨_, v3, er3, e4, e5⟩ := f12 (hall 12 (by decide))
    subst e1
    obtain ⟨rfl, he⟩ : v = v2 ∧ (er : Int) = er2 := by simpa using e2
    obtain rfl : er = er2 := by omega
    obtain ⟨_, he⟩ : v = v3 ∧ (er : Int) = er3 := by simpa using e4
    obtain rfl : er = er3 := by omega
    exact ⟨v, er, B, e5, e3, h3, h4, hs⟩
def GivesSt (base n b len : Nat) (w : World) (e : Ending) (w' : World) : Prop := ∃ (v : Value) (ms : List NM), e = .returned (.agg #[v]) ∧ TrAt base w' v ms ∧ VB (ms.map NM.n) ∧ (ms.length = n ∨ ms.length = n + 1) ∧ Mv b len w w'
theorem step_any (base : Nat) (ms : List NM) (a : Option Addr) (n cap b len : Nat) (w : World) (ht : Tp w b len) (h : TrAt base w (.slice a n cap) ms) (hv : VB (ms.map NM.n)) (hbs : b < base ∧ base ≤ w.heap.size) :
    Calls Tryz.prog 66 #[.pointer (some ⟨b, 0, none⟩), .agg #[.slice a n cap]] w (GivesSt base n b len w) := by
  have nl := h.sl.1
  have H := Lib.hid ht
  have HT := Lib.hid h
  have HV := Lib.hid hv
  have HBS := Lib.hid hbs
  have NL := Lib.hid nl
  have LL : Hid ((ms.map NM.n).length = n) := Lib.hid (by rw [List.length_map]; exact nl.symm)
  have hb := ht.has
  clear h hv ht nl hbs
  obtain ⟨P0, hP0⟩ : ∃ P : Ending → World → Prop, P = GivesSt base n b len w := ⟨_, rfl⟩
  rw [← hP0]
  have HP0 := Lib.hid hP0
  clear hP0
  go_enter Tryz.func66, Tryz.ntmps66
  go_upto_region 1 with (fail)
  have R1 := Lib.hid ((Row.new w #[.slice a n cap] 29).alloc (.cells #[.slice none 0 0] 29))
  have R2 : Hid (Row ((w.alloc (.cells #[.slice a n cap] 29)).alloc (.cells #[.slice none 0 0] 29)) (w.heap.size + 1) 29 [.slice none 0 0]) := Lib.hid (by
    have q := Row.new (w.alloc (.cells #[.slice a n cap] 29)) #[.slice none 0 0] 29
    have e : (w.alloc (.cells #[.slice a n cap] 29)).heap.size = w.heap.size + 1 := by simp
    rw [e] at q; exact q)
  obtain ⟨W, hW⟩ : ∃ W : World, Hid (W = (w.alloc (.cells #[.slice a n cap] 29)).alloc (.cells #[.slice none 0 0] 29)) := ⟨_, Lib.hid rfl⟩
  have GW : Hid (Gr w W) := Lib.hid (by rw [hW.out]; exact ((Gr.refl _).alloc _).alloc _)
  rw [← hW.out] at R1 R2 ⊢
  obtain ⟨PB, hPB⟩ : ∃ N : Nat, Hid (w.heap.size = N) := ⟨_, Lib.hid rfl⟩
  have HPB := Lib.hid hPB.out
  rw [hPB.out] at R1 R2 ⊢
  clear hW hPB
  obtain ⟨P2, hP2⟩ : ∃ N : Nat, Hid (PB + 1 = N) := ⟨_, Lib.hid rfl⟩
  have HP2 := Lib.hid hP2.out
  rw [hP2.out] at R2 ⊢
  clear hP2
  have T0 := Lib.hid (H.out.gr GW.out)
  have M0 := Lib.hid (Mv.of_gr H.out GW.out)
  have PBb : PB ≠ b := by have := HPB.out; omega
  have P2b : P2 ≠ b := by have := HPB.out; have := HP2.out; omega
  refine wp_code_eq (c := Code.region 1 (regIn 1 Tryz.f66) true) (by kernel_rfl) (stp1 (wr := W) (b := b) (len := len) (PB := PB) (P2 := P2) (n := n) (cap := cap) (base := base) (ad := a) (ms := ms) T0.out R1.out ⟨PBb, HBS.out.1, T0.out.has, Nat.le_trans HBS.out.2 GW.out.size, R1.out.has⟩ LL.out HV.out (HT.out.gr GW.out) ?_)
  intro t5 t6 t7 t8 t9 t10 t11 t12 t13 t14 t15 t16 wx ⟨v, er, B, e6, e5, hB, hr, hs⟩ hm hpb
  subst e6
  subst e5
  have MV := Lib.hid (M0.out.trans H.out.has hm)
  have S1 := Lib.hid hpb
  have S2 := Lib.hid (hm.row R2.out P2b)
  have TX := Lib.hid (HT.out.mv HBS.out.1 MV.out)
  have BR := Lib.hid hr
  clear hm hpb hr R1 R2
  unfold stp1A
  rcases hs with ⟨h1, h2, rfl⟩ | ⟨h1, m2, h2, h3, h4⟩
  · have eb : ((er : Int) == 0) = false := by rw [beq_eq_false_iff_ne]; omega
    have eb2 : ((er : Int) != 0) = true := by rw [bne_iff_ne]; omega
    have x0 := S1.out.cell 0 (by simp)
    have hx := has_of_cell x0
    have z0 := S2.out.cell 0 (by simp)
    have zf := S2.out.free 0
    have hz := has_of_cell z0
    clear h1 h2
    go_wp2_with fail
    have RF := Lib.hid (S2.out.set 0 (.slice a n cap))
    have TF := Lib.hid (TX.out.box (o := 0) (u := .slice a n cap) S2.out.ty (by decide) (TX.out.ne_ty S2.out.ty (by decide)))
    have GF : Hid (Mv b len w (wx.setCell ⟨P2, 0, none⟩ (.slice a n cap))) := Lib.hid (MV.out.setc (by have := HPB.out; have := HP2.out; omega))
    obtain ⟨W3, hW3⟩ : ∃ W : World, Hid (W = wx.setCell ⟨P2, 0, none⟩ (.slice a n cap)) := ⟨_, Lib.hid rfl⟩
    rw [← hW3.out] at RF TF GF ⊢
    have e0 : W3.cell? ⟨P2, 0, none⟩ = some (.slice a n cap) := RF.out.cell 0 (by simp)
    clear hW3
    refine bodyPost_ret (v := .agg #[.slice a n cap]) (by simp [results, Tryz.results66, e0, go_sem]) rfl ?_
    rw [HP0.out]
    exact ⟨_, ms, rfl, TF.out, HV.out, .inl NL.out.symm, GF.out⟩
  · obtain ⟨ya, yc, hv⟩ := owns_slice h2.own
    subst hv
    subst h1
    have T2 := Lib.hid h2
    have V2 := Lib.hid h3
    have x0 := BR.out.cell 0 (by simp)
    have hx := has_of_cell x0
    have z0 := S2.out.cell 0 (by simp)
    have zf := S2.out.free 0
    have hz := has_of_cell z0
    have L2 := Lib.hid h4
    clear h2 h3 h4
    go_wp2_with fail
    have RF := Lib.hid (S2.out.set 0 (.slice ya m2.length yc))
    have TF := Lib.hid (T2.out.box (o := 0) (u := .slice ya m2.length yc) S2.out.ty (by decide) (T2.out.ne_ty S2.out.ty (by decide)))
    have GF : Hid (Mv b len w (wx.setCell ⟨P2, 0, none⟩ (.slice ya m2.length yc))) := Lib.hid (MV.out.setc (by have := HPB.out; have := HP2.out; omega))
    obtain ⟨W3, hW3⟩ : ∃ W : World, Hid (W = wx.setCell ⟨P2, 0, none⟩ (.slice ya m2.length yc)) := ⟨_, Lib.hid rfl⟩
    rw [← hW3.out] at RF TF GF ⊢
    have e0 : W3.cell? ⟨P2, 0, none⟩ = some (.slice ya m2.length yc) := RF.out.cell 0 (by simp)
    clear hW3
    refine bodyPost_ret (v := .agg #[.slice ya m2.length yc]) (by simp [results, Tryz.results66, e0, go_sem]) rfl ?_
    rw [HP0.out]
    exact ⟨_, m2, rfl, TF.out, V2.out, .inr L2.out, GF.out⟩
theorem props_names {s : St} (h : s ∈ propsL) : s ∈ namesV := by
  have q : propsL.all (fun s => namesV.contains s) = true := by kernel_rfl
  have := List.all_eq_true.1 q s h
  simpa using this
theorem props_ex {s v : St} (h : s ∈ propsL) : OkX ⟨s, v⟩ := by
  constructor
  · have q : propsL.contains exS = false := by kernel_rfl
    rintro rfl
    rw [List.contains_iff_mem.2 h] at q
    cases q
  · have q : propsL.contains phS = false := by kernel_rfl
    intro e
    have e : s = phS := e
    rw [e] at h
    rw [List.contains_iff_mem.2 h] at q
    cases q
def til9F (wr : World) (b len PB P4 n cap base m : Nat) (ad : Option Addr) (ms : List NM) (t8 t9 t33 t34 t35 t36 t37 t38 t39 t40 t41 t42 t43 t44 : Value) (d : Array Bool) (w : World) : Prop :=
  (Mv b len wr w ∧ Row w PB 29 [.slice ad n cap]) ∧ (d.getD 0 false = true → t34 = .agg #[.slice ad n cap]) ∧
  (d.getD 1 false = true → t35 = .pointer (some ⟨b, 0, none⟩)) ∧
  (d.getD 2 false = true → t36 = .agg #[.slice ad n cap]) ∧
  (d.getD 3 false = true → ∃ s : St, t37 = .string (bs s)) ∧
  (d.getD 4 false = true → t38 = .pointer (some ⟨b, 0, none⟩)) ∧
  (d.getD 5 false = true → ∃ x : St, t39 = .string (bs x) ∧ x ∈ propsL) ∧
  (d.getD 6 false = true → t40 = .pointer (some ⟨b, 0, none⟩)) ∧
  (d.getD 7 false = true → ∃ z : St, t41 = .string (bs z) ∧ z.length ≤ 100) ∧
  (d.getD 8 false = true → ∃ (v : Value) (er : Nat), t42 = .tuple #[.agg #[v], .int .i64 (er : Int)] ∧ StepV base m w v er) ∧
  (d.getD 9 false = true → (d.getD 8 false = true ∧ t33 = t42)) ∧
  (d.getD 10 false = true → (d.getD 8 false = true ∧ ∃ (v : Value) (er : Nat), t42 = .tuple #[.agg #[v], .int .i64 (er : Int)] ∧ t43 = .agg #[v])) ∧
  (d.getD 11 false = true → (d.getD 8 false = true ∧ ∃ (v : Value) (er : Nat), t42 = .tuple #[.agg #[v], .int .i64 (er : Int)] ∧ t44 = .int .i64 (er : Int))) ∧
  (d.getD 12 false = true → ∃ B, t8 = .pointer (some ⟨B, 0, none⟩) ∧ wr.heap.size ≤ B ∧ (d.getD 13 false = false → Row w B 29 [.slice none 0 0])) ∧
  (d.getD 13 false = true → (d.getD 8 false = true ∧ d.getD 12 false = true ∧ ∃ (v : Value) (er B : Nat), t42 = .tuple #[.agg #[v], .int .i64 (er : Int)] ∧ t8 = .pointer (some ⟨B, 0, none⟩) ∧ wr.heap.size ≤ B ∧ Row w B 29 [v])) ∧
  (d.getD 14 false = true → (d.getD 8 false = true ∧ ∃ (v : Value) (er : Nat), t42 = .tuple #[.agg #[v], .int .i64 (er : Int)] ∧ t9 = .int .i64 (er : Int)))
def til9A (b P4 PB : Nat) (t8 t9 t33 t34 t35 t36 t37 t38 t39 t40 t41 t42 t43 t44 s1 s2 s3 s6 s7 s10 s11 s12 s13 s14 s15 s16 s17 s18 s19 s20 s21 s22 s23 s24 s25 s26 s27 s28 s29 s30 s31 s32 s45 s46 s47 s48 : Value) : Act := { tmps := #[.pointer (some ⟨b, 0, none⟩), s1, s2, s3, .pointer (some ⟨P4, 0, none⟩), .pointer (some ⟨PB, 0, none⟩), s6, s7, t8, t9, s10, s11, s12, s13, s14, s15, s16, s17, s18, s19, s20, s21, s22, s23, s24, s25, s26, s27, s28, s29, s30, s31, s32, t33, t34, t35, t36, t37, t38, t39, t40, t41, t42, t43, t44, s45, s46, s47, s48], defers := [] }
theorem til9 {Q : Exit → Act → World → Prop} {wr : World} {b len PB P4 n cap base m : Nat} {ad : Option Addr} {ms : List NM}  {s1 s2 s3 s6 s7 s8 s9 s10 s11 s12 s13 s14 s15 s16 s17 s18 s19 s20 s21 s22 s23 s24 s25 s26 s27 s28 s29 s30 s31 s32 s33 s34 s35 s36 s37 s38 s39 s40 s41 s42 s43 s44 s45 s46 s47 s48 : Value} (htp : Tp wr b len) (hrow : Row wr PB 29 [.slice ad n cap]) (hnb : PB ≠ b ∧ b < base ∧ b < wr.heap.size ∧ base ≤ wr.heap.size ∧ PB < wr.heap.size) (hl : (ms.map NM.n).length = n) (hm1 : n = m + 1) (hv : VB (ms.map NM.n)) (htr : TrAt base wr (.slice ad n cap) ms)
    (h' : ∀ t8 t9 t33 t34 t35 t36 t37 t38 t39 t40 t41 t42 t43 t44 wx, (∃ (v : Value) (er B : Nat), t9 = .int .i64 (er : Int) ∧ t8 = .pointer (some ⟨B, 0, none⟩) ∧ wr.heap.size ≤ B ∧ Row wx B 29 [v] ∧ StepV base m wx v er) → Mv b len wr wx → Row wx PB 29 [.slice ad n cap] → Q .normal (til9A b P4 PB t8 t9 t33 t34 t35 t36 t37 t38 t39 t40 t41 t42 t43 t44 s1 s2 s3 s6 s7 s10 s11 s12 s13 s14 s15 s16 s17 s18 s19 s20 s21 s22 s23 s24 s25 s26 s27 s28 s29 s30 s31 s32 s45 s46 s47 s48) wx) :
    (Code.region 9 (regIn 9 Tryz.f35) true).wp Tryz.prog Q { tmps := #[.pointer (some ⟨b, 0, none⟩), s1, s2, s3, .pointer (some ⟨P4, 0, none⟩), .pointer (some ⟨PB, 0, none⟩), s6, s7, s8, s9, s10, s11, s12, s13, s14, s15, s16, s17, s18, s19, s20, s21, s22, s23, s24, s25, s26, s27, s28, s29, s30, s31, s32, s33, s34, s35, s36, s37, s38, s39, s40, s41, s42, s43, s44, s45, s46, s47, s48], defers := [] } wr := by
  have HTP := PLift.up htp
  have HRW := PLift.up hrow
  have HNB := PLift.up (show PB ≠ b ∧ b < base ∧ (b < wr.heap.size ∧ PB < wr.heap.size) ∧ base ≤ wr.heap.size from ⟨hnb.1, hnb.2.1, ⟨hnb.2.2.1, hnb.2.2.2.2⟩, hnb.2.2.2.1⟩)
  have HL := PLift.up hl
  have HM1 := PLift.up hm1
  have HV := PLift.up hv
  have HTR := PLift.up htr
  have HBS := PLift.up htp.has
  clear htp hrow hnb hl hm1 hv htr
  simp only [regIn, Tryz.f35, regOps, Option.bind_some, Option.getD_some, Nat.beq, cond_true, cond_false]
  refine wp_region_steps (fun done a w => ∃ t8 t9 t33 t34 t35 t36 t37 t38 t39 t40 t41 t42 t43 t44, a = til9A b P4 PB t8 t9 t33 t34 t35 t36 t37 t38 t39 t40 t41 t42 t43 t44 s1 s2 s3 s6 s7 s10 s11 s12 s13 s14 s15 s16 s17 s18 s19 s20 s21 s22 s23 s24 s25 s26 s27 s28 s29 s30 s31 s32 s45 s46 s47 s48 ∧ til9F wr b len PB P4 n cap base m ad ms t8 t9 t33 t34 t35 t36 t37 t38 t39 t40 t41 t42 t43 t44 done w) (by kernel_rfl) (by kernel_rfl) ?_ ⟨?_, ?_, ?_, ?_, ?_, ?_, ?_, ?_, ?_, ?_, ?_, ?_, ?_, ?_, ?_, trivial⟩ ?_
  · exact ⟨s8, s9, s33, s34, s35, s36, s37, s38, s39, s40, s41, s42, s43, s44, rfl, ⟨Mv.of_gr HTP.down (Gr.refl _).drew, HRW.down.drew⟩, fun q => absurd q (by decide), fun q => absurd q (by decide), fun q => absurd q (by decide), fun q => absurd q (by decide), fun q => absurd q (by decide), fun q => absurd q (by decide), fun q => absurd q (by decide), fun q => absurd q (by decide), fun q => absurd q (by decide), fun q => absurd q (by decide), fun q => absurd q (by decide), fun q => absurd q (by decide), fun q => absurd q (by decide), fun q => absurd q (by decide), fun q => absurd q (by decide)⟩
  · rintro done a w hsz hnot hdep ⟨t8, t9, t33, t34, t35, t36, t37, t38, t39, t40, t41, t42, t43, t44, rfl, gw, f0, f1, f2, f3, f4, f5, f6, f7, f8, f9, f10, f11, f12, f13, f14⟩ K hK
    have hn : ¬ done.getD 0 false = true := by rw [getD_both hnot]; decide
    have c0 : w.cell? ⟨PB, 0, none⟩ = some (.slice ad n cap) := gw.2.cell 0 (by simp)
    have ch := has_of_cell c0
    have HK := PLift.up hK
    clear hK 
    simp only [til9A]
    go_simp
    have gg : Gr w w := Gr.refl _
    refine HK.down _ _ ⟨_, _, _, _, _, _, _, _, _, _, _, _, _, _, rfl, gw, fun _ => rfl, kp f1, kp f2, kp f3, kp f4, kp f5, kp f6, kp f7, kp f8, fun q => (let h := f9 (done_old q (by decide)); ⟨getD_set_true h.1, h.2⟩), fun q => (let h := f10 (done_old q (by decide)); ⟨getD_set_true h.1, h.2⟩), fun q => (let h := f11 (done_old q (by decide)); ⟨getD_set_true h.1, h.2⟩), fun q => (let ⟨B, e, h1, h2⟩ := f12 (done_old q (by decide)); ⟨B, e, h1, fun q2 => h2 (by rw [getD_set_ne false (by decide)] at q2; exact q2)⟩), fun q => (let ⟨h1, h2, v, er, B, e1, e2, h3, h4⟩ := f13 (done_old q (by decide)); ⟨getD_set_true h1, getD_set_true h2, v, er, B, e1, e2, h3, h4⟩), fun q => (let h := f14 (done_old q (by decide)); ⟨getD_set_true h.1, h.2⟩)⟩
  · rintro done a w hsz hnot hdep ⟨t8, t9, t33, t34, t35, t36, t37, t38, t39, t40, t41, t42, t43, t44, rfl, gw, f0, f1, f2, f3, f4, f5, f6, f7, f8, f9, f10, f11, f12, f13, f14⟩ K hK
    have hn : ¬ done.getD 1 false = true := by rw [getD_both hnot]; decide
    have HK := PLift.up hK
    clear hK 
    simp only [til9A]
    go_simp
    have gg : Gr w w := Gr.refl _
    refine HK.down _ _ ⟨_, _, _, _, _, _, _, _, _, _, _, _, _, _, rfl, gw, kp f0, fun _ => rfl, kp f2, kp f3, kp f4, kp f5, kp f6, kp f7, kp f8, fun q => (let h := f9 (done_old q (by decide)); ⟨getD_set_true h.1, h.2⟩), fun q => (let h := f10 (done_old q (by decide)); ⟨getD_set_true h.1, h.2⟩), fun q => (let h := f11 (done_old q (by decide)); ⟨getD_set_true h.1, h.2⟩), fun q => (let ⟨B, e, h1, h2⟩ := f12 (done_old q (by decide)); ⟨B, e, h1, fun q2 => h2 (by rw [getD_set_ne false (by decide)] at q2; exact q2)⟩), fun q => (let ⟨h1, h2, v, er, B, e1, e2, h3, h4⟩ := f13 (done_old q (by decide)); ⟨getD_set_true h1, getD_set_true h2, v, er, B, e1, e2, h3, h4⟩), fun q => (let h := f14 (done_old q (by decide)); ⟨getD_set_true h.1, h.2⟩)⟩
  · rintro done a w hsz hnot hdep ⟨t8, t9, t33, t34, t35, t36, t37, t38, t39, t40, t41, t42, t43, t44, rfl, gw, f0, f1, f2, f3, f4, f5, f6, f7, f8, f9, f10, f11, f12, f13, f14⟩ K hK
    have hn : ¬ done.getD 2 false = true := by rw [getD_both hnot]; decide
    have c0 : w.cell? ⟨PB, 0, none⟩ = some (.slice ad n cap) := gw.2.cell 0 (by simp)
    have ch := has_of_cell c0
    have HK := PLift.up hK
    clear hK 
    simp only [til9A]
    go_simp
    have gg : Gr w w := Gr.refl _
    refine HK.down _ _ ⟨_, _, _, _, _, _, _, _, _, _, _, _, _, _, rfl, gw, kp f0, kp f1, fun _ => rfl, kp f3, kp f4, kp f5, kp f6, kp f7, kp f8, fun q => (let h := f9 (done_old q (by decide)); ⟨getD_set_true h.1, h.2⟩), fun q => (let h := f10 (done_old q (by decide)); ⟨getD_set_true h.1, h.2⟩), fun q => (let h := f11 (done_old q (by decide)); ⟨getD_set_true h.1, h.2⟩), fun q => (let ⟨B, e, h1, h2⟩ := f12 (done_old q (by decide)); ⟨B, e, h1, fun q2 => h2 (by rw [getD_set_ne false (by decide)] at q2; exact q2)⟩), fun q => (let ⟨h1, h2, v, er, B, e1, e2, h3, h4⟩ := f13 (done_old q (by decide)); ⟨getD_set_true h1, getD_set_true h2, v, er, B, e1, e2, h3, h4⟩), fun q => (let h := f14 (done_old q (by decide)); ⟨getD_set_true h.1, h.2⟩)⟩
  · rintro done a w hsz hnot hdep ⟨t8, t9, t33, t34, t35, t36, t37, t38, t39, t40, t41, t42, t43, t44, rfl, gw, f0, f1, f2, f3, f4, f5, f6, f7, f8, f9, f10, f11, f12, f13, f14⟩ K hK
    have hn : ¬ done.getD 3 false = true := by rw [getD_both hnot]; decide
    have d1 := hdep 1 (by kernel_rfl)
    have d2 := hdep 2 (by kernel_rfl)
    obtain rfl := f1 d1
    obtain rfl := f2 d2
    have TP := PLift.up (gw.1.tp HTP.down)
    have GW := PLift.up gw
    have HK := PLift.up hK
    clear hK d1 d2
    simp only [til9A]
    go_simp
    refine (gPath_any base ms ad n cap b len w TP.down (HTR.down.mv HNB.down.2.1 GW.down.1) HV.down.v ⟨HNB.down.2.1, by have := GW.down.1.size; have := HNB.down.2.2.2; omega⟩).mono ?_
    rintro e w2 ⟨s, _, rfl, hm⟩
    (try go_simp)
    refine HK.down _ _ ⟨_, _, _, _, _, _, _, _, _, _, _, _, _, _, rfl, ⟨GW.down.1.trans HBS.down hm, hm.row GW.down.2 HNB.down.1⟩, kp f0, kp f1, kp f2, ?_, kp f4, kp f5, kp f6, kp f7, fun q => (let ⟨v, er, e, hs⟩ := f8 (done_old q (by decide)); ⟨v, er, e, hs.mv HNB.down.2.1 hm⟩), fun q => (let h := f9 (done_old q (by decide)); ⟨getD_set_true h.1, h.2⟩), fun q => (let h := f10 (done_old q (by decide)); ⟨getD_set_true h.1, h.2⟩), fun q => (let h := f11 (done_old q (by decide)); ⟨getD_set_true h.1, h.2⟩), fun q => (let ⟨B, e, h1, h2⟩ := f12 (done_old q (by decide)); ⟨B, e, h1, fun q2 => hm.row (h2 (by rw [getD_set_ne false (by decide)] at q2; exact q2)) (by have := HNB.down.2.2.1; omega)⟩), fun q => (let ⟨h1, h2, v, er, B, e1, e2, h3, h4⟩ := f13 (done_old q (by decide)); ⟨getD_set_true h1, getD_set_true h2, v, er, B, e1, e2, h3, hm.row h4 (by have := HNB.down.2.2.1; omega)⟩), fun q => (let h := f14 (done_old q (by decide)); ⟨getD_set_true h.1, h.2⟩)⟩
    exact fun _ => ⟨s, rfl⟩
  · rintro done a w hsz hnot hdep ⟨t8, t9, t33, t34, t35, t36, t37, t38, t39, t40, t41, t42, t43, t44, rfl, gw, f0, f1, f2, f3, f4, f5, f6, f7, f8, f9, f10, f11, f12, f13, f14⟩ K hK
    have hn : ¬ done.getD 4 false = true := by rw [getD_both hnot]; decide
    have HK := PLift.up hK
    clear hK 
    simp only [til9A]
    go_simp
    have gg : Gr w w := Gr.refl _
    refine HK.down _ _ ⟨_, _, _, _, _, _, _, _, _, _, _, _, _, _, rfl, gw, kp f0, kp f1, kp f2, kp f3, fun _ => rfl, kp f5, kp f6, kp f7, kp f8, fun q => (let h := f9 (done_old q (by decide)); ⟨getD_set_true h.1, h.2⟩), fun q => (let h := f10 (done_old q (by decide)); ⟨getD_set_true h.1, h.2⟩), fun q => (let h := f11 (done_old q (by decide)); ⟨getD_set_true h.1, h.2⟩), fun q => (let ⟨B, e, h1, h2⟩ := f12 (done_old q (by decide)); ⟨B, e, h1, fun q2 => h2 (by rw [getD_set_ne false (by decide)] at q2; exact q2)⟩), fun q => (let ⟨h1, h2, v, er, B, e1, e2, h3, h4⟩ := f13 (done_old q (by decide)); ⟨getD_set_true h1, getD_set_true h2, v, er, B, e1, e2, h3, h4⟩), fun q => (let h := f14 (done_old q (by decide)); ⟨getD_set_true h.1, h.2⟩)⟩
  · rintro done a w hsz hnot hdep ⟨t8, t9, t33, t34, t35, t36, t37, t38, t39, t40, t41, t42, t43, t44, rfl, gw, f0, f1, f2, f3, f4, f5, f6, f7, f8, f9, f10, f11, f12, f13, f14⟩ K hK
    have hn : ¬ done.getD 5 false = true := by rw [getD_both hnot]; decide
    have d4 := hdep 4 (by kernel_rfl)
    obtain rfl := f4 d4
    have TP := PLift.up (gw.1.tp HTP.down)
    have GW := PLift.up gw
    have HK := PLift.up hK
    clear hK d4
    simp only [til9A]
    go_simp
    refine (property_any w b len TP.down).mono ?_
    rintro e w2 ⟨x, hx, rfl, hm⟩
    (try go_simp)
    refine HK.down _ _ ⟨_, _, _, _, _, _, _, _, _, _, _, _, _, _, rfl, ⟨GW.down.1.trans HBS.down hm, hm.row GW.down.2 HNB.down.1⟩, kp f0, kp f1, kp f2, kp f3, kp f4, ?_, kp f6, kp f7, fun q => (let ⟨v, er, e, hs⟩ := f8 (done_old q (by decide)); ⟨v, er, e, hs.mv HNB.down.2.1 hm⟩), fun q => (let h := f9 (done_old q (by decide)); ⟨getD_set_true h.1, h.2⟩), fun q => (let h := f10 (done_old q (by decide)); ⟨getD_set_true h.1, h.2⟩), fun q => (let h := f11 (done_old q (by decide)); ⟨getD_set_true h.1, h.2⟩), fun q => (let ⟨B, e, h1, h2⟩ := f12 (done_old q (by decide)); ⟨B, e, h1, fun q2 => hm.row (h2 (by rw [getD_set_ne false (by decide)] at q2; exact q2)) (by have := HNB.down.2.2.1; omega)⟩), fun q => (let ⟨h1, h2, v, er, B, e1, e2, h3, h4⟩ := f13 (done_old q (by decide)); ⟨getD_set_true h1, getD_set_true h2, v, er, B, e1, e2, h3, hm.row h4 (by have := HNB.down.2.2.1; omega)⟩), fun q => (let h := f14 (done_old q (by decide)); ⟨getD_set_true h.1, h.2⟩)⟩
    exact fun _ => ⟨x, rfl, hx⟩
  · rintro done a w hsz hnot hdep ⟨t8, t9, t33, t34, t35, t36, t37, t38, t39, t40, t41, t42, t43, t44, rfl, gw, f0, f1, f2, f3, f4, f5, f6, f7, f8, f9, f10, f11, f12, f13, f14⟩ K hK
    have hn : ¬ done.getD 6 false = true := by rw [getD_both hnot]; decide
    have HK := PLift.up hK
    clear hK 
    simp only [til9A]
    go_simp
    have gg : Gr w w := Gr.refl _
    refine HK.down _ _ ⟨_, _, _, _, _, _, _, _, _, _, _, _, _, _, rfl, gw, kp f0, kp f1, kp f2, kp f3, kp f4, kp f5, fun _ => rfl, kp f7, kp f8, fun q => (let h := f9 (done_old q (by decide)); ⟨getD_set_true h.1, h.2⟩), fun q => (let h := f10 (done_old q (by decide)); ⟨getD_set_true h.1, h.2⟩), fun q => (let h := f11 (done_old q (by decide)); ⟨getD_set_true h.1, h.2⟩), fun q => (let ⟨B, e, h1, h2⟩ := f12 (done_old q (by decide)); ⟨B, e, h1, fun q2 => h2 (by rw [getD_set_ne false (by decide)] at q2; exact q2)⟩), fun q => (let ⟨h1, h2, v, er, B, e1, e2, h3, h4⟩ := f13 (done_old q (by decide)); ⟨getD_set_true h1, getD_set_true h2, v, er, B, e1, e2, h3, h4⟩), fun q => (let h := f14 (done_old q (by decide)); ⟨getD_set_true h.1, h.2⟩)⟩
  · rintro done a w hsz hnot hdep ⟨t8, t9, t33, t34, t35, t36, t37, t38, t39, t40, t41, t42, t43, t44, rfl, gw, f0, f1, f2, f3, f4, f5, f6, f7, f8, f9, f10, f11, f12, f13, f14⟩ K hK
    have hn : ¬ done.getD 7 false = true := by rw [getD_both hnot]; decide
    have d6 := hdep 6 (by kernel_rfl)
    obtain rfl := f6 d6
    have TP := PLift.up (gw.1.tp HTP.down)
    have GW := PLift.up gw
    have HK := PLift.up hK
    clear hK d6
    simp only [til9A]
    go_simp
    refine (value_any w b len TP.down).mono ?_
    rintro e w2 ⟨z, hz, rfl, hm⟩
    (try go_simp)
    refine HK.down _ _ ⟨_, _, _, _, _, _, _, _, _, _, _, _, _, _, rfl, ⟨GW.down.1.trans HBS.down hm, hm.row GW.down.2 HNB.down.1⟩, kp f0, kp f1, kp f2, kp f3, kp f4, kp f5, kp f6, ?_, fun q => (let ⟨v, er, e, hs⟩ := f8 (done_old q (by decide)); ⟨v, er, e, hs.mv HNB.down.2.1 hm⟩), fun q => (let h := f9 (done_old q (by decide)); ⟨getD_set_true h.1, h.2⟩), fun q => (let h := f10 (done_old q (by decide)); ⟨getD_set_true h.1, h.2⟩), fun q => (let h := f11 (done_old q (by decide)); ⟨getD_set_true h.1, h.2⟩), fun q => (let ⟨B, e, h1, h2⟩ := f12 (done_old q (by decide)); ⟨B, e, h1, fun q2 => hm.row (h2 (by rw [getD_set_ne false (by decide)] at q2; exact q2)) (by have := HNB.down.2.2.1; omega)⟩), fun q => (let ⟨h1, h2, v, er, B, e1, e2, h3, h4⟩ := f13 (done_old q (by decide)); ⟨getD_set_true h1, getD_set_true h2, v, er, B, e1, e2, h3, hm.row h4 (by have := HNB.down.2.2.1; omega)⟩), fun q => (let h := f14 (done_old q (by decide)); ⟨getD_set_true h.1, h.2⟩)⟩
    exact fun _ => ⟨z, rfl, hz⟩
  · rintro done a w hsz hnot hdep ⟨t8, t9, t33, t34, t35, t36, t37, t38, t39, t40, t41, t42, t43, t44, rfl, gw, f0, f1, f2, f3, f4, f5, f6, f7, f8, f9, f10, f11, f12, f13, f14⟩ K hK
    have hn : ¬ done.getD 8 false = true := by rw [getD_both hnot]; decide
    have d0 := hdep 0 (by kernel_rfl)
    have d3 := hdep 3 (by kernel_rfl)
    have d5 := hdep 5 (by kernel_rfl)
    have d7 := hdep 7 (by kernel_rfl)
    obtain rfl := f0 d0
    obtain ⟨s, rfl⟩ := f3 d3
    obtain ⟨x, rfl, hx⟩ := f5 d5
    obtain ⟨z, rfl, hz⟩ := f7 d7
    have HX := PLift.up hx
    have HZ := PLift.up hz
    have GW := PLift.up gw
    have HK := PLift.up hK
    clear hK d0
    simp only [til9A]
    go_simp
    have LK := rSet_ok (ms.map NM.n) ad cap s x z w ((HTR.down.mv HNB.down.2.1 GW.down.1).sl).2 HV.down.v (props_names HX.down) (by have := HZ.down; omega)
    rw [HL.down] at LK
    refine LK.mono ?_
    rintro e w2 ⟨hg, hq⟩
    have ST : PLift (∃ (v : Value) (er : Nat), e = .returned (.tuple #[.agg #[v], .int .i64 (er : Int)]) ∧ StepV base m w2 v er) := PLift.up (by
      rcases hq with ⟨rfl, _⟩ | ⟨k, v, m2, hk, _, rfl, h1, hmp⟩
      · exact ⟨_, 4, rfl, .inl ⟨by omega, by omega, rfl⟩⟩
      · refine ⟨v, 0, rfl, .inr ⟨rfl, m2, h1.low (by have := GW.down.1.size; have := HNB.down.2.2.2; omega), ?_, ?_⟩⟩
        · rw [hmp]; exact ⟨VT_set HV.down.v hk (PV_put (HV.down.v.prp k hk) (props_names HX.down) (by have := HZ.down; simp only; omega)), HV.down.x.set (noX_put (HV.down.x k) (props_ex HX.down))⟩
        · have h9 := congrArg List.length hmp
          unfold setN at h9
          rw [List.length_set, List.length_map, HL.down, HM1.down] at h9
          exact h9)
    clear hq
    obtain ⟨v, er, rfl, hs⟩ := ST.down
    (try go_simp)
    refine HK.down _ _ ⟨_, _, _, _, _, _, _, _, _, _, _, _, _, _, rfl, ⟨GW.down.1.gr hg, GW.down.2.gr hg⟩, kp f0, kp f1, kp f2, fun _ => ⟨s, rfl⟩, kp f4, fun _ => ⟨x, rfl, HX.down⟩, kp f6, fun _ => ⟨z, rfl, HZ.down⟩, ?_, fun q => absurd (f9 (done_old q (by decide))).1 hn, fun q => absurd (f10 (done_old q (by decide))).1 hn, fun q => absurd (f11 (done_old q (by decide))).1 hn, fun q => (let ⟨B, e, h1, h2⟩ := f12 (done_old q (by decide)); ⟨B, e, h1, fun q2 => (h2 (by rw [getD_set_ne false (by decide)] at q2; exact q2)).gr hg⟩), fun q => absurd (f13 (done_old q (by decide))).1 hn, fun q => absurd (f14 (done_old q (by decide))).1 hn⟩
    exact fun _ => ⟨v, er, rfl, hs⟩
  · rintro done a w hsz hnot hdep ⟨t8, t9, t33, t34, t35, t36, t37, t38, t39, t40, t41, t42, t43, t44, rfl, gw, f0, f1, f2, f3, f4, f5, f6, f7, f8, f9, f10, f11, f12, f13, f14⟩ K hK
    have hn : ¬ done.getD 9 false = true := by rw [getD_both hnot]; decide
    have d8 := hdep 8 (by kernel_rfl)
    have D6 := PLift.up d8
    obtain ⟨v, er, rfl, hs⟩ := f8 d8
    have HK := PLift.up hK
    clear hK 
    simp only [til9A]
    go_simp
    have gg : Gr w w := Gr.refl _
    refine HK.down _ _ ⟨_, _, _, _, _, _, _, _, _, _, _, _, _, _, rfl, gw, kp f0, kp f1, kp f2, kp f3, kp f4, kp f5, kp f6, kp f7, fun _ => ⟨v, er, rfl, hs⟩, ?_, fun q => (let h := f10 (done_old q (by decide)); ⟨getD_set_true h.1, h.2⟩), fun q => (let h := f11 (done_old q (by decide)); ⟨getD_set_true h.1, h.2⟩), fun q => (let ⟨B, e, h1, h2⟩ := f12 (done_old q (by decide)); ⟨B, e, h1, fun q2 => h2 (by rw [getD_set_ne false (by decide)] at q2; exact q2)⟩), fun q => (let ⟨h1, h2, v, er, B, e1, e2, h3, h4⟩ := f13 (done_old q (by decide)); ⟨getD_set_true h1, getD_set_true h2, v, er, B, e1, e2, h3, h4⟩), fun q => (let h := f14 (done_old q (by decide)); ⟨getD_set_true h.1, h.2⟩)⟩
    exact fun _ => ⟨getD_set_true D6.down, rfl⟩
  · rintro done a w hsz hnot hdep ⟨t8, t9, t33, t34, t35, t36, t37, t38, t39, t40, t41, t42, t43, t44, rfl, gw, f0, f1, f2, f3, f4, f5, f6, f7, f8, f9, f10, f11, f12, f13, f14⟩ K hK
    have hn : ¬ done.getD 10 false = true := by rw [getD_both hnot]; decide
    have d9 := hdep 9 (by kernel_rfl)
    obtain ⟨D6, rfl⟩ := f9 d9
    have D6 := PLift.up D6
    obtain ⟨v, er, rfl, hs⟩ := f8 D6.down
    have HK := PLift.up hK
    clear hK 
    simp only [til9A]
    go_simp
    have gg : Gr w w := Gr.refl _
    refine HK.down _ _ ⟨_, _, _, _, _, _, _, _, _, _, _, _, _, _, rfl, gw, kp f0, kp f1, kp f2, kp f3, kp f4, kp f5, kp f6, kp f7, fun _ => ⟨v, er, rfl, hs⟩, fun _ => ⟨getD_set_true D6.down, rfl⟩, ?_, fun q => (let h := f11 (done_old q (by decide)); ⟨getD_set_true h.1, h.2⟩), fun q => (let ⟨B, e, h1, h2⟩ := f12 (done_old q (by decide)); ⟨B, e, h1, fun q2 => h2 (by rw [getD_set_ne false (by decide)] at q2; exact q2)⟩), fun q => (let ⟨h1, h2, v, er, B, e1, e2, h3, h4⟩ := f13 (done_old q (by decide)); ⟨getD_set_true h1, getD_set_true h2, v, er, B, e1, e2, h3, h4⟩), fun q => (let h := f14 (done_old q (by decide)); ⟨getD_set_true h.1, h.2⟩)⟩
    exact fun _ => ⟨getD_set_true D6.down, v, er, rfl, rfl⟩
  · rintro done a w hsz hnot hdep ⟨t8, t9, t33, t34, t35, t36, t37, t38, t39, t40, t41, t42, t43, t44, rfl, gw, f0, f1, f2, f3, f4, f5, f6, f7, f8, f9, f10, f11, f12, f13, f14⟩ K hK
    have hn : ¬ done.getD 11 false = true := by rw [getD_both hnot]; decide
    have d9 := hdep 9 (by kernel_rfl)
    obtain ⟨D6, rfl⟩ := f9 d9
    have D6 := PLift.up D6
    obtain ⟨v, er, rfl, hs⟩ := f8 D6.down
    have HK := PLift.up hK
    clear hK 
    simp only [til9A]
    go_simp
    have gg : Gr w w := Gr.refl _
    refine HK.down _ _ ⟨_, _, _, _, _, _, _, _, _, _, _, _, _, _, rfl, gw, kp f0, kp f1, kp f2, kp f3, kp f4, kp f5, kp f6, kp f7, fun _ => ⟨v, er, rfl, hs⟩, fun _ => ⟨getD_set_true D6.down, rfl⟩, fun q => (let h := f10 (done_old q (by decide)); ⟨getD_set_true h.1, h.2⟩), ?_, fun q => (let ⟨B, e, h1, h2⟩ := f12 (done_old q (by decide)); ⟨B, e, h1, fun q2 => h2 (by rw [getD_set_ne false (by decide)] at q2; exact q2)⟩), fun q => (let ⟨h1, h2, v, er, B, e1, e2, h3, h4⟩ := f13 (done_old q (by decide)); ⟨getD_set_true h1, getD_set_true h2, v, er, B, e1, e2, h3, h4⟩), fun q => (let h := f14 (done_old q (by decide)); ⟨getD_set_true h.1, h.2⟩)⟩
    exact fun _ => ⟨getD_set_true D6.down, v, er, rfl, rfl⟩
  · rintro done a w hsz hnot hdep ⟨t8, t9, t33, t34, t35, t36, t37, t38, t39, t40, t41, t42, t43, t44, rfl, gw, f0, f1, f2, f3, f4, f5, f6, f7, f8, f9, f10, f11, f12, f13, f14⟩ K hK
    have hn : ¬ done.getD 12 false = true := by rw [getD_both hnot]; decide
    have GS := PLift.up gw.1.size
    have GW := PLift.up gw
    have HK := PLift.up hK
    clear hK 
    simp only [til9A]
    go_simp
    have gg : Gr w (w.alloc (.cells #[.slice none 0 0] 29)) := (Gr.refl _).alloc _
    refine HK.down _ _ ⟨_, _, _, _, _, _, _, _, _, _, _, _, _, _, rfl, ⟨GW.down.1.gr gg, GW.down.2.gr gg⟩, kp f0, kp f1, kp f2, kp f3, kp f4, kp f5, kp f6, kp f7, fun q => (let ⟨v, er, e, hs⟩ := f8 (done_old q (by decide)); ⟨v, er, e, hs.gr gg⟩), fun q => (let h := f9 (done_old q (by decide)); ⟨getD_set_true h.1, h.2⟩), fun q => (let h := f10 (done_old q (by decide)); ⟨getD_set_true h.1, h.2⟩), fun q => (let h := f11 (done_old q (by decide)); ⟨getD_set_true h.1, h.2⟩), ?_, fun q => absurd (f13 (done_old q (by decide))).2.1 hn, fun q => (let h := f14 (done_old q (by decide)); ⟨getD_set_true h.1, h.2⟩)⟩
    exact fun _ => ⟨_, rfl, GS.down, fun _ => Row.new w _ _⟩
  · rintro done a w hsz hnot hdep ⟨t8, t9, t33, t34, t35, t36, t37, t38, t39, t40, t41, t42, t43, t44, rfl, gw, f0, f1, f2, f3, f4, f5, f6, f7, f8, f9, f10, f11, f12, f13, f14⟩ K hK
    have hn : ¬ done.getD 13 false = true := by rw [getD_both hnot]; decide
    have d12 := hdep 12 (by kernel_rfl)
    have d10 := hdep 10 (by kernel_rfl)
    obtain ⟨D6, v, er, e14, rfl⟩ := f10 d10
    have D6 := PLift.up D6
    have D10 := PLift.up d12
    subst e14
    obtain ⟨v2, er2, e2, hs⟩ := f8 D6.down
    injection e2 with e2
    obtain ⟨rfl, he⟩ : v = v2 ∧ (er : Int) = er2 := by simpa using e2
    obtain rfl : er = er2 := by omega
    obtain ⟨ya, ym, yc, rfl⟩ := hs.one
    obtain ⟨B, rfl, hB, hr⟩ := f12 d12
    have n11 := getD_both hnot
    have rb := hr n11
    have RB := PLift.up rb
    have z0 := rb.cell 0 (by simp)
    have zf := rb.free 0
    have zh := has_of_cell z0
    have HBB := PLift.up hB
    have GW := PLift.up gw
    have HK := PLift.up hK
    clear hK 
    simp only [til9A]
    go_simp
    refine HK.down _ _ ⟨_, _, _, _, _, _, _, _, _, _, _, _, _, _, rfl, ⟨GW.down.1.setc HBB.down, GW.down.2.oth (by have := HNB.down.2.2.1; have := HNB.down.2.2.2; have := HBB.down; have := HNB.down.1; omega)⟩, kp f0, kp f1, kp f2, kp f3, kp f4, kp f5, kp f6, kp f7, fun _ => ⟨_, er, rfl, hs.box RB.down⟩, fun q => (let h := f9 (done_old q (by decide)); ⟨getD_set_true h.1, h.2⟩), fun _ => ⟨getD_set_true D6.down, _, er, rfl, rfl⟩, fun q => (let h := f11 (done_old q (by decide)); ⟨getD_set_true h.1, h.2⟩), fun _ => ⟨B, rfl, HBB.down, fun q2 => absurd q2 (by rw [getD_set_same (by rw [hsz]; decide)]; decide)⟩, ?_, fun q => (let h := f14 (done_old q (by decide)); ⟨getD_set_true h.1, h.2⟩)⟩
    exact fun _ => ⟨getD_set_true D6.down, getD_set_true D10.down, _, er, B, rfl, rfl, HBB.down, RB.down.set 0 _⟩
  · rintro done a w hsz hnot hdep ⟨t8, t9, t33, t34, t35, t36, t37, t38, t39, t40, t41, t42, t43, t44, rfl, gw, f0, f1, f2, f3, f4, f5, f6, f7, f8, f9, f10, f11, f12, f13, f14⟩ K hK
    have hn : ¬ done.getD 14 false = true := by rw [getD_both hnot]; decide
    have d11 := hdep 11 (by kernel_rfl)
    obtain ⟨D6, v, er, rfl, rfl⟩ := f11 d11
    have D6 := PLift.up D6
    have HK := PLift.up hK
    clear hK 
    simp only [til9A]
    go_simp
    have gg : Gr w w := Gr.refl _
    refine HK.down _ _ ⟨_, _, _, _, _, _, _, _, _, _, _, _, _, _, rfl, gw, kp f0, kp f1, kp f2, kp f3, kp f4, kp f5, kp f6, kp f7, kp f8, fun q => (let h := f9 (done_old q (by decide)); ⟨getD_set_true h.1, h.2⟩), fun q => (let h := f10 (done_old q (by decide)); ⟨getD_set_true h.1, h.2⟩), fun _ => ⟨getD_set_true D6.down, v, er, rfl, rfl⟩, fun q => (let ⟨B, e, h1, h2⟩ := f12 (done_old q (by decide)); ⟨B, e, h1, fun q2 => h2 (by rw [getD_set_ne false (by decide)] at q2; exact q2)⟩), fun q => (let ⟨h1, h2, v, er, B, e1, e2, h3, h4⟩ := f13 (done_old q (by decide)); ⟨getD_set_true h1, getD_set_true h2, v, er, B, e1, e2, h3, h4⟩), ?_⟩
    exact fun _ => ⟨getD_set_true D6.down, v, er, rfl, rfl⟩
  · rintro done a w hall ⟨t8, t9, t33, t34, t35, t36, t37, t38, t39, t40, t41, t42, t43, t44, rfl, gw, f0, f1, f2, f3, f4, f5, f6, f7, f8, f9, f10, f11, f12, f13, f14⟩
    refine h' _ _ _ _ _ _ _ _ _ _ _ _ _ _ w ?_ gw.1 gw.2
    obtain ⟨v, er, e1, hs⟩ := f8 (hall 8 (by decide))
    obtain ⟨_, _, v2, er2, B, e2, e3, h3, h4⟩ := f13 (hall 13 (by decide))
    obtain ⟨_, v3, er3, e4, e5⟩ := f14 (hall 14 (by decide))
    subst e1
    obtain ⟨rfl, he⟩ : v = v2 ∧ (er : Int) = er2 := by simpa using e2
    obtain rfl : er = er2 := by omega
    obtain ⟨_, he⟩ : v = v3 ∧ (er : Int) = er3 := by simpa using e4
    obtain rfl : er = er3 := by omega
    exact ⟨v, er, B, e5, e3, h3, h4, hs⟩
end Go.Proofs.YtbpkndiecomggaaGreatDoor
