/- Lemmas and contracts for the proof of ConformRepairs (several texts in one, printed by wip/tools/pack.py): VcM VcN VcO VcP. -/
import Derived.Test.YtbpkndiecomggaaGreatDoorCr1pn
set_option maxRecDepth 100000
set_option maxHeartbeats 16000000
set_option linter.unusedVariables false
set_option linter.unusedSimpArgs false
namespace Go.Proofs.YtbpkndiecomggaaGreatDoor
open Go.RowKit
open Classical
theorem compatible_in : ([99, 111, 109, 112, 97, 116, 105, 98, 108, 101] : St) ∈ namesV := by
  have q : namesV.contains ([99, 111, 109, 112, 97, 116, 105, 98, 108, 101] : St) = true := by kernel_rfl
  simpa using q
def comps4 (c : St) : List St := [c ++ [0], [110, 111, 110, 101, 0] ++ c ++ [0], [110, 111, 110, 101, 0], c]
def FinM (wr : World) (b len PT base n : Nat) (w : World) : Prop :=
  ∃ (w1 : World) (v : Value) (m2 : List NM), w = w1.setCell ⟨PT, 0, none⟩ v ∧ Mv b len wr w1 ∧ Row w PT 29 [v] ∧ TrAt base w v m2 ∧ VB (m2.map NM.n) ∧ m2.length = n
def brd8F (wr : World) (b len PT n cap base : Nat) (s c : St) (ad : Option Addr) (ms : List NM) (t32 t33 t34 t35 t36 t37 t38 t39 t40 t41 t42 t43 t44 t45 t46 : Value) (d : Array Bool) (w : World) : Prop :=
  (d.getD 15 false = false → Mv b len wr w ∧ Row w PT 29 [.slice ad n cap]) ∧ (d.getD 0 false = true → t32 = .agg #[.slice ad n cap]) ∧
  (d.getD 1 false = true → t33 = .string (bs s)) ∧
  (d.getD 2 false = true → t34 = .string (bs c)) ∧
  (d.getD 3 false = true → t35 = .string (bs (c ++ [0]))) ∧
  (d.getD 4 false = true → t36 = .string (bs c)) ∧
  (d.getD 5 false = true → t37 = .string (bs ([110, 111, 110, 101, 0] ++ c))) ∧
  (d.getD 6 false = true → t38 = .string (bs ([110, 111, 110, 101, 0] ++ c ++ [0]))) ∧
  (d.getD 7 false = true → t39 = .string (bs c)) ∧
  (d.getD 8 false = true → ∃ B, t40 = .slice (some ⟨B, 0, none⟩) 4 4 ∧ B ≠ b ∧ (d.getD 15 false = false → Row w B 9 (strV (comps4 c)))) ∧
  (d.getD 9 false = true → t41 = .pointer (some ⟨b, 0, none⟩)) ∧
  (d.getD 10 false = true → ∃ B, t42 = .slice (some ⟨B, 0, none⟩) 6 6 ∧ B ≠ b ∧ (d.getD 15 false = false → Row w B 3 (nums [0, 0, 0, 1, 2, 3]))) ∧
  (d.getD 11 false = true → ∃ k : Nat, t43 = .int .i64 (k : Int) ∧ k < 4) ∧
  (d.getD 12 false = true → (d.getD 8 false = true ∧ ∃ (B k : Nat), t40 = .slice (some ⟨B, 0, none⟩) 4 4 ∧ t44 = .pointer (some ⟨B, k, none⟩) ∧ k < 4)) ∧
  (d.getD 13 false = true → ∃ z : St, t45 = .string (bs z) ∧ z.length ≤ 100) ∧
  (d.getD 14 false = true → (d.getD 15 false = false → ∃ (v : Value) (m2 : List NM), t46 = .agg #[v] ∧ TrAt base w v m2 ∧ VB (m2.map NM.n) ∧ m2.length = n)) ∧
  (d.getD 15 false = true → ((∀ j, j < 15 → d.getD j false = true) ∧ FinM wr b len PT base n w))
def brd8A (b PT : Nat) (s c : St) (t32 t33 t34 t35 t36 t37 t38 t39 t40 t41 t42 t43 t44 t45 t46 s1 s2 s3 s4 s5 s6 s8 s11 s12 s13 s14 s15 s16 s17 s18 s19 s20 s21 s22 s23 s24 s25 s26 s27 s28 s29 s30 s31 s47 s48 s49 s50 s51 s52 s53 s54 s55 s56 s57 s58 s59 s60 s61 s62 s63 s64 s65 s66 s67 s68 s69 s70 s71 s72 s73 s74 s75 s76 s77 s78 s79 s80 s81 s82 s83 s84 s85 s86 s87 s88 : Value) : Act := { tmps := #[.pointer (some ⟨b, 0, none⟩), s1, s2, s3, s4, s5, s6, .pointer (some ⟨PT, 0, none⟩), s8, .string (bs s), .string (bs c), s11, s12, s13, s14, s15, s16, s17, s18, s19, s20, s21, s22, s23, s24, s25, s26, s27, s28, s29, s30, s31, t32, t33, t34, t35, t36, t37, t38, t39, t40, t41, t42, t43, t44, t45, t46, s47, s48, s49, s50, s51, s52, s53, s54, s55, s56, s57, s58, s59, s60, s61, s62, s63, s64, s65, s66, s67, s68, s69, s70, s71, s72, s73, s74, s75, s76, s77, s78, s79, s80, s81, s82, s83, s84, s85, s86, s87, s88], defers := [] }
theorem brd8 {Q : Exit → Act → World → Prop} {wr : World} {b len PT n cap base : Nat} {s c : St} {ad : Option Addr} {ms : List NM}  {s1 s2 s3 s4 s5 s6 s8 s11 s12 s13 s14 s15 s16 s17 s18 s19 s20 s21 s22 s23 s24 s25 s26 s27 s28 s29 s30 s31 s32 s33 s34 s35 s36 s37 s38 s39 s40 s41 s42 s43 s44 s45 s46 s47 s48 s49 s50 s51 s52 s53 s54 s55 s56 s57 s58 s59 s60 s61 s62 s63 s64 s65 s66 s67 s68 s69 s70 s71 s72 s73 s74 s75 s76 s77 s78 s79 s80 s81 s82 s83 s84 s85 s86 s87 s88 : Value} (htp : Tp wr b len) (hrow : Row wr PT 29 [.slice ad n cap]) (hnb : PT ≠ b) (hnb2 : b < base) (hb0 : base ≤ wr.heap.size) (hc : c.length ≤ 31) (hv : VB (ms.map NM.n)) (htr : TrAt base wr (.slice ad n cap) ms)
    (h' : ∀ t32 t33 t34 t35 t36 t37 t38 t39 t40 t41 t42 t43 t44 t45 t46 wx, FinM wr b len PT base n wx → Q .normal (brd8A b PT s c t32 t33 t34 t35 t36 t37 t38 t39 t40 t41 t42 t43 t44 t45 t46 s1 s2 s3 s4 s5 s6 s8 s11 s12 s13 s14 s15 s16 s17 s18 s19 s20 s21 s22 s23 s24 s25 s26 s27 s28 s29 s30 s31 s47 s48 s49 s50 s51 s52 s53 s54 s55 s56 s57 s58 s59 s60 s61 s62 s63 s64 s65 s66 s67 s68 s69 s70 s71 s72 s73 s74 s75 s76 s77 s78 s79 s80 s81 s82 s83 s84 s85 s86 s87 s88) wx) :
    (Code.region 8 (regIn 8 Tryz.f10) true).wp Tryz.prog Q { tmps := #[.pointer (some ⟨b, 0, none⟩), s1, s2, s3, s4, s5, s6, .pointer (some ⟨PT, 0, none⟩), s8, .string (bs s), .string (bs c), s11, s12, s13, s14, s15, s16, s17, s18, s19, s20, s21, s22, s23, s24, s25, s26, s27, s28, s29, s30, s31, s32, s33, s34, s35, s36, s37, s38, s39, s40, s41, s42, s43, s44, s45, s46, s47, s48, s49, s50, s51, s52, s53, s54, s55, s56, s57, s58, s59, s60, s61, s62, s63, s64, s65, s66, s67, s68, s69, s70, s71, s72, s73, s74, s75, s76, s77, s78, s79, s80, s81, s82, s83, s84, s85, s86, s87, s88], defers := [] } wr := by
  have HTP := PLift.up htp
  have HRW := PLift.up hrow
  have HNB := PLift.up hnb
  have HNB2 := PLift.up hnb2
  have HB0 := PLift.up hb0
  have HC := PLift.up hc
  have HV := PLift.up hv
  have HTR := PLift.up htr
  have HBS := PLift.up htp.has
  clear htp hrow hnb hnb2 hb0 hc hv htr
  simp only [regIn, Tryz.f10, regOps, Option.bind_some, Option.getD_some, Nat.beq, cond_true, cond_false]
  refine wp_region_steps (fun done a w => ∃ t32 t33 t34 t35 t36 t37 t38 t39 t40 t41 t42 t43 t44 t45 t46, a = brd8A b PT s c t32 t33 t34 t35 t36 t37 t38 t39 t40 t41 t42 t43 t44 t45 t46 s1 s2 s3 s4 s5 s6 s8 s11 s12 s13 s14 s15 s16 s17 s18 s19 s20 s21 s22 s23 s24 s25 s26 s27 s28 s29 s30 s31 s47 s48 s49 s50 s51 s52 s53 s54 s55 s56 s57 s58 s59 s60 s61 s62 s63 s64 s65 s66 s67 s68 s69 s70 s71 s72 s73 s74 s75 s76 s77 s78 s79 s80 s81 s82 s83 s84 s85 s86 s87 s88 ∧ brd8F wr b len PT n cap base s c ad ms t32 t33 t34 t35 t36 t37 t38 t39 t40 t41 t42 t43 t44 t45 t46 done w) (by kernel_rfl) (by kernel_rfl) ?_ ⟨?_, ?_, ?_, ?_, ?_, ?_, ?_, ?_, ?_, ?_, ?_, ?_, ?_, ?_, ?_, ?_, trivial⟩ ?_
  · exact ⟨s32, s33, s34, s35, s36, s37, s38, s39, s40, s41, s42, s43, s44, s45, s46, rfl, fun _ => ⟨Mv.of_gr HTP.down (Gr.refl _).drew, HRW.down.drew⟩, fun q => absurd q (by decide), fun q => absurd q (by decide), fun q => absurd q (by decide), fun q => absurd q (by decide), fun q => absurd q (by decide), fun q => absurd q (by decide), fun q => absurd q (by decide), fun q => absurd q (by decide), fun q => absurd q (by decide), fun q => absurd q (by decide), fun q => absurd q (by decide), fun q => absurd q (by decide), fun q => absurd q (by decide), fun q => absurd q (by decide), fun q => absurd q (by decide), fun q => absurd q (by decide)⟩
  · rintro done a w hsz hnot hdep ⟨t32, t33, t34, t35, t36, t37, t38, t39, t40, t41, t42, t43, t44, t45, t46, rfl, gw, f0, f1, f2, f3, f4, f5, f6, f7, f8, f9, f10, f11, f12, f13, f14, f15⟩ K hK
    have hn : ¬ done.getD 0 false = true := by rw [getD_both hnot]; decide
    have n15 : done.getD 15 false = false := by
      cases e : done.getD 15 false with
      | false => rfl
      | true => exact absurd ((f15 e).1 0 (by decide)) hn
    replace gw := gw n15
    have c0 : w.cell? ⟨PT, 0, none⟩ = some (.slice ad n cap) := gw.2.cell 0 (by simp)
    have ch := has_of_cell c0
    have HK := PLift.up hK
    clear hK 
    simp only [brd8A]
    go_simp
    have gg : Gr w w := Gr.refl _
    refine HK.down _ _ ⟨_, _, _, _, _, _, _, _, _, _, _, _, _, _, _, rfl, fun _ => gw, fun _ => rfl, kp f1, kp f2, kp f3, kp f4, kp f5, kp f6, kp f7, fun q => (let ⟨B, e, h2, h3⟩ := f8 (done_old q (by decide)); ⟨B, e, h2, fun q2 => (h3 n15).gr gg⟩), kp f9, fun q => (let ⟨B, e, h2, h3⟩ := f10 (done_old q (by decide)); ⟨B, e, h2, fun q2 => (h3 n15).gr gg⟩), kp f11, fun q => (let h := f12 (done_old q (by decide)); ⟨getD_set_true h.1, h.2⟩), kp f13, fun q q2 => (let ⟨v, m2, e, h1, h2⟩ := f14 (done_old q (by decide)) n15; ⟨v, m2, e, h1.gr gg, h2⟩), fun q => absurd ((f15 (done_old q (by decide))).1 0 (by decide)) hn⟩
  · rintro done a w hsz hnot hdep ⟨t32, t33, t34, t35, t36, t37, t38, t39, t40, t41, t42, t43, t44, t45, t46, rfl, gw, f0, f1, f2, f3, f4, f5, f6, f7, f8, f9, f10, f11, f12, f13, f14, f15⟩ K hK
    have hn : ¬ done.getD 1 false = true := by rw [getD_both hnot]; decide
    have n15 : done.getD 15 false = false := by
      cases e : done.getD 15 false with
      | false => rfl
      | true => exact absurd ((f15 e).1 1 (by decide)) hn
    replace gw := gw n15
    have HK := PLift.up hK
    clear hK 
    simp only [brd8A]
    go_simp
    have gg : Gr w w := Gr.refl _
    refine HK.down _ _ ⟨_, _, _, _, _, _, _, _, _, _, _, _, _, _, _, rfl, fun _ => gw, kp f0, fun _ => rfl, kp f2, kp f3, kp f4, kp f5, kp f6, kp f7, fun q => (let ⟨B, e, h2, h3⟩ := f8 (done_old q (by decide)); ⟨B, e, h2, fun q2 => (h3 n15).gr gg⟩), kp f9, fun q => (let ⟨B, e, h2, h3⟩ := f10 (done_old q (by decide)); ⟨B, e, h2, fun q2 => (h3 n15).gr gg⟩), kp f11, fun q => (let h := f12 (done_old q (by decide)); ⟨getD_set_true h.1, h.2⟩), kp f13, fun q q2 => (let ⟨v, m2, e, h1, h2⟩ := f14 (done_old q (by decide)) n15; ⟨v, m2, e, h1.gr gg, h2⟩), fun q => absurd ((f15 (done_old q (by decide))).1 1 (by decide)) hn⟩
  · rintro done a w hsz hnot hdep ⟨t32, t33, t34, t35, t36, t37, t38, t39, t40, t41, t42, t43, t44, t45, t46, rfl, gw, f0, f1, f2, f3, f4, f5, f6, f7, f8, f9, f10, f11, f12, f13, f14, f15⟩ K hK
    have hn : ¬ done.getD 2 false = true := by rw [getD_both hnot]; decide
    have n15 : done.getD 15 false = false := by
      cases e : done.getD 15 false with
      | false => rfl
      | true => exact absurd ((f15 e).1 2 (by decide)) hn
    replace gw := gw n15
    have HK := PLift.up hK
    clear hK 
    simp only [brd8A]
    go_simp
    have gg : Gr w w := Gr.refl _
    refine HK.down _ _ ⟨_, _, _, _, _, _, _, _, _, _, _, _, _, _, _, rfl, fun _ => gw, kp f0, kp f1, fun _ => rfl, kp f3, kp f4, kp f5, kp f6, kp f7, fun q => (let ⟨B, e, h2, h3⟩ := f8 (done_old q (by decide)); ⟨B, e, h2, fun q2 => (h3 n15).gr gg⟩), kp f9, fun q => (let ⟨B, e, h2, h3⟩ := f10 (done_old q (by decide)); ⟨B, e, h2, fun q2 => (h3 n15).gr gg⟩), kp f11, fun q => (let h := f12 (done_old q (by decide)); ⟨getD_set_true h.1, h.2⟩), kp f13, fun q q2 => (let ⟨v, m2, e, h1, h2⟩ := f14 (done_old q (by decide)) n15; ⟨v, m2, e, h1.gr gg, h2⟩), fun q => absurd ((f15 (done_old q (by decide))).1 2 (by decide)) hn⟩
  · rintro done a w hsz hnot hdep ⟨t32, t33, t34, t35, t36, t37, t38, t39, t40, t41, t42, t43, t44, t45, t46, rfl, gw, f0, f1, f2, f3, f4, f5, f6, f7, f8, f9, f10, f11, f12, f13, f14, f15⟩ K hK
    have hn : ¬ done.getD 3 false = true := by rw [getD_both hnot]; decide
    have d2 := hdep 2 (by kernel_rfl)
    obtain rfl := f2 d2
    have n15 : done.getD 15 false = false := by
      cases e : done.getD 15 false with
      | false => rfl
      | true => exact absurd ((f15 e).1 3 (by decide)) hn
    replace gw := gw n15
    have hcl := HC.down
    have if1 : ¬ 9223372036854775807 < c.length + 1 := by omega
    have HK := PLift.up hK
    clear hK d2
    simp only [brd8A]
    go_simp
    (try rw [if_neg if1])
    (try go_simp)
    (try rw [show (bs c ++ (⟨#[0]⟩ : ByteArray)) = bs (c ++ [0]) from bs_append c [0]])
    have gg : Gr w w := Gr.refl _
    refine HK.down _ _ ⟨_, _, _, _, _, _, _, _, _, _, _, _, _, _, _, rfl, fun _ => gw, kp f0, kp f1, kp f2, fun _ => rfl, kp f4, kp f5, kp f6, kp f7, fun q => (let ⟨B, e, h2, h3⟩ := f8 (done_old q (by decide)); ⟨B, e, h2, fun q2 => (h3 n15).gr gg⟩), kp f9, fun q => (let ⟨B, e, h2, h3⟩ := f10 (done_old q (by decide)); ⟨B, e, h2, fun q2 => (h3 n15).gr gg⟩), kp f11, fun q => (let h := f12 (done_old q (by decide)); ⟨getD_set_true h.1, h.2⟩), kp f13, fun q q2 => (let ⟨v, m2, e, h1, h2⟩ := f14 (done_old q (by decide)) n15; ⟨v, m2, e, h1.gr gg, h2⟩), fun q => absurd ((f15 (done_old q (by decide))).1 3 (by decide)) hn⟩
  · rintro done a w hsz hnot hdep ⟨t32, t33, t34, t35, t36, t37, t38, t39, t40, t41, t42, t43, t44, t45, t46, rfl, gw, f0, f1, f2, f3, f4, f5, f6, f7, f8, f9, f10, f11, f12, f13, f14, f15⟩ K hK
    have hn : ¬ done.getD 4 false = true := by rw [getD_both hnot]; decide
    have n15 : done.getD 15 false = false := by
      cases e : done.getD 15 false with
      | false => rfl
      | true => exact absurd ((f15 e).1 4 (by decide)) hn
    replace gw := gw n15
    have HK := PLift.up hK
    clear hK 
    simp only [brd8A]
    go_simp
    have gg : Gr w w := Gr.refl _
    refine HK.down _ _ ⟨_, _, _, _, _, _, _, _, _, _, _, _, _, _, _, rfl, fun _ => gw, kp f0, kp f1, kp f2, kp f3, fun _ => rfl, kp f5, kp f6, kp f7, fun q => (let ⟨B, e, h2, h3⟩ := f8 (done_old q (by decide)); ⟨B, e, h2, fun q2 => (h3 n15).gr gg⟩), kp f9, fun q => (let ⟨B, e, h2, h3⟩ := f10 (done_old q (by decide)); ⟨B, e, h2, fun q2 => (h3 n15).gr gg⟩), kp f11, fun q => (let h := f12 (done_old q (by decide)); ⟨getD_set_true h.1, h.2⟩), kp f13, fun q q2 => (let ⟨v, m2, e, h1, h2⟩ := f14 (done_old q (by decide)) n15; ⟨v, m2, e, h1.gr gg, h2⟩), fun q => absurd ((f15 (done_old q (by decide))).1 4 (by decide)) hn⟩
  · rintro done a w hsz hnot hdep ⟨t32, t33, t34, t35, t36, t37, t38, t39, t40, t41, t42, t43, t44, t45, t46, rfl, gw, f0, f1, f2, f3, f4, f5, f6, f7, f8, f9, f10, f11, f12, f13, f14, f15⟩ K hK
    have hn : ¬ done.getD 5 false = true := by rw [getD_both hnot]; decide
    have d4 := hdep 4 (by kernel_rfl)
    obtain rfl := f4 d4
    have n15 : done.getD 15 false = false := by
      cases e : done.getD 15 false with
      | false => rfl
      | true => exact absurd ((f15 e).1 5 (by decide)) hn
    replace gw := gw n15
    have hcl := HC.down
    have if1 : ¬ 9223372036854775807 < 5 + c.length := by omega
    have HK := PLift.up hK
    clear hK d4
    simp only [brd8A]
    go_simp
    (try rw [if_neg if1])
    (try go_simp)
    (try rw [show ((⟨#[110, 111, 110, 101, 0]⟩ : ByteArray) ++ bs c) = bs ([110, 111, 110, 101, 0] ++ c) from bs_append [110, 111, 110, 101, 0] c])
    have gg : Gr w w := Gr.refl _
    refine HK.down _ _ ⟨_, _, _, _, _, _, _, _, _, _, _, _, _, _, _, rfl, fun _ => gw, kp f0, kp f1, kp f2, kp f3, kp f4, fun _ => rfl, kp f6, kp f7, fun q => (let ⟨B, e, h2, h3⟩ := f8 (done_old q (by decide)); ⟨B, e, h2, fun q2 => (h3 n15).gr gg⟩), kp f9, fun q => (let ⟨B, e, h2, h3⟩ := f10 (done_old q (by decide)); ⟨B, e, h2, fun q2 => (h3 n15).gr gg⟩), kp f11, fun q => (let h := f12 (done_old q (by decide)); ⟨getD_set_true h.1, h.2⟩), kp f13, fun q q2 => (let ⟨v, m2, e, h1, h2⟩ := f14 (done_old q (by decide)) n15; ⟨v, m2, e, h1.gr gg, h2⟩), fun q => absurd ((f15 (done_old q (by decide))).1 5 (by decide)) hn⟩
  · rintro done a w hsz hnot hdep ⟨t32, t33, t34, t35, t36, t37, t38, t39, t40, t41, t42, t43, t44, t45, t46, rfl, gw, f0, f1, f2, f3, f4, f5, f6, f7, f8, f9, f10, f11, f12, f13, f14, f15⟩ K hK
    have hn : ¬ done.getD 6 false = true := by rw [getD_both hnot]; decide
    have d5 := hdep 5 (by kernel_rfl)
    obtain rfl := f5 d5
    have n15 : done.getD 15 false = false := by
      cases e : done.getD 15 false with
      | false => rfl
      | true => exact absurd ((f15 e).1 6 (by decide)) hn
    replace gw := gw n15
    have hcl := HC.down
    have HK := PLift.up hK
    clear hK d5
    simp only [brd8A]
    go_simp
    (try rw [if_neg (by simp; omega)])
    (try go_simp)
    (try rw [show (bs ([110, 111, 110, 101, 0] ++ c) ++ (⟨#[0]⟩ : ByteArray)) = bs ([110, 111, 110, 101, 0] ++ c ++ [0]) from bs_append _ [0]])
    have gg : Gr w w := Gr.refl _
    refine HK.down _ _ ⟨_, _, _, _, _, _, _, _, _, _, _, _, _, _, _, rfl, fun _ => gw, kp f0, kp f1, kp f2, kp f3, kp f4, kp f5, fun _ => rfl, kp f7, fun q => (let ⟨B, e, h2, h3⟩ := f8 (done_old q (by decide)); ⟨B, e, h2, fun q2 => (h3 n15).gr gg⟩), kp f9, fun q => (let ⟨B, e, h2, h3⟩ := f10 (done_old q (by decide)); ⟨B, e, h2, fun q2 => (h3 n15).gr gg⟩), kp f11, fun q => (let h := f12 (done_old q (by decide)); ⟨getD_set_true h.1, h.2⟩), kp f13, fun q q2 => (let ⟨v, m2, e, h1, h2⟩ := f14 (done_old q (by decide)) n15; ⟨v, m2, e, h1.gr gg, h2⟩), fun q => absurd ((f15 (done_old q (by decide))).1 6 (by decide)) hn⟩
  · rintro done a w hsz hnot hdep ⟨t32, t33, t34, t35, t36, t37, t38, t39, t40, t41, t42, t43, t44, t45, t46, rfl, gw, f0, f1, f2, f3, f4, f5, f6, f7, f8, f9, f10, f11, f12, f13, f14, f15⟩ K hK
    have hn : ¬ done.getD 7 false = true := by rw [getD_both hnot]; decide
    have n15 : done.getD 15 false = false := by
      cases e : done.getD 15 false with
      | false => rfl
      | true => exact absurd ((f15 e).1 7 (by decide)) hn
    replace gw := gw n15
    have HK := PLift.up hK
    clear hK 
    simp only [brd8A]
    go_simp
    have gg : Gr w w := Gr.refl _
    refine HK.down _ _ ⟨_, _, _, _, _, _, _, _, _, _, _, _, _, _, _, rfl, fun _ => gw, kp f0, kp f1, kp f2, kp f3, kp f4, kp f5, kp f6, fun _ => rfl, fun q => (let ⟨B, e, h2, h3⟩ := f8 (done_old q (by decide)); ⟨B, e, h2, fun q2 => (h3 n15).gr gg⟩), kp f9, fun q => (let ⟨B, e, h2, h3⟩ := f10 (done_old q (by decide)); ⟨B, e, h2, fun q2 => (h3 n15).gr gg⟩), kp f11, fun q => (let h := f12 (done_old q (by decide)); ⟨getD_set_true h.1, h.2⟩), kp f13, fun q q2 => (let ⟨v, m2, e, h1, h2⟩ := f14 (done_old q (by decide)) n15; ⟨v, m2, e, h1.gr gg, h2⟩), fun q => absurd ((f15 (done_old q (by decide))).1 7 (by decide)) hn⟩
  · rintro done a w hsz hnot hdep ⟨t32, t33, t34, t35, t36, t37, t38, t39, t40, t41, t42, t43, t44, t45, t46, rfl, gw, f0, f1, f2, f3, f4, f5, f6, f7, f8, f9, f10, f11, f12, f13, f14, f15⟩ K hK
    have hn : ¬ done.getD 8 false = true := by rw [getD_both hnot]; decide
    have d3 := hdep 3 (by kernel_rfl)
    have d6 := hdep 6 (by kernel_rfl)
    have d7 := hdep 7 (by kernel_rfl)
    obtain rfl := f3 d3
    obtain rfl := f6 d6
    obtain rfl := f7 d7
    have n15 : done.getD 15 false = false := by
      cases e : done.getD 15 false with
      | false => rfl
      | true => exact absurd ((f15 e).1 8 (by decide)) hn
    replace gw := gw n15
    have GW := PLift.up gw
    have HNE := PLift.up (show w.heap.size ≠ b by have := (gw.1.tp HTP.down).has; omega)
    have HK := PLift.up hK
    clear hK d3 d6 d7
    simp only [brd8A]
    go_simp
    have gg : Gr w (w.alloc (.cells #[.string (bs (c ++ [0])), .string (bs ([110, 111, 110, 101, 0] ++ c ++ [0])), .string (bs [110, 111, 110, 101, 0]), .string (bs c)] 9)) := (Gr.refl _).alloc _
    refine HK.down _ _ ⟨_, _, _, _, _, _, _, _, _, _, _, _, _, _, _, rfl, fun _ => ⟨GW.down.1.gr gg, GW.down.2.gr gg⟩, kp f0, kp f1, kp f2, kp f3, kp f4, kp f5, kp f6, kp f7, ?_, kp f9, fun q => (let ⟨B, e, h2, h3⟩ := f10 (done_old q (by decide)); ⟨B, e, h2, fun q2 => (h3 n15).gr gg⟩), kp f11, fun q => absurd (f12 (done_old q (by decide))).1 hn, kp f13, fun q q2 => (let ⟨v, m2, e, h1, h2⟩ := f14 (done_old q (by decide)) n15; ⟨v, m2, e, h1.gr gg, h2⟩), fun q => absurd ((f15 (done_old q (by decide))).1 8 (by decide)) hn⟩
    exact fun _ => ⟨_, rfl, HNE.down, fun _ => Row.new w _ _⟩
  · rintro done a w hsz hnot hdep ⟨t32, t33, t34, t35, t36, t37, t38, t39, t40, t41, t42, t43, t44, t45, t46, rfl, gw, f0, f1, f2, f3, f4, f5, f6, f7, f8, f9, f10, f11, f12, f13, f14, f15⟩ K hK
    have hn : ¬ done.getD 9 false = true := by rw [getD_both hnot]; decide
    have n15 : done.getD 15 false = false := by
      cases e : done.getD 15 false with
      | false => rfl
      | true => exact absurd ((f15 e).1 9 (by decide)) hn
    replace gw := gw n15
    have HK := PLift.up hK
    clear hK 
    simp only [brd8A]
    go_simp
    have gg : Gr w w := Gr.refl _
    refine HK.down _ _ ⟨_, _, _, _, _, _, _, _, _, _, _, _, _, _, _, rfl, fun _ => gw, kp f0, kp f1, kp f2, kp f3, kp f4, kp f5, kp f6, kp f7, fun q => (let ⟨B, e, h2, h3⟩ := f8 (done_old q (by decide)); ⟨B, e, h2, fun q2 => (h3 n15).gr gg⟩), fun _ => rfl, fun q => (let ⟨B, e, h2, h3⟩ := f10 (done_old q (by decide)); ⟨B, e, h2, fun q2 => (h3 n15).gr gg⟩), kp f11, fun q => (let h := f12 (done_old q (by decide)); ⟨getD_set_true h.1, h.2⟩), kp f13, fun q q2 => (let ⟨v, m2, e, h1, h2⟩ := f14 (done_old q (by decide)) n15; ⟨v, m2, e, h1.gr gg, h2⟩), fun q => absurd ((f15 (done_old q (by decide))).1 9 (by decide)) hn⟩
  · rintro done a w hsz hnot hdep ⟨t32, t33, t34, t35, t36, t37, t38, t39, t40, t41, t42, t43, t44, t45, t46, rfl, gw, f0, f1, f2, f3, f4, f5, f6, f7, f8, f9, f10, f11, f12, f13, f14, f15⟩ K hK
    have hn : ¬ done.getD 10 false = true := by rw [getD_both hnot]; decide
    have n15 : done.getD 15 false = false := by
      cases e : done.getD 15 false with
      | false => rfl
      | true => exact absurd ((f15 e).1 10 (by decide)) hn
    replace gw := gw n15
    have GW := PLift.up gw
    have HNE := PLift.up (show w.heap.size ≠ b by have := (gw.1.tp HTP.down).has; omega)
    have HK := PLift.up hK
    clear hK 
    simp only [brd8A]
    go_simp
    have gg : Gr w (w.alloc (.cells #[.int .i64 0, .int .i64 0, .int .i64 0, .int .i64 1, .int .i64 2, .int .i64 3] 3)) := (Gr.refl _).alloc _
    refine HK.down _ _ ⟨_, _, _, _, _, _, _, _, _, _, _, _, _, _, _, rfl, fun _ => ⟨GW.down.1.gr gg, GW.down.2.gr gg⟩, kp f0, kp f1, kp f2, kp f3, kp f4, kp f5, kp f6, kp f7, fun q => (let ⟨B, e, h2, h3⟩ := f8 (done_old q (by decide)); ⟨B, e, h2, fun q2 => (h3 n15).gr gg⟩), kp f9, ?_, kp f11, fun q => (let h := f12 (done_old q (by decide)); ⟨getD_set_true h.1, h.2⟩), kp f13, fun q q2 => (let ⟨v, m2, e, h1, h2⟩ := f14 (done_old q (by decide)) n15; ⟨v, m2, e, h1.gr gg, h2⟩), fun q => absurd ((f15 (done_old q (by decide))).1 10 (by decide)) hn⟩
    exact fun _ => ⟨_, rfl, HNE.down, fun _ => Row.new w _ _⟩
  · rintro done a w hsz hnot hdep ⟨t32, t33, t34, t35, t36, t37, t38, t39, t40, t41, t42, t43, t44, t45, t46, rfl, gw, f0, f1, f2, f3, f4, f5, f6, f7, f8, f9, f10, f11, f12, f13, f14, f15⟩ K hK
    have hn : ¬ done.getD 11 false = true := by rw [getD_both hnot]; decide
    have d9 := hdep 9 (by kernel_rfl)
    have d10 := hdep 10 (by kernel_rfl)
    obtain rfl := f9 d9
    have n15 : done.getD 15 false = false := by
      cases e : done.getD 15 false with
      | false => rfl
      | true => exact absurd ((f15 e).1 11 (by decide)) hn
    replace gw := gw n15
    obtain ⟨B, rfl, h2, h3⟩ := f10 d10
    have HB := PLift.up h2
    have HR := PLift.up (h3 n15)
    have TP := PLift.up (gw.1.tp HTP.down)
    have GW := PLift.up gw
    clear h2 h3
    have HK := PLift.up hK
    clear hK d9
    simp only [brd8A]
    go_simp
    refine (pickM_any w b len TP.down B 6 (fun x => 0 ≤ x ∧ x < 4) (by omega) (by omega) HB.down (fun k hk => ?_)).mono ?_
    · have hk2 : k < [(0 : Int), 0, 0, 1, 2, 3].length := hk
      refine ⟨_, HR.down.iat k hk2, ?_⟩
      have : ∀ z ∈ [(0 : Int), 0, 0, 1, 2, 3], 0 ≤ z ∧ z < 4 := by decide
      exact this _ (List.getElem_mem hk2)
    rintro e w2 ⟨x, rfl, ⟨x0, x1⟩, hm⟩
    obtain ⟨k, rfl⟩ := Int.eq_ofNat_of_zero_le x0
    (try go_simp)
    refine HK.down _ _ ⟨_, _, _, _, _, _, _, _, _, _, _, _, _, _, _, rfl, fun _ => ⟨GW.down.1.trans HBS.down hm, hm.row GW.down.2 HNB.down⟩, kp f0, kp f1, kp f2, kp f3, kp f4, kp f5, kp f6, kp f7, fun q => (let ⟨B, e, h2, h3⟩ := f8 (done_old q (by decide)); ⟨B, e, h2, fun q2 => hm.row (h3 n15) h2⟩), kp f9, fun _ => ⟨B, rfl, HB.down, fun _ => hm.row HR.down HB.down⟩, ?_, fun q => (let h := f12 (done_old q (by decide)); ⟨getD_set_true h.1, h.2⟩), kp f13, fun q q2 => (let ⟨v, m2, e, h1, h2⟩ := f14 (done_old q (by decide)) n15; ⟨v, m2, e, h1.mv HNB2.down hm, h2⟩), fun q => absurd ((f15 (done_old q (by decide))).1 11 (by decide)) hn⟩
    exact fun _ => ⟨k, rfl, by omega⟩
  · rintro done a w hsz hnot hdep ⟨t32, t33, t34, t35, t36, t37, t38, t39, t40, t41, t42, t43, t44, t45, t46, rfl, gw, f0, f1, f2, f3, f4, f5, f6, f7, f8, f9, f10, f11, f12, f13, f14, f15⟩ K hK
    have hn : ¬ done.getD 12 false = true := by rw [getD_both hnot]; decide
    have d8 := hdep 8 (by kernel_rfl)
    have d11 := hdep 11 (by kernel_rfl)
    have n15 : done.getD 15 false = false := by
      cases e : done.getD 15 false with
      | false => rfl
      | true => exact absurd ((f15 e).1 12 (by decide)) hn
    replace gw := gw n15
    obtain ⟨B, rfl, h2, h3⟩ := f8 d8
    obtain ⟨k, rfl, hk⟩ := f11 d11
    have k1 : (k : Int) < 4 := by omega
    have D8 := PLift.up d8
    have H3 := PLift.up h3
    have H2 := PLift.up h2
    have HK4 := PLift.up hk
    clear h2 h3
    have HK := PLift.up hK
    clear hK 
    simp only [brd8A]
    go_simp
    have gg : Gr w w := Gr.refl _
    refine HK.down _ _ ⟨_, _, _, _, _, _, _, _, _, _, _, _, _, _, _, rfl, fun _ => gw, kp f0, kp f1, kp f2, kp f3, kp f4, kp f5, kp f6, kp f7, fun _ => ⟨B, rfl, H2.down, fun _ => H3.down n15⟩, kp f9, fun q => (let ⟨B, e, h2, h3⟩ := f10 (done_old q (by decide)); ⟨B, e, h2, fun q2 => (h3 n15).gr gg⟩), fun _ => ⟨k, rfl, HK4.down⟩, ?_, kp f13, fun q q2 => (let ⟨v, m2, e, h1, h2⟩ := f14 (done_old q (by decide)) n15; ⟨v, m2, e, h1.gr gg, h2⟩), fun q => absurd ((f15 (done_old q (by decide))).1 12 (by decide)) hn⟩
    exact fun _ => ⟨getD_set_true D8.down, B, k, rfl, rfl, HK4.down⟩
  · rintro done a w hsz hnot hdep ⟨t32, t33, t34, t35, t36, t37, t38, t39, t40, t41, t42, t43, t44, t45, t46, rfl, gw, f0, f1, f2, f3, f4, f5, f6, f7, f8, f9, f10, f11, f12, f13, f14, f15⟩ K hK
    have hn : ¬ done.getD 13 false = true := by rw [getD_both hnot]; decide
    have d12 := hdep 12 (by kernel_rfl)
    have n15 : done.getD 15 false = false := by
      cases e : done.getD 15 false with
      | false => rfl
      | true => exact absurd ((f15 e).1 13 (by decide)) hn
    replace gw := gw n15
    obtain ⟨D8, B, k, e40, rfl, hk⟩ := f12 d12
    obtain ⟨B2, e2, h2, h3⟩ := f8 D8
    subst e40
    obtain rfl : B = B2 := by simpa using e2
    have D8 := PLift.up D8
    have H3 := PLift.up (h3 n15)
    have H2 := PLift.up h2
    have HK4 := PLift.up hk
    have hk2 : k < (comps4 c).length := hk
    have c0 := H3.down.cell k (by simpa [strV] using hk2)
    rw [strV_get hk2] at c0
    have ch := has_of_cell c0
    have ZL : PLift ((comps4 c)[k].length ≤ 100) := PLift.up (by have q : ∀ z ∈ comps4 c, z.length ≤ 100 := (by intro z hz; have := HC.down; simp only [comps4, List.mem_cons, List.not_mem_nil, or_false] at hz; rcases hz with e | e | e | e <;> subst e <;> simp <;> omega); exact q _ (List.getElem_mem hk2))
    obtain ⟨z, hz⟩ : ∃ z, (comps4 c)[k] = z := ⟨_, rfl⟩
    rw [hz] at c0 ZL
    clear hz h2 h3 e2
    have HK := PLift.up hK
    clear hK 
    simp only [brd8A]
    go_simp
    have gg : Gr w w := Gr.refl _
    refine HK.down _ _ ⟨_, _, _, _, _, _, _, _, _, _, _, _, _, _, _, rfl, fun _ => gw, kp f0, kp f1, kp f2, kp f3, kp f4, kp f5, kp f6, kp f7, fun _ => ⟨B, rfl, H2.down, fun _ => H3.down⟩, kp f9, fun q => (let ⟨B, e, h2, h3⟩ := f10 (done_old q (by decide)); ⟨B, e, h2, fun q2 => (h3 n15).gr gg⟩), kp f11, fun _ => ⟨getD_set_true D8.down, B, k, rfl, rfl, HK4.down⟩, ?_, fun q q2 => (let ⟨v, m2, e, h1, h2⟩ := f14 (done_old q (by decide)) n15; ⟨v, m2, e, h1.gr gg, h2⟩), fun q => absurd ((f15 (done_old q (by decide))).1 13 (by decide)) hn⟩
    exact fun _ => ⟨z, rfl, ZL.down⟩
  · rintro done a w hsz hnot hdep ⟨t32, t33, t34, t35, t36, t37, t38, t39, t40, t41, t42, t43, t44, t45, t46, rfl, gw, f0, f1, f2, f3, f4, f5, f6, f7, f8, f9, f10, f11, f12, f13, f14, f15⟩ K hK
    have hn : ¬ done.getD 14 false = true := by rw [getD_both hnot]; decide
    have d0 := hdep 0 (by kernel_rfl)
    have d1 := hdep 1 (by kernel_rfl)
    have d13 := hdep 13 (by kernel_rfl)
    obtain rfl := f0 d0
    obtain rfl := f1 d1
    have n15 : done.getD 15 false = false := by
      cases e : done.getD 15 false with
      | false => rfl
      | true => exact absurd ((f15 e).1 14 (by decide)) hn
    replace gw := gw n15
    obtain ⟨z, rfl, hz⟩ := f13 d13
    have HZ := PLift.up hz
    have GW := PLift.up gw
    have HK := PLift.up hK
    clear hK d0 d1
    simp only [brd8A]
    go_simp
    refine (with_any base ms ad n cap s [99, 111, 109, 112, 97, 116, 105, 98, 108, 101] z w (HTR.down.mv HNB2.down GW.down.1) HV.down (Nat.le_trans HB0.down GW.down.1.size) compatible_in (by have := HZ.down; omega) ⟨by show ([99, 111, 109, 112, 97, 116, 105, 98, 108, 101] : St) ≠ exS; decide, fun e => absurd (show ([99, 111, 109, 112, 97, 116, 105, 98, 108, 101] : St) = phS from e) (by decide)⟩).mono ?_
    rintro e w2 ⟨v, m2, rfl, h1, h2, h3, hg⟩
    (try go_simp)
    refine HK.down _ _ ⟨_, _, _, _, _, _, _, _, _, _, _, _, _, _, _, rfl, fun _ => ⟨GW.down.1.gr hg, GW.down.2.gr hg⟩, kp f0, kp f1, kp f2, kp f3, kp f4, kp f5, kp f6, kp f7, fun q => (let ⟨B, e, h2, h3⟩ := f8 (done_old q (by decide)); ⟨B, e, h2, fun q2 => (h3 n15).gr hg⟩), kp f9, fun q => (let ⟨B, e, h2, h3⟩ := f10 (done_old q (by decide)); ⟨B, e, h2, fun q2 => (h3 n15).gr hg⟩), kp f11, fun q => (let h := f12 (done_old q (by decide)); ⟨getD_set_true h.1, h.2⟩), fun _ => ⟨z, rfl, HZ.down⟩, ?_, fun q => absurd ((f15 (done_old q (by decide))).1 14 (by decide)) hn⟩
    exact fun _ _ => ⟨v, m2, rfl, h1, h2, h3⟩
  · rintro done a w hsz hnot hdep ⟨t32, t33, t34, t35, t36, t37, t38, t39, t40, t41, t42, t43, t44, t45, t46, rfl, gw, f0, f1, f2, f3, f4, f5, f6, f7, f8, f9, f10, f11, f12, f13, f14, f15⟩ K hK
    have hn : ¬ done.getD 15 false = true := by rw [getD_both hnot]; decide
    have d0 := hdep 0 (by kernel_rfl)
    have d1 := hdep 1 (by kernel_rfl)
    have d2 := hdep 2 (by kernel_rfl)
    have d3 := hdep 3 (by kernel_rfl)
    have d4 := hdep 4 (by kernel_rfl)
    have d5 := hdep 5 (by kernel_rfl)
    have d6 := hdep 6 (by kernel_rfl)
    have d7 := hdep 7 (by kernel_rfl)
    have d8 := hdep 8 (by kernel_rfl)
    have d9 := hdep 9 (by kernel_rfl)
    have d10 := hdep 10 (by kernel_rfl)
    have d11 := hdep 11 (by kernel_rfl)
    have d12 := hdep 12 (by kernel_rfl)
    have d13 := hdep 13 (by kernel_rfl)
    have d14 := hdep 14 (by kernel_rfl)
    obtain rfl := f0 d0
    obtain rfl := f1 d1
    obtain rfl := f2 d2
    obtain rfl := f3 d3
    obtain rfl := f4 d4
    obtain rfl := f5 d5
    obtain rfl := f6 d6
    obtain rfl := f7 d7
    obtain rfl := f9 d9
    have n15 := getD_both hnot
    obtain ⟨v, m2, rfl, h1, h2, h3⟩ := f14 d14 n15
    obtain ⟨ya, yc, rfl⟩ := owns_slice h1.own
    have g1 := gw n15
    have z0 := g1.2.cell 0 (by simp)
    have zf := g1.2.free 0
    have zh := has_of_cell z0
    have FN := PLift.up (show FinM wr b len PT base n (w.setCell ⟨PT, 0, none⟩ (.slice ya m2.length yc)) from ⟨w, _, m2, rfl, g1.1, g1.2.set 0 _, h1.box g1.2.ty (by decide) (h1.ne_ty g1.2.ty (by decide)), h2, h3⟩)
    have DD := PLift.up (show ∀ j, j < 15 → done.getD j false = true from by intro j hj; match j, hj with | 0, _ => exact d0 | 1, _ => exact d1 | 2, _ => exact d2 | 3, _ => exact d3 | 4, _ => exact d4 | 5, _ => exact d5 | 6, _ => exact d6 | 7, _ => exact d7 | 8, _ => exact d8 | 9, _ => exact d9 | 10, _ => exact d10 | 11, _ => exact d11 | 12, _ => exact d12 | 13, _ => exact d13 | 14, _ => exact d14)
    clear h3
    have HK := PLift.up hK
    clear hK d0 d1 d2 d3 d4 d5 d6 d7 d9
    simp only [brd8A]
    go_simp
    refine HK.down _ _ ⟨_, _, _, _, _, _, _, _, _, _, _, _, _, _, _, rfl, fun q => absurd q (by rw [getD_set_same (by rw [hsz]; decide)]; decide), kp f0, kp f1, kp f2, kp f3, kp f4, kp f5, kp f6, kp f7, fun q => (let ⟨B, e, h2, h3⟩ := f8 (done_old q (by decide)); ⟨B, e, h2, fun q2 => absurd q2 (by rw [getD_set_same (by rw [hsz]; decide)]; decide)⟩), kp f9, fun q => (let ⟨B, e, h2, h3⟩ := f10 (done_old q (by decide)); ⟨B, e, h2, fun q2 => absurd q2 (by rw [getD_set_same (by rw [hsz]; decide)]; decide)⟩), kp f11, fun q => (let h := f12 (done_old q (by decide)); ⟨getD_set_true h.1, h.2⟩), kp f13, fun q q2 => absurd q2 (by rw [getD_set_same (by rw [hsz]; decide)]; decide), ?_⟩
    exact fun _ => ⟨fun j hj => getD_set_true (DD.down j hj), FN.down⟩
  · rintro done a w hall ⟨t32, t33, t34, t35, t36, t37, t38, t39, t40, t41, t42, t43, t44, t45, t46, rfl, gw, f0, f1, f2, f3, f4, f5, f6, f7, f8, f9, f10, f11, f12, f13, f14, f15⟩
    exact h' _ _ _ _ _ _ _ _ _ _ _ _ _ _ _ w (f15 (hall 15 (by decide))).2
theorem valP_at {ps : List Prp} {s : St} {k : Nat} (hk : k < ps.length) (hl : ∀ j (hj : j < ps.length), j < k → (ps[j]'hj).name ≠ s) (he : (ps[k]'hk).name = s) : valP ps s = some (ps[k]'hk).val := by
  unfold valP
  have : ps.find? (fun p => p.name == s) = some (ps[k]'hk) := by
    rw [List.find?_eq_some_iff_getElem]
    refine ⟨by simpa using he, k, hk, rfl, fun j hj => ?_⟩
    have := hl j (by omega) hj
    simpa using this
  rw [this]; rfl
theorem valP_no {ps : List Prp} {s : St} (hl : ∀ j (hj : j < ps.length), (ps[j]'hj).name ≠ s) : valP ps s = none := by
  unfold valP
  have : ps.find? (fun p => p.name == s) = none := by
    rw [List.find?_eq_none]
    intro x hx
    obtain ⟨j, hj, rfl⟩ := List.getElem_of_mem hx
    simpa using hl j hj
  rw [this]; rfl
theorem rOf_any (n : Nod) (a : Option Addr) (cap : Nat) (s : St) (w : World) (h : SlOf 2 RPrp w a n.props) (hf : n.props.length ≤ 1000000) :
    Calls Tryz.prog 51 #[.agg #[.int .i64 n.parent, .string (bs n.name), .slice a n.props.length cap], .string (bs s)] w (GivesVal (valP n.props s) w) := by
  have H := Lib.hid h
  clear h
  obtain ⟨P0, hP0⟩ : ∃ P : Ending → World → Prop, P = GivesVal (valP n.props s) w := ⟨_, rfl⟩
  rw [← hP0]
  have HP0 := Lib.hid hP0
  clear hP0
  go_enter Tryz.func51, Tryz.ntmps51
  go_wp2_with fail
  go_loopw [11] (fun i wr => ∃ k : Nat, k ≤ n.props.length ∧ i = .int .i64 k ∧ (∀ j (hj : j < n.props.length), j < k → (n.props[j]'hj).name ≠ s) ∧ Gr w wr) (fun i _ => n.props.length - (intOf i).toNat)
  case atStart => exact ⟨0, Nat.zero_le _, rfl, fun j _ h => absurd h (by omega), (Gr.refl _).alloc _⟩
  case round =>
    obtain ⟨k, hk, rfl, hall, hg⟩ := hrel
    have HA := Lib.hid hall
    have HG := Lib.hid hg
    clear hall hg
    by_cases hlt : k < n.props.length
    · obtain ⟨b, o, rfl, c0, c1, _, _⟩ := prps_at (H.out.gr RPrp.mono HG.out) k hlt
      have VA := Lib.hid (fun he => valP_at hlt HA.out (s := s) he)
      obtain ⟨q, hq⟩ : ∃ q, n.props[k]'hlt = q := ⟨_, rfl⟩
      have HQ := Lib.hid hq
      rw [hq] at c0 c1 VA
      clear hq
      have hh := has_of_cell c0
      have kk : (k : Int) < n.props.length := by omega
      by_cases hv : q.name = s
      · have bv : (q.name == s) = true := by rw [hv]; exact beq_self_eq_true _
        have V := Lib.hid (VA.out hv)
        clear hv
        go_wp2_with fail
        rw [HP0.out]
        refine ⟨HG.out.alloc _, ?_⟩
        rw [V.out]
        rfl
      · have bv : (q.name == s) = false := by rw [beq_eq_false_iff_ne]; exact hv
        have NV := Lib.hid hv
        clear hv
        go_wp2_with fail
        go_roundw
        case rel =>
          refine ⟨k + 1, by omega, by go_num, fun j hj hjk => ?_, HG.out.alloc _⟩
          by_cases e : j = k
          · subst e; rw [HQ.out]; exact NV.out
          · exact HA.out j hj (by omega)
        case measure => simp [intOf]; omega
    · have V : Hid (valP n.props s = none) := Lib.hid (valP_no (fun j hj => HA.out j hj (by omega)))
      go_wp2_with fail
      rw [HP0.out]
      refine ⟨HG.out, ?_⟩
      rw [V.out]
      rfl
def woP (ps : List Prp) (s : St) : List Prp := ps.filter (fun p => p.name != s)
theorem rWithout_any (ps : List Prp) (a : Option Addr) (cap : Nat) (s : St) (w : World) (h : SlOf 2 RPrp w a ps) (hf : ps.length ≤ 1000) :
    Calls Tryz.prog 53 #[.slice a ps.length cap, .string (bs s)] w fun e w' => ∃ v, e = .returned v ∧ w'.ownsRow w.heap.size 83 2 v (woP ps s).length ((woP ps s).flatMap encP) ∧ Gr w w' := by
  have H := Lib.hid h
  clear h
  obtain ⟨j0, hj, hy0, hy1, hy2⟩ := info_parts infoPrp
  obtain ⟨P0, hP0⟩ : ∃ P : Ending → World → Prop, P = fun e w' => ∃ v, e = .returned v ∧ w'.ownsRow w.heap.size 83 2 v (woP ps s).length ((woP ps s).flatMap encP) ∧ Gr w w' := ⟨_, rfl⟩
  rw [← hP0]
  have HP0 := Lib.hid hP0
  clear hP0
  go_enter Tryz.func53, Tryz.ntmps53
  go_wp2_with fail
  go_loopw [5, 10] (fun v i wr => ∃ (k : Nat) (qs : List Prp), k ≤ ps.length ∧ i = .int .i64 k ∧ qs = woP (ps.take k) s ∧ wr.ownsRow w.heap.size 83 2 v qs.length (qs.flatMap encP) ∧ Gr w wr) (fun _ i _ => ps.length - (intOf i).toNat)
  case atStart => exact ⟨0, [], Nat.zero_le _, rfl, rfl, World.ownsRow_nil _ _ _ _, Gr.refl _⟩
  case round =>
    obtain ⟨k, qs, hk, rfl, hqs, ho, hg⟩ := hrel
    obtain ⟨va, vc, rfl⟩ := owns_slice ho
    have OW := Lib.hid ho
    have HG := Lib.hid hg
    have QS := Lib.hid hqs
    have QL : qs.length ≤ 1000 := by rw [hqs]; unfold woP; refine Nat.le_trans (List.length_filter_le _ _) ?_; rw [List.length_take]; omega
    clear ho hg hqs
    by_cases hlt : k < ps.length
    · obtain ⟨b, o, rfl, c0, c1, _, _⟩ := prps_at (H.out.gr RPrp.mono HG.out) k hlt
      have TK := Lib.hid (List.take_succ_eq_append_getElem hlt)
      obtain ⟨q, hq⟩ : ∃ q, ps[k]'hlt = q := ⟨_, rfl⟩
      rw [hq] at c0 c1 TK
      clear hq
      have hh := has_of_cell c0
      have kk : (k : Int) < ps.length := by omega
      obtain ⟨ql, hql⟩ : ∃ n, qs.length = n := ⟨_, rfl⟩
      have QE := Lib.hid hql
      rw [hql] at OW QL ⊢
      clear hql
      by_cases hv : q.name = s
      · have bv : (q.name != s) = false := by rw [hv]; simp
        have bv2 : (q.name == s) = true := by rw [hv]; exact beq_self_eq_true _
        have BV := Lib.hid bv
        clear hv
        go_wp2_with fail
        go_roundw
        case rel =>
          refine ⟨k + 1, qs, by omega, by go_num, ?_, by rw [QE.out]; exact OW.out.alloc _, HG.out.alloc _⟩
          rw [TK.out, QS.out]
          unfold woP
          rw [List.filter_append]
          simp [BV.out]
        case measure => simp [intOf]; omega
      · have bv : (q.name != s) = true := by rw [bne_iff_ne]; exact hv
        have bv2 : (q.name == s) = false := by rw [beq_eq_false_iff_ne]; exact hv
        have BV := Lib.hid bv
        clear hv
        have OA := Lib.hid ((OW.out.alloc (.cells #[.string (bs q.name), .string (bs q.val)] 83)).alloc (.cells #[.string (bs q.name), .string (bs q.val)] 83))
        have NR := Lib.hid (by have q9 := row_cells (Row.new (wr.alloc (.cells #[.string (bs q.name), .string (bs q.val)] 83)) #[.string (bs q.name), .string (bs q.val)] 83); rw [show (wr.alloc (.cells #[.string (bs q.name), .string (bs q.val)] 83)).heap.size = wr.heap.size + 1 by simp] at q9; exact q9)
        have SZ := HG.out.size
        go_wp2_with (at_builtin; refine wpList_append_own _ rfl _ _ 84 rfl w.heap.size 83 j0 (.agg #[.string (bs []), .string (bs [])]) 2 32 Tryz.underlying84 hj hy0 hy1 hy2 rfl (by decide) _ ql (qs.flatMap encP) rfl OA.out ⟨wr.heap.size + 1, 0, none⟩ 1 1 [.string (bs q.name), .string (bs q.val)] rfl rfl NR.out (by intro u hu; simp only [List.mem_cons, List.not_mem_nil, or_false] at hu; rcases hu with q | q <;> subst q <;> rfl) (by unfold maxLen; omega) (by omega) (by simp; omega) ?_; intro v6 w6 hown hgrow hloc; obtain ⟨x6, z6, rfl⟩ := owns_slice hown; have O7 := Lib.hid hown; have HGz := Lib.hid hgrow; clear hown hgrow hloc)
        go_roundw
        case rel =>
          refine ⟨k + 1, qs ++ [q], by omega, by go_num, ?_, ?_, ((HG.out.alloc _).alloc _).grown HGz.out (fun j e => (owns_block OA.out j e).1)⟩
          · rw [TK.out, QS.out]
            unfold woP
            rw [List.filter_append]
            simp [BV.out]
          · have := O7.out
            rw [List.length_append, QE.out, List.flatMap_append]
            simpa [encP] using this
        case measure => simp [intOf]; omega
    · obtain rfl : k = ps.length := by omega
      rw [List.take_length] at QS
      go_wp2_with fail
      rw [HP0.out]
      exact ⟨_, rfl, by rw [← QS.out]; exact OW.out, HG.out⟩
def del8F (wr : World) (g k : Nat) (B o PB PX n vc cap : Nat) (nm : St) (pa : Option Addr) (pc : Nat) (ps qs : List Prp) (t38 t39 t40 t41 t42 t43 t44 t45 t46 t47 t48 t49 t50 : Value) (d : Array Bool) (w : World) : Prop :=
  (d.getD 13 false = false → Gr wr w) ∧ (d.getD 0 false = true → t38 = .pointer (some ⟨PX, 0, none⟩)) ∧
  (d.getD 1 false = true → t39 = .slice (some ⟨g, 0, none⟩) n vc) ∧
  (d.getD 2 false = true → t40 = .int .i64 (k : Int)) ∧
  (d.getD 3 false = true → t41 = .pointer (some ⟨PB, 0, none⟩)) ∧
  (d.getD 4 false = true → t42 = .slice (some ⟨B, o, none⟩) n cap) ∧
  (d.getD 5 false = true → t43 = .int .i64 (k : Int)) ∧
  (d.getD 6 false = true → t44 = .pointer (some ⟨B, o + k * 3, none⟩)) ∧
  (d.getD 7 false = true → t45 = .pointer (some ⟨B, o + k * 3 + 2, none⟩)) ∧
  (d.getD 8 false = true → t46 = .slice pa ps.length pc) ∧
  (d.getD 9 false = true → t47 = .string (bs nm)) ∧
  (d.getD 10 false = true → (d.getD 13 false = false → (∃ x c, t48 = .slice x qs.length c ∧ w.ownsRow wr.heap.size 83 2 (.slice x qs.length c) qs.length (qs.flatMap encP)))) ∧
  (d.getD 11 false = true → t49 = .pointer (some ⟨g, k * 3, none⟩)) ∧
  (d.getD 12 false = true → t50 = .pointer (some ⟨g, k * 3 + 2, none⟩)) ∧
  (d.getD 13 false = true → ((∀ j, j < 13 → j ≠ 11 → d.getD j false = true) ∧ Fin7 wr g k qs w))
def del8A (PB PX k : Nat) (nm : St) (t38 t39 t40 t41 t42 t43 t44 t45 t46 t47 t48 t49 t50 s0 s1 s4 s5 s6 s7 s9 s10 s11 s13 s14 s15 s16 s17 s18 s19 s20 s21 s22 s23 s24 s25 s26 s27 s28 s29 s30 s31 s32 s33 s34 s35 s36 s37 s51 : Value) : Act := { tmps := #[s0, s1, .string (bs nm), .pointer (some ⟨PB, 0, none⟩), s4, s5, s6, s7, .int .i64 (k : Int), s9, s10, s11, .pointer (some ⟨PX, 0, none⟩), s13, s14, s15, s16, s17, s18, s19, s20, s21, s22, s23, s24, s25, s26, s27, s28, s29, s30, s31, s32, s33, s34, s35, s36, s37, t38, t39, t40, t41, t42, t43, t44, t45, t46, t47, t48, t49, t50, s51], defers := [] }
theorem del8 {Q : Exit → Act → World → Prop} {wr : World} {g k : Nat} {B o PB PX n vc cap : Nat} {nm : St} {pa : Option Addr} {pc : Nat} {ps qs : List Prp}  {s0 s1 s4 s5 s6 s7 s9 s10 s11 s13 s14 s15 s16 s17 s18 s19 s20 s21 s22 s23 s24 s25 s26 s27 s28 s29 s30 s31 s32 s33 s34 s35 s36 s37 s38 s39 s40 s41 s42 s43 s44 s45 s46 s47 s48 s49 s50 s51 : Value} (hpx : Row wr PX 29 [.slice (some ⟨g, 0, none⟩) n vc]) (hpb : Row wr PB 29 [.slice (some ⟨B, o, none⟩) n cap]) (hk : k < n) (hc : wr.cell? ⟨B, o + k * 3 + 2, none⟩ = some (.slice pa ps.length pc)) (hsl : SlOf 2 RPrp wr pa ps) (hq : qs = woP ps nm) (hb : ps.length ≤ 1000) {v0 : Value} (hgc : wr.cell? ⟨g, k * 3 + 2, none⟩ = some v0 ∧ ∀ W, Gr wr W → W.frozen? ⟨g, k * 3 + 2, none⟩ = false)
    (h' : ∀ t38 t39 t40 t41 t42 t43 t44 t45 t46 t47 t48 t49 t50 wx, Fin7 wr g k qs wx → Q .normal (del8A PB PX k nm t38 t39 t40 t41 t42 t43 t44 t45 t46 t47 t48 t49 t50 s0 s1 s4 s5 s6 s7 s9 s10 s11 s13 s14 s15 s16 s17 s18 s19 s20 s21 s22 s23 s24 s25 s26 s27 s28 s29 s30 s31 s32 s33 s34 s35 s36 s37 s51) wx) :
    (Code.region 8 (regIn 8 Tryz.f16) true).wp Tryz.prog Q { tmps := #[s0, s1, .string (bs nm), .pointer (some ⟨PB, 0, none⟩), s4, s5, s6, s7, .int .i64 (k : Int), s9, s10, s11, .pointer (some ⟨PX, 0, none⟩), s13, s14, s15, s16, s17, s18, s19, s20, s21, s22, s23, s24, s25, s26, s27, s28, s29, s30, s31, s32, s33, s34, s35, s36, s37, s38, s39, s40, s41, s42, s43, s44, s45, s46, s47, s48, s49, s50, s51], defers := [] } wr := by
  have HPX := PLift.up hpx
  have HPB := PLift.up hpb
  have HK0 := PLift.up hk
  have HC := PLift.up hc
  have HSL := PLift.up hsl
  have HQ := PLift.up hq
  have HB := PLift.up hb
  have HGC := PLift.up hgc
  clear hpx hpb hk hc hsl hq hb hgc
  simp only [regIn, Tryz.f16, regOps, Option.bind_some, Option.getD_some, Nat.beq, cond_true, cond_false]
  refine wp_region_steps (fun done a w => ∃ t38 t39 t40 t41 t42 t43 t44 t45 t46 t47 t48 t49 t50, a = del8A PB PX k nm t38 t39 t40 t41 t42 t43 t44 t45 t46 t47 t48 t49 t50 s0 s1 s4 s5 s6 s7 s9 s10 s11 s13 s14 s15 s16 s17 s18 s19 s20 s21 s22 s23 s24 s25 s26 s27 s28 s29 s30 s31 s32 s33 s34 s35 s36 s37 s51 ∧ del8F wr g k B o PB PX n vc cap nm pa pc ps qs t38 t39 t40 t41 t42 t43 t44 t45 t46 t47 t48 t49 t50 done w) (by kernel_rfl) (by kernel_rfl) ?_ ⟨?_, ?_, ?_, ?_, ?_, ?_, ?_, ?_, ?_, ?_, ?_, ?_, ?_, ?_, trivial⟩ ?_
  · exact ⟨s38, s39, s40, s41, s42, s43, s44, s45, s46, s47, s48, s49, s50, rfl, fun _ => (Gr.refl _).drew, fun q => absurd q (by decide), fun q => absurd q (by decide), fun q => absurd q (by decide), fun q => absurd q (by decide), fun q => absurd q (by decide), fun q => absurd q (by decide), fun q => absurd q (by decide), fun q => absurd q (by decide), fun q => absurd q (by decide), fun q => absurd q (by decide), fun q => absurd q (by decide), fun q => absurd q (by decide), fun q => absurd q (by decide), fun q => absurd q (by decide)⟩
  · rintro done a w hsz hnot hdep ⟨t38, t39, t40, t41, t42, t43, t44, t45, t46, t47, t48, t49, t50, rfl, gw, f0, f1, f2, f3, f4, f5, f6, f7, f8, f9, f10, f11, f12, f13⟩ K hK
    have hn : ¬ done.getD 0 false = true := by rw [getD_both hnot]; decide
    have n13 : done.getD 13 false = false := by
      cases e : done.getD 13 false with
      | false => rfl
      | true => exact absurd ((f13 e).1 0 (by decide) (by decide)) hn
    replace gw := gw n13
    have HK := PLift.up hK
    clear hK 
    simp only [del8A]
    go_simp
    have gg : Gr w w := Gr.refl _
    refine HK.down _ _ ⟨_, _, _, _, _, _, _, _, _, _, _, _, _, rfl, fun _ => gw, fun _ => rfl, kp f1, kp f2, kp f3, kp f4, kp f5, kp f6, kp f7, kp f8, kp f9, fun q q2 => f10 (done_old q (by decide)) n13, kp f11, kp f12, fun q => absurd ((f13 (done_old q (by decide))).1 0 (by decide) (by decide)) hn⟩
  · rintro done a w hsz hnot hdep ⟨t38, t39, t40, t41, t42, t43, t44, t45, t46, t47, t48, t49, t50, rfl, gw, f0, f1, f2, f3, f4, f5, f6, f7, f8, f9, f10, f11, f12, f13⟩ K hK
    have hn : ¬ done.getD 1 false = true := by rw [getD_both hnot]; decide
    have d0 := hdep 0 (by kernel_rfl)
    obtain rfl := f0 d0
    have n13 : done.getD 13 false = false := by
      cases e : done.getD 13 false with
      | false => rfl
      | true => exact absurd ((f13 e).1 1 (by decide) (by decide)) hn
    replace gw := gw n13
    have px := HPX.down.gr gw
    have c0 : w.cell? ⟨PX, 0, none⟩ = some (.slice (some ⟨g, 0, none⟩) n vc) := px.cell 0 (by simp)
    have ch := has_of_cell c0
    clear px
    have HK := PLift.up hK
    clear hK d0
    simp only [del8A]
    go_simp
    have gg : Gr w w := Gr.refl _
    refine HK.down _ _ ⟨_, _, _, _, _, _, _, _, _, _, _, _, _, rfl, fun _ => gw, kp f0, fun _ => rfl, kp f2, kp f3, kp f4, kp f5, kp f6, kp f7, kp f8, kp f9, fun q q2 => f10 (done_old q (by decide)) n13, kp f11, kp f12, fun q => absurd ((f13 (done_old q (by decide))).1 1 (by decide) (by decide)) hn⟩
  · rintro done a w hsz hnot hdep ⟨t38, t39, t40, t41, t42, t43, t44, t45, t46, t47, t48, t49, t50, rfl, gw, f0, f1, f2, f3, f4, f5, f6, f7, f8, f9, f10, f11, f12, f13⟩ K hK
    have hn : ¬ done.getD 2 false = true := by rw [getD_both hnot]; decide
    have n13 : done.getD 13 false = false := by
      cases e : done.getD 13 false with
      | false => rfl
      | true => exact absurd ((f13 e).1 2 (by decide) (by decide)) hn
    replace gw := gw n13
    have HK := PLift.up hK
    clear hK 
    simp only [del8A]
    go_simp
    have gg : Gr w w := Gr.refl _
    refine HK.down _ _ ⟨_, _, _, _, _, _, _, _, _, _, _, _, _, rfl, fun _ => gw, kp f0, kp f1, fun _ => rfl, kp f3, kp f4, kp f5, kp f6, kp f7, kp f8, kp f9, fun q q2 => f10 (done_old q (by decide)) n13, kp f11, kp f12, fun q => absurd ((f13 (done_old q (by decide))).1 2 (by decide) (by decide)) hn⟩
  · rintro done a w hsz hnot hdep ⟨t38, t39, t40, t41, t42, t43, t44, t45, t46, t47, t48, t49, t50, rfl, gw, f0, f1, f2, f3, f4, f5, f6, f7, f8, f9, f10, f11, f12, f13⟩ K hK
    have hn : ¬ done.getD 3 false = true := by rw [getD_both hnot]; decide
    have n13 : done.getD 13 false = false := by
      cases e : done.getD 13 false with
      | false => rfl
      | true => exact absurd ((f13 e).1 3 (by decide) (by decide)) hn
    replace gw := gw n13
    have HK := PLift.up hK
    clear hK 
    simp only [del8A]
    go_simp
    have gg : Gr w w := Gr.refl _
    refine HK.down _ _ ⟨_, _, _, _, _, _, _, _, _, _, _, _, _, rfl, fun _ => gw, kp f0, kp f1, kp f2, fun _ => rfl, kp f4, kp f5, kp f6, kp f7, kp f8, kp f9, fun q q2 => f10 (done_old q (by decide)) n13, kp f11, kp f12, fun q => absurd ((f13 (done_old q (by decide))).1 3 (by decide) (by decide)) hn⟩
  · rintro done a w hsz hnot hdep ⟨t38, t39, t40, t41, t42, t43, t44, t45, t46, t47, t48, t49, t50, rfl, gw, f0, f1, f2, f3, f4, f5, f6, f7, f8, f9, f10, f11, f12, f13⟩ K hK
    have hn : ¬ done.getD 4 false = true := by rw [getD_both hnot]; decide
    have d3 := hdep 3 (by kernel_rfl)
    obtain rfl := f3 d3
    have n13 : done.getD 13 false = false := by
      cases e : done.getD 13 false with
      | false => rfl
      | true => exact absurd ((f13 e).1 4 (by decide) (by decide)) hn
    replace gw := gw n13
    have px := HPB.down.gr gw
    have c0 : w.cell? ⟨PB, 0, none⟩ = some (.slice (some ⟨B, o, none⟩) n cap) := px.cell 0 (by simp)
    have ch := has_of_cell c0
    clear px
    have HK := PLift.up hK
    clear hK d3
    simp only [del8A]
    go_simp
    have gg : Gr w w := Gr.refl _
    refine HK.down _ _ ⟨_, _, _, _, _, _, _, _, _, _, _, _, _, rfl, fun _ => gw, kp f0, kp f1, kp f2, kp f3, fun _ => rfl, kp f5, kp f6, kp f7, kp f8, kp f9, fun q q2 => f10 (done_old q (by decide)) n13, kp f11, kp f12, fun q => absurd ((f13 (done_old q (by decide))).1 4 (by decide) (by decide)) hn⟩
  · rintro done a w hsz hnot hdep ⟨t38, t39, t40, t41, t42, t43, t44, t45, t46, t47, t48, t49, t50, rfl, gw, f0, f1, f2, f3, f4, f5, f6, f7, f8, f9, f10, f11, f12, f13⟩ K hK
    have hn : ¬ done.getD 5 false = true := by rw [getD_both hnot]; decide
    have n13 : done.getD 13 false = false := by
      cases e : done.getD 13 false with
      | false => rfl
      | true => exact absurd ((f13 e).1 5 (by decide) (by decide)) hn
    replace gw := gw n13
    have HK := PLift.up hK
    clear hK 
    simp only [del8A]
    go_simp
    have gg : Gr w w := Gr.refl _
    refine HK.down _ _ ⟨_, _, _, _, _, _, _, _, _, _, _, _, _, rfl, fun _ => gw, kp f0, kp f1, kp f2, kp f3, kp f4, fun _ => rfl, kp f6, kp f7, kp f8, kp f9, fun q q2 => f10 (done_old q (by decide)) n13, kp f11, kp f12, fun q => absurd ((f13 (done_old q (by decide))).1 5 (by decide) (by decide)) hn⟩
  · rintro done a w hsz hnot hdep ⟨t38, t39, t40, t41, t42, t43, t44, t45, t46, t47, t48, t49, t50, rfl, gw, f0, f1, f2, f3, f4, f5, f6, f7, f8, f9, f10, f11, f12, f13⟩ K hK
    have hn : ¬ done.getD 6 false = true := by rw [getD_both hnot]; decide
    have d4 := hdep 4 (by kernel_rfl)
    have d5 := hdep 5 (by kernel_rfl)
    obtain rfl := f4 d4
    obtain rfl := f5 d5
    have n13 : done.getD 13 false = false := by
      cases e : done.getD 13 false with
      | false => rfl
      | true => exact absurd ((f13 e).1 6 (by decide) (by decide)) hn
    replace gw := gw n13
    have k1 := HK0.down
    have k2 : (k : Int) < n := by omega
    have HK := PLift.up hK
    clear hK d4 d5
    simp only [del8A]
    go_simp
    have gg : Gr w w := Gr.refl _
    refine HK.down _ _ ⟨_, _, _, _, _, _, _, _, _, _, _, _, _, rfl, fun _ => gw, kp f0, kp f1, kp f2, kp f3, kp f4, kp f5, fun _ => rfl, kp f7, kp f8, kp f9, fun q q2 => f10 (done_old q (by decide)) n13, kp f11, kp f12, fun q => absurd ((f13 (done_old q (by decide))).1 6 (by decide) (by decide)) hn⟩
  · rintro done a w hsz hnot hdep ⟨t38, t39, t40, t41, t42, t43, t44, t45, t46, t47, t48, t49, t50, rfl, gw, f0, f1, f2, f3, f4, f5, f6, f7, f8, f9, f10, f11, f12, f13⟩ K hK
    have hn : ¬ done.getD 7 false = true := by rw [getD_both hnot]; decide
    have d6 := hdep 6 (by kernel_rfl)
    obtain rfl := f6 d6
    have n13 : done.getD 13 false = false := by
      cases e : done.getD 13 false with
      | false => rfl
      | true => exact absurd ((f13 e).1 7 (by decide) (by decide)) hn
    replace gw := gw n13
    have c0 := cell_gr gw HC.down
    have ch := has_of_cell c0
    have HK := PLift.up hK
    clear hK d6
    simp only [del8A]
    go_simp
    have gg : Gr w w := Gr.refl _
    refine HK.down _ _ ⟨_, _, _, _, _, _, _, _, _, _, _, _, _, rfl, fun _ => gw, kp f0, kp f1, kp f2, kp f3, kp f4, kp f5, kp f6, fun _ => rfl, kp f8, kp f9, fun q q2 => f10 (done_old q (by decide)) n13, kp f11, kp f12, fun q => absurd ((f13 (done_old q (by decide))).1 7 (by decide) (by decide)) hn⟩
  · rintro done a w hsz hnot hdep ⟨t38, t39, t40, t41, t42, t43, t44, t45, t46, t47, t48, t49, t50, rfl, gw, f0, f1, f2, f3, f4, f5, f6, f7, f8, f9, f10, f11, f12, f13⟩ K hK
    have hn : ¬ done.getD 8 false = true := by rw [getD_both hnot]; decide
    have d7 := hdep 7 (by kernel_rfl)
    obtain rfl := f7 d7
    have n13 : done.getD 13 false = false := by
      cases e : done.getD 13 false with
      | false => rfl
      | true => exact absurd ((f13 e).1 8 (by decide) (by decide)) hn
    replace gw := gw n13
    have c0 := cell_gr gw HC.down
    have ch := has_of_cell c0
    have HK := PLift.up hK
    clear hK d7
    simp only [del8A]
    go_simp
    have gg : Gr w w := Gr.refl _
    refine HK.down _ _ ⟨_, _, _, _, _, _, _, _, _, _, _, _, _, rfl, fun _ => gw, kp f0, kp f1, kp f2, kp f3, kp f4, kp f5, kp f6, kp f7, fun _ => rfl, kp f9, fun q q2 => f10 (done_old q (by decide)) n13, kp f11, kp f12, fun q => absurd ((f13 (done_old q (by decide))).1 8 (by decide) (by decide)) hn⟩
  · rintro done a w hsz hnot hdep ⟨t38, t39, t40, t41, t42, t43, t44, t45, t46, t47, t48, t49, t50, rfl, gw, f0, f1, f2, f3, f4, f5, f6, f7, f8, f9, f10, f11, f12, f13⟩ K hK
    have hn : ¬ done.getD 9 false = true := by rw [getD_both hnot]; decide
    have n13 : done.getD 13 false = false := by
      cases e : done.getD 13 false with
      | false => rfl
      | true => exact absurd ((f13 e).1 9 (by decide) (by decide)) hn
    replace gw := gw n13
    have HK := PLift.up hK
    clear hK 
    simp only [del8A]
    go_simp
    have gg : Gr w w := Gr.refl _
    refine HK.down _ _ ⟨_, _, _, _, _, _, _, _, _, _, _, _, _, rfl, fun _ => gw, kp f0, kp f1, kp f2, kp f3, kp f4, kp f5, kp f6, kp f7, kp f8, fun _ => rfl, fun q q2 => f10 (done_old q (by decide)) n13, kp f11, kp f12, fun q => absurd ((f13 (done_old q (by decide))).1 9 (by decide) (by decide)) hn⟩
  · rintro done a w hsz hnot hdep ⟨t38, t39, t40, t41, t42, t43, t44, t45, t46, t47, t48, t49, t50, rfl, gw, f0, f1, f2, f3, f4, f5, f6, f7, f8, f9, f10, f11, f12, f13⟩ K hK
    have hn : ¬ done.getD 10 false = true := by rw [getD_both hnot]; decide
    have d8 := hdep 8 (by kernel_rfl)
    have d9 := hdep 9 (by kernel_rfl)
    obtain rfl := f8 d8
    obtain rfl := f9 d9
    have n13 : done.getD 13 false = false := by
      cases e : done.getD 13 false with
      | false => rfl
      | true => exact absurd ((f13 e).1 10 (by decide) (by decide)) hn
    replace gw := gw n13
    have GW := PLift.up gw
    have GS := PLift.up gw.size
    have HK := PLift.up hK
    clear hK d8 d9
    simp only [del8A]
    go_simp
    refine (rWithout_any ps pa pc nm w (HSL.down.gr RPrp.mono GW.down) HB.down).mono ?_
    rintro e w2 ⟨v, rfl, ho, hg⟩
    rw [← HQ.down] at ho
    obtain ⟨x, c, rfl⟩ := owns_slice ho
    (try go_simp)
    refine HK.down _ _ ⟨_, _, _, _, _, _, _, _, _, _, _, _, _, rfl, fun _ => GW.down.trans hg, kp f0, kp f1, kp f2, kp f3, kp f4, kp f5, kp f6, kp f7, kp f8, kp f9, ?_, kp f11, kp f12, fun q => absurd ((f13 (done_old q (by decide))).1 10 (by decide) (by decide)) hn⟩
    exact fun _ _ => ⟨x, c, rfl, owns_low ho GS.down⟩
  · rintro done a w hsz hnot hdep ⟨t38, t39, t40, t41, t42, t43, t44, t45, t46, t47, t48, t49, t50, rfl, gw, f0, f1, f2, f3, f4, f5, f6, f7, f8, f9, f10, f11, f12, f13⟩ K hK
    have hn : ¬ done.getD 11 false = true := by rw [getD_both hnot]; decide
    have d1 := hdep 1 (by kernel_rfl)
    have d2 := hdep 2 (by kernel_rfl)
    obtain rfl := f1 d1
    obtain rfl := f2 d2
    have k1 := HK0.down
    have k2 : (k : Int) < n := by omega
    have HK := PLift.up hK
    clear hK d1 d2
    simp only [del8A]
    go_simp
    have gg : Gr w w := Gr.refl _
    refine HK.down _ _ ⟨_, _, _, _, _, _, _, _, _, _, _, _, _, rfl, fun q => gw (by rw [getD_set_ne false (by decide)] at q; exact q), kp f0, kp f1, kp f2, kp f3, kp f4, kp f5, kp f6, kp f7, kp f8, kp f9, fun q q2 => f10 (done_old q (by decide)) (by rw [getD_set_ne false (by decide)] at q2; exact q2), fun _ => rfl, kp f12, fun q => ⟨fun j hj hne => getD_set_true ((f13 (done_old q (by decide))).1 j hj hne), (f13 (done_old q (by decide))).2⟩⟩
  · rintro done a w hsz hnot hdep ⟨t38, t39, t40, t41, t42, t43, t44, t45, t46, t47, t48, t49, t50, rfl, gw, f0, f1, f2, f3, f4, f5, f6, f7, f8, f9, f10, f11, f12, f13⟩ K hK
    have hn : ¬ done.getD 12 false = true := by rw [getD_both hnot]; decide
    have d11 := hdep 11 (by kernel_rfl)
    obtain rfl := f11 d11
    have n13 : done.getD 13 false = false := by
      cases e : done.getD 13 false with
      | false => rfl
      | true => exact absurd ((f13 e).1 12 (by decide) (by decide)) hn
    replace gw := gw n13
    have c0 := cell_gr gw HGC.down.1
    have ch := has_of_cell c0
    have HK := PLift.up hK
    clear hK d11
    simp only [del8A]
    go_simp
    have gg : Gr w w := Gr.refl _
    refine HK.down _ _ ⟨_, _, _, _, _, _, _, _, _, _, _, _, _, rfl, fun _ => gw, kp f0, kp f1, kp f2, kp f3, kp f4, kp f5, kp f6, kp f7, kp f8, kp f9, fun q q2 => f10 (done_old q (by decide)) n13, kp f11, fun _ => rfl, fun q => absurd ((f13 (done_old q (by decide))).1 12 (by decide) (by decide)) hn⟩
  · rintro done a w hsz hnot hdep ⟨t38, t39, t40, t41, t42, t43, t44, t45, t46, t47, t48, t49, t50, rfl, gw, f0, f1, f2, f3, f4, f5, f6, f7, f8, f9, f10, f11, f12, f13⟩ K hK
    have hn : ¬ done.getD 13 false = true := by rw [getD_both hnot]; decide
    have d0 := hdep 0 (by kernel_rfl)
    have d1 := hdep 1 (by kernel_rfl)
    have d2 := hdep 2 (by kernel_rfl)
    have d3 := hdep 3 (by kernel_rfl)
    have d4 := hdep 4 (by kernel_rfl)
    have d5 := hdep 5 (by kernel_rfl)
    have d6 := hdep 6 (by kernel_rfl)
    have d7 := hdep 7 (by kernel_rfl)
    have d8 := hdep 8 (by kernel_rfl)
    have d9 := hdep 9 (by kernel_rfl)
    have d10 := hdep 10 (by kernel_rfl)
    have d12 := hdep 12 (by kernel_rfl)
    obtain rfl := f0 d0
    obtain rfl := f1 d1
    obtain rfl := f2 d2
    obtain rfl := f3 d3
    obtain rfl := f4 d4
    obtain rfl := f5 d5
    obtain rfl := f6 d6
    obtain rfl := f7 d7
    obtain rfl := f8 d8
    obtain rfl := f9 d9
    obtain rfl := f12 d12
    have n13 := getD_both hnot
    obtain ⟨x, c, rfl, ho⟩ := f10 d10 n13
    have g1 := gw n13
    have c2 := cell_gr g1 HGC.down.1
    have ch := has_of_cell c2
    have cf := HGC.down.2 w g1
    have FN := PLift.up (show Fin7 wr g k qs (w.setCell ⟨g, k * 3 + 2, none⟩ (.slice x qs.length c)) from ⟨w, x, c, rfl, g1, ho⟩)
    have DD := PLift.up (show ∀ j, j < 13 → j ≠ 11 → done.getD j false = true from by intro j hj hne; match j, hj, hne with | 0, _, _ => exact d0 | 1, _, _ => exact d1 | 2, _, _ => exact d2 | 3, _, _ => exact d3 | 4, _, _ => exact d4 | 5, _, _ => exact d5 | 6, _, _ => exact d6 | 7, _, _ => exact d7 | 8, _, _ => exact d8 | 9, _, _ => exact d9 | 10, _, _ => exact d10 | 11, _, h => exact absurd rfl h | 12, _, _ => exact d12)
    have HK := PLift.up hK
    clear hK d0 d1 d2 d3 d4 d5 d6 d7 d8 d9 d12
    simp only [del8A]
    go_simp
    refine HK.down _ _ ⟨_, _, _, _, _, _, _, _, _, _, _, _, _, rfl, fun q => absurd q (by rw [getD_set_same (by rw [hsz]; decide)]; decide), kp f0, kp f1, kp f2, kp f3, kp f4, kp f5, kp f6, kp f7, kp f8, kp f9, fun _ q2 => absurd q2 (by rw [getD_set_same (by rw [hsz]; decide)]; decide), kp f11, kp f12, ?_⟩
    exact fun _ => ⟨fun j hj hne => getD_set_true (DD.down j hj hne), FN.down⟩
  · rintro done a w hall ⟨t38, t39, t40, t41, t42, t43, t44, t45, t46, t47, t48, t49, t50, rfl, gw, f0, f1, f2, f3, f4, f5, f6, f7, f8, f9, f10, f11, f12, f13⟩
    exact h' _ _ _ _ _ _ _ _ _ _ _ _ _ w (f13 (hall 13 (by decide))).2
end Go.Proofs.YtbpkndiecomggaaGreatDoor
