/- Lemmas and contracts for the proof of ConformOpen (several texts in one, printed by wip/tools/pack.py): VcM VcN VcO VcP VcQ VcR WaA WaB WaC WcA WcB. -/
import Derived.Test.YtbpkndiecomggaaGreatDoorCo1n
import Derived.Test.YtbpkndiecomggaaGreatDoorCo1c
set_option maxRecDepth 100000
set_option maxHeartbeats 16000000
set_option linter.unusedVariables false
set_option linter.unusedSimpArgs false
namespace Go.Proofs.YtbpkndiecomggaaGreatDoor
open Go.RowKit
open Classical
theorem compatible_in : ([99, 111, 109, 112, 97, 116, 105, 98, 108, 101] : St) ∈ namesV := by
  have q : namesV.contains ([99, 111, 109, 112, 97, 116, 105, 98, 108, 101] : St) = true := by kernel_rfl
  simpa using q
def comps4 (c : St) : List St := [c ++ [0], [110, 111, 110, 101, 0] ++ c ++ [0], [110, 111, 110, 101, 0], c]
def FinM (wr : World) (b len PT base n : Nat) (w : World) : Prop :=
  ∃ (w1 : World) (v : Value) (m2 : List NM), w = w1.setCell ⟨PT, 0, none⟩ v ∧ Mv b len wr w1 ∧ Row w PT 29 [v] ∧ TrAt base w v m2 ∧ VB (m2.map NM.n) ∧ m2.length = n
def brd8F (wr : World) (b len PT n cap base : Nat) (s c : St) (ad : Option Addr) (ms : List NM) (t32 t33 t34 t35 t36 t37 t38 t39 t40 t41 t42 t43 t44 t45 t46 : Value) (d : Array Bool) (w : World) : Prop :=
  (d.getD 15 false = false → Mv b len wr w ∧ Row w PT 29 [.slice ad n cap]) ∧ (d.getD 0 false = true → t32 = .agg #[.slice ad n cap]) ∧
  (d.getD 1 false = true → t33 = .string (bs s)) ∧
  (d.getD 2 false = true → t34 = .string (bs c)) ∧
  (d.getD 3 false = true → t35 = .string (bs (c ++ [0]))) ∧
  (d.getD 4 false = true → t36 = .string (bs c)) ∧
  (d.getD 5 false = true → t37 = .string (bs ([110, 111, 110, 101, 0] ++ c))) ∧
  (d.getD 6 false = true → t38 = .string (bs ([110, 111, 110, 101, 0] ++ c ++ [0]))) ∧
  (d.getD 7 false = true → t39 = .string (bs c)) ∧
  (d.getD 8 false = true → ∃ B, t40 = .slice (some ⟨B, 0, none⟩) 4 4 ∧ B ≠ b ∧ (d.getD 15 false = false → Row w B 9 (strV (comps4 c)))) ∧
  (d.getD 9 false = true → t41 = .pointer (some ⟨b, 0, none⟩)) ∧
  (d.getD 10 false = true → ∃ B, t42 = .slice (some ⟨B, 0, none⟩) 6 6 ∧ B ≠ b ∧ (d.getD 15 false = false → Row w B 3 (nums [0, 0, 0, 1, 2, 3]))) ∧
  (d.getD 11 false = true → ∃ k : Nat, t43 = .int .i64 (k : Int) ∧ k < 4) ∧
  (d.getD 12 false = true → (d.getD 8 false = true ∧ ∃ (B k : Nat), t40 = .slice (some ⟨B, 0, none⟩) 4 4 ∧ t44 = .pointer (some ⟨B, k, none⟩) ∧ k < 4)) ∧
  (d.getD 13 false = true → ∃ z : St, t45 = .string (bs z) ∧ z.length ≤ 100) ∧
  (d.getD 14 false = true → (d.getD 15 false = false → ∃ (v : Value) (m2 : List NM), t46 = .agg #[v] ∧ TrAt base w v m2 ∧ VB (m2.map NM.n) ∧ m2.length = n)) ∧
  (d.getD 15 false = true → ((∀ j, j < 15 → d.getD j false = true) ∧ FinM wr b len PT base n w))
def brd8A (b PT : Nat) (s c : St) (t32 t33 t34 t35 t36 t37 t38 t39 t40 t41 t42 t43 t44 t45 t46 s1 s2 s3 s4 s5 s6 s8 s11 s12 s13 s14 s15 s16 s17 s18 s19 s20 s21 s22 s23 s24 s25 s26 s27 s28 s29 s30 s31 s47 s48 s49 s50 s51 s52 s53 s54 s55 s56 s57 s58 s59 s60 s61 s62 s63 s64 s65 s66 s67 s68 s69 s70 s71 s72 s73 s74 s75 s76 s77 s78 s79 s80 s81 s82 s83 s84 s85 s86 s87 s88 : Value) : Act := { tmps := #[.pointer (some ⟨b, 0, none⟩), s1, s2, s3, s4, s5, s6, .pointer (some ⟨PT, 0, none⟩), s8, .string (bs s), .string (bs c), s11, s12, s13, s14, s15, s16, s17, s18, s19, s20, s21, s22, s23, s24, s25, s26, s27, s28, s29, s30, s31, t32, t33, t34, t35, t36, t37, t38, t39, t40, t41, t42, t43, t44, t45, t46, s47, s48, s49, s50, s51, s52, s53, s54, s55, s56, s57, s58, s59, s60, s61, s62, s63, s64, s65, s66, s67, s68, s69, s70, s71, s72, s73, s74, s75, s76, s77, s78, s79, s80, s81, s82, s83, s84, s85, s86, s87, s88], defers := [] }
theorem brd8 {Q : Exit → Act → World → Prop} {wr : World} {b len PT n cap base : Nat} {s c : St} {ad : Option Addr} {ms : List NM}  {s1 s2 s3 s4 s5 s6 s8 s11 s12 s13 s14 s15 s16 s17 s18 s19 s20 s21 s22 s23 s24 s25 s26 s27 s28 s29 s30 s31 s32 s33 s34 s35 s36 s37 s38 s39 s40 s41 s42 s43 s44 s45 s46 s47 s48 s49 s50 s51 s52 s53 s54 s55 s56 s57 s58 s59 s60 s61 s62 s63 s64 s65 s66 s67 s68 s69 s70 s71 s72 s73 s74 s75 s76 s77 s78 s79 s80 s81 s82 s83 s84 s85 s86 s87 s88 : Value} (htp : Tp wr b len) (hrow : Row wr PT 29 [.slice ad n cap]) (hnb : PT ≠ b) (hnb2 : b < base) (hb0 : base ≤ wr.heap.size) (hc : c.length ≤ 31) (hv : VB (ms.map NM.n)) (htr : TrAt base wr (.slice ad n cap) ms)
    (h' : ∀ t32 t33 t34 t35 t36 t37 t38 t39 t40 t41 t42 t43 t44 t45 t46 wx, FinM wr b len PT base n wx → Q .normal (brd8A b PT s c t32 t33 t34 t35 t36 t37 t38 t39 t40 t41 t42 t43 t44 t45 t46 s1 s2 s3 s4 s5 s6 s8 s11 s12 s13 s14 s15 s16 s17 s18 s19 s20 s21 s22 s23 s24 s25 s26 s27 s28 s29 s30 s31 s47 s48 s49 s50 s51 s52 s53 s54 s55 s56 s57 s58 s59 s60 s61 s62 s63 s64 s65 s66 s67 s68 s69 s70 s71 s72 s73 s74 s75 s76 s77 s78 s79 s80 s81 s82 s83 s84 s85 s86 s87 s88) wx) :
    (Code.region 8 (regIn 8 Tryz.f10) true).wp Tryz.prog Q { tmps := #[.pointer (some ⟨b, 0, none⟩), s1, s2, s3, s4, s5, s6, .pointer (some ⟨PT, 0, none⟩), s8, .string (bs s), .string (bs c), s11, s12, s13, s14, s15, s16, s17, s18, s19, s20, s21, s22, s23, s24, s25, s26, s27, s28, s29, s30, s31, s32, s33, s34, s35, s36, s37, s38, s39, s40, s41, s42, s43, s44, s45, s46, s47, s48, s49, s50, s51, s52, s53, s54, s55, s56, s57, s58, s59, s60, s61, s62, s63, s64, s65, s66, s67, s68, s69, s70, s71, s72, s73, s74, s75, s76, s77, s78, s79, s80, s81, s82, s83, s84, s85, s86, s87, s88], defers := [] } wr := by
  have HTP := PLift.up htp
  have HRW := PLift.up hrow
  have HNB := PLift.up hnb
  have HNB2 := PLift.up hnb2
  have HB0 := PLift.up hb0
  have HC := PLift.up hc
  have HV := PLift.up hv
  have HTR := PLift.up htr
  have HBS := PLift.up htp.has
  clear htp hrow hnb hnb2 hb0 hc hv htr
  simp only [regIn, Tryz.f10, regOps, Option.bind_some, Option.getD_some, Nat.beq, cond_true, cond_false]
  refine wp_region_steps (fun done a w => ∃ t32 t33 t34 t35 t36 t37 t38 t39 t40 t41 t42 t43 t44 t45 t46, a = brd8A b PT s c t32 t33 t34 t35 t36 t37 t38 t39 t40 t41 t42 t43 t44 t45 t46 s1 s2 s3 s4 s5 s6 s8 s11 s12 s13 s14 s15 s16 s17 s18 s19 s20 s21 s22 s23 s24 s25 s26 s27 s28 s29 s30 s31 s47 s48 s49 s50 s51 s52 s53 s54 s55 s56 s57 s58 s59 s60 s61 s62 s63 s64 s65 s66 s67 s68 s69 s70 s71 s72 s73 s74 s75 s76 s77 s78 s79 s80 s81 s82 s83 s84 s85 s86 s87 s88 ∧ brd8F wr b len PT n cap base s c ad ms t32 t33 t34 t35 t36 t37 t38 t39 t40 t41 t42 t43 t44 t45 t46 done w) (by kernel_rfl) (by kernel_rfl) ?_ ⟨?_, ?_, ?_, ?_, ?_, ?_, ?_, ?_, ?_, ?_, ?_, ?_, ?_, ?_, ?_, ?_, trivial⟩ ?_
  · exact ⟨s32, s33, s34, s35, s36, s37, s38, s39, s40, s41, s42, s43, s44, s45, s46, rfl, fun _ => ⟨Mv.of_gr HTP.down (Gr.refl _).drew, HRW.down.drew⟩, fun q => absurd q (by decide), fun q => absurd q (by decide), fun q => absurd q (by decide), fun q => absurd q (by decide), fun q => absurd q (by decide), fun q => absurd q (by decide), fun q => absurd q (by decide), fun q => absurd q (by decide), fun q => absurd q (by decide), fun q => absurd q (by decide), fun q => absurd q (by decide), fun q => absurd q (by decide), fun q => absurd q (by decide), fun q => absurd q (by decide), fun q => absurd q (by decide), fun q => absurd q (by decide)⟩
  · rintro done a w hsz hnot hdep ⟨t32, t33, t34, t35, t36, t37, t38, t39, t40, t41, t42, t43, t44, t45, t46, rfl, gw, f0, f1, f2, f3, f4, f5, f6, f7, f8, f9, f10, f11, f12, f13, f14, f15⟩ K hK
    have hn : ¬ done.getD 0 false = true := by rw [getD_both hnot]; decide
    have n15 : done.getD 15 false = false := by
      cases e : done.getD 15 false with
      | false => rfl
      | true => exact absurd ((f15 e).1 0 (by decide)) hn
    replace gw := gw n15
    have c0 : w.cell? ⟨PT, 0, none⟩ = some (.slice ad n cap) := gw.2.cell 0 (by simp)
    have ch := has_of_cell c0
    have HK := PLift.up hK
    clear hK 
    simp only [brd8A]
    go_simp
    have gg : Gr w w := Gr.refl _
    refine HK.down _ _ ⟨_, _, _, _, _, _, _, _, _, _, _, _, _, _, _, rfl, fun _ => gw, fun _ => rfl, kp f1, kp f2, kp f3, kp f4, kp f5, kp f6, kp f7, fun q => (let ⟨B, e, h2, h3⟩ := f8 (done_old q (by decide)); ⟨B, e, h2, fun q2 => (h3 n15).gr gg⟩), kp f9, fun q => (let ⟨B, e, h2, h3⟩ := f10 (done_old q (by decide)); ⟨B, e, h2, fun q2 => (h3 n15).gr gg⟩), kp f11, fun q => (let h := f12 (done_old q (by decide)); ⟨getD_set_true h.1, h.2⟩), kp f13, fun q q2 => (let ⟨v, m2, e, h1, h2⟩ := f14 (done_old q (by decide)) n15; ⟨v, m2, e, h1.gr gg, h2⟩), fun q => absurd ((f15 (done_old q (by decide))).1 0 (by decide)) hn⟩
  · rintro done a w hsz hnot hdep ⟨t32, t33, t34, t35, t36, t37, t38, t39, t40, t41, t42, t43, t44, t45, t46, rfl, gw, f0, f1, f2, f3, f4, f5, f6, f7, f8, f9, f10, f11, f12, f13, f14, f15⟩ K hK
    have hn : ¬ done.getD 1 false = true := by rw [getD_both hnot]; decide
    have n15 : done.getD 15 false = false := by
      cases e : done.getD 15 false with
      | false => rfl
      | true => exact absurd ((f15 e).1 1 (by decide)) hn
    replace gw := gw n15
    have HK := PLift.up hK
    clear hK 
    simp only [brd8A]
    go_simp
    have gg : Gr w w := Gr.refl _
    refine HK.down _ _ ⟨_, _, _, _, _, _, _, _, _, _, _, _, _, _, _, rfl, fun _ => gw, kp f0, fun _ => rfl, kp f2, kp f3, kp f4, kp f5, kp f6, kp f7, fun q => (let ⟨B, e, h2, h3⟩ := f8 (done_old q (by decide)); ⟨B, e, h2, fun q2 => (h3 n15).gr gg⟩), kp f9, fun q => (let ⟨B, e, h2, h3⟩ := f10 (done_old q (by decide)); ⟨B, e, h2, fun q2 => (h3 n15).gr gg⟩), kp f11, fun q => (let h := f12 (done_old q (by decide)); ⟨getD_set_true h.1, h.2⟩), kp f13, fun q q2 => (let ⟨v, m2, e, h1, h2⟩ := f14 (done_old q (by decide)) n15; ⟨v, m2, e, h1.gr gg, h2⟩), fun q => absurd ((f15 (done_old q (by decide))).1 1 (by decide)) hn⟩
  · rintro done a w hsz hnot hdep ⟨t32, t33, t34, t35, t36, t37, t38, t39, t40, t41, t42, t43, t44, t45, t46, rfl, gw, f0, f1, f2, f3, f4, f5, f6, f7, f8, f9, f10, f11, f12, f13, f14, f15⟩ K hK
    have hn : ¬ done.getD 2 false = true := by rw [getD_both hnot]; decide
    have n15 : done.getD 15 false = false := by
      cases e : done.getD 15 false with
      | false => rfl
      | true => exact absurd ((f15 e).1 2 (by decide)) hn
    replace gw := gw n15
    have HK := PLift.up hK
    clear hK 
    simp only [brd8A]
    go_simp
    have gg : Gr w w := Gr.refl _
    refine HK.down _ _ ⟨_, _, _, _, _, _, _, _, _, _, _, _, _, _, _, rfl, fun _ => gw, kp f0, kp f1, fun _ => rfl, kp f3, kp f4, kp f5, kp f6, kp f7, fun q => (let ⟨B, e, h2, h3⟩ := f8 (done_old q (by decide)); ⟨B, e, h2, fun q2 => (h3 n15).gr gg⟩), kp f9, fun q => (let ⟨B, e, h2, h3⟩ := f10 (done_old q (by decide)); ⟨B, e, h2, fun q2 => (h3 n15).gr gg⟩), kp f11, fun q => (let h := f12 (done_old q (by decide)); ⟨getD_set_true h.1, h.2⟩), kp f13, fun q q2 => (let ⟨v, m2, e, h1, h2⟩ := f14 (done_old q (by decide)) n15; ⟨v, m2, e, h1.gr gg, h2⟩), fun q => absurd ((f15 (done_old q (by decide))).1 2 (by decide)) hn⟩
  · rintro done a w hsz hnot hdep ⟨t32, t33, t34, t35, t36, t37, t38, t39, t40, t41, t42, t43, t44, t45, t46, rfl, gw, f0, f1, f2, f3, f4, f5, f6, f7, f8, f9, f10, f11, f12, f13, f14, f15⟩ K hK
    have hn : ¬ done.getD 3 false = true := by rw [getD_both hnot]; decide
    have d2 := hdep 2 (by kernel_rfl)
    obtain rfl := f2 d2
    have n15 : done.getD 15 false = false := by
      cases e : done.getD 15 false with
      | false => rfl
      | true => exact absurd ((f15 e).1 3 (by decide)) hn
    replace gw := gw n15
    have hcl := HC.down
    have if1 : ¬ 9223372036854775807 < c.length + 1 := by omega
    have HK := PLift.up hK
    clear hK d2
    simp only [brd8A]
    go_simp
    (try rw [if_neg if1])
    (try go_simp)
    (try rw [show (bs c ++ (⟨#[0]⟩ : ByteArray)) = bs (c ++ [0]) from bs_append c [0]])
    have gg : Gr w w := Gr.refl _
    refine HK.down _ _ ⟨_, _, _, _, _, _, _, _, _, _, _, _, _, _, _, rfl, fun _ => gw, kp f0, kp f1, kp f2, fun _ => rfl, kp f4, kp f5, kp f6, kp f7, fun q => (let ⟨B, e, h2, h3⟩ := f8 (done_old q (by decide)); ⟨B, e, h2, fun q2 => (h3 n15).gr gg⟩), kp f9, fun q => (let ⟨B, e, h2, h3⟩ := f10 (done_old q (by decide)); ⟨B, e, h2, fun q2 => (h3 n15).gr gg⟩), kp f11, fun q => (let h := f12 (done_old q (by decide)); ⟨getD_set_true h.1, h.2⟩), kp f13, fun q q2 => (let ⟨v, m2, e, h1, h2⟩ := f14 (done_old q (by decide)) n15; ⟨v, m2, e, h1.gr gg, h2⟩), fun q => absurd ((f15 (done_old q (by decide))).1 3 (by decide)) hn⟩
  · rintro done a w hsz hnot hdep ⟨t32, t33, t34, t35, t36, t37, t38, t39, t40, t41, t42, t43, t44, t45, t46, rfl, gw, f0, f1, f2, f3, f4, f5, f6, f7, f8, f9, f10, f11, f12, f13, f14, f15⟩ K hK
    have hn : ¬ done.getD 4 false = true := by rw [getD_both hnot]; decide
    have n15 : done.getD 15 false = false := by
      cases e : done.getD 15 false with
      | false => rfl
      | true => exact absurd ((f15 e).1 4 (by decide)) hn
    replace gw := gw n15
    have HK := PLift.up hK
    clear hK 
    simp only [brd8A]
    go_simp
    have gg : Gr w w := Gr.refl _
    refine HK.down _ _ ⟨_, _, _, _, _, _, _, _, _, _, _, _, _, _, _, rfl, fun _ => gw, kp f0, kp f1, kp f2, kp f3, fun _ => rfl, kp f5, kp f6, kp f7, fun q => (let ⟨B, e, h2, h3⟩ := f8 (done_old q (by decide)); ⟨B, e, h2, fun q2 => (h3 n15).gr gg⟩), kp f9, fun q => (let ⟨B, e, h2, h3⟩ := f10 (done_old q (by decide)); ⟨B, e, h2, fun q2 => (h3 n15).gr gg⟩), kp f11, fun q => (let h := f12 (done_old q (by decide)); ⟨getD_set_true h.1, h.2⟩), kp f13, fun q q2 => (let ⟨v, m2, e, h1, h2⟩ := f14 (done_old q (by decide)) n15; ⟨v, m2, e, h1.gr gg, h2⟩), fun q => absurd ((f15 (done_old q (by decide))).1 4 (by decide)) hn⟩
  · rintro done a w hsz hnot hdep ⟨t32, t33, t34, t35, t36, t37, t38, t39, t40, t41, t42, t43, t44, t45, t46, rfl, gw, f0, f1, f2, f3, f4, f5, f6, f7, f8, f9, f10, f11, f12, f13, f14, f15⟩ K hK
    have hn : ¬ done.getD 5 false = true := by rw [getD_both hnot]; decide
    have d4 := hdep 4 (by kernel_rfl)
    obtain rfl := f4 d4
    have n15 : done.getD 15 false = false := by
      cases e : done.getD 15 false with
      | false => rfl
      | true => exact absurd ((f15 e).1 5 (by decide)) hn
    replace gw := gw n15
    have hcl := HC.down
    have if1 : ¬ 9223372036854775807 < 5 + c.length := by omega
    have HK := PLift.up hK
    clear hK d4
    simp only [brd8A]
    go_simp
    (try rw [if_neg if1])
    (try go_simp)
    (try rw [show ((⟨#[110, 111, 110, 101, 0]⟩ : ByteArray) ++ bs c) = bs ([110, 111, 110, 101, 0] ++ c) from bs_append [110, 111, 110, 101, 0] c])
    have gg : Gr w w := Gr.refl _
    refine HK.down _ _ ⟨_, _, _, _, _, _, _, _, _, _, _, _, _, _, _, rfl, fun _ => gw, kp f0, kp f1, kp f2, kp f3, kp f4, fun _ => rfl, kp f6, kp f7, fun q => (let ⟨B, e, h2, h3⟩ := f8 (done_old q (by decide)); ⟨B, e, h2, fun q2 => (h3 n15).gr gg⟩), kp f9, fun q => (let ⟨B, e, h2, h3⟩ := f10 (done_old q (by decide)); ⟨B, e, h2, fun q2 => (h3 n15).gr gg⟩), kp f11, fun q => (let h := f12 (done_old q (by decide)); ⟨getD_set_true h.1, h.2⟩), kp f13, fun q q2 => (let ⟨v, m2, e, h1, h2⟩ := f14 (done_old q (by decide)) n15; ⟨v, m2, e, h1.gr gg, h2⟩), fun q => absurd ((f15 (done_old q (by decide))).1 5 (by decide)) hn⟩
  · rintro done a w hsz hnot hdep ⟨t32, t33, t34, t35, t36, t37, t38, t39, t40, t41, t42, t43, t44, t45, t46, rfl, gw, f0, f1, f2, f3, f4, f5, f6, f7, f8, f9, f10, f11, f12, f13, f14, f15⟩ K hK
    have hn : ¬ done.getD 6 false = true := by rw [getD_both hnot]; decide
    have d5 := hdep 5 (by kernel_rfl)
    obtain rfl := f5 d5
    have n15 : done.getD 15 false = false := by
      cases e : done.getD 15 false with
      | false => rfl
      | true => exact absurd ((f15 e).1 6 (by decide)) hn
    replace gw := gw n15
    have hcl := HC.down
    have HK := PLift.up hK
    clear hK d5
    simp only [brd8A]
    go_simp
    (try rw [if_neg (by simp; omega)])
    (try go_simp)
    (try rw [show (bs ([110, 111, 110, 101, 0] ++ c) ++ (⟨#[0]⟩ : ByteArray)) = bs ([110, 111, 110, 101, 0] ++ c ++ [0]) from bs_append _ [0]])
    have gg : Gr w w := Gr.refl _
    refine HK.down _ _ ⟨_, _, _, _, _, _, _, _, _, _, _, _, _, _, _, rfl, fun _ => gw, kp f0, kp f1, kp f2, kp f3, kp f4, kp f5, fun _ => rfl, kp f7, fun q => (let ⟨B, e, h2, h3⟩ := f8 (done_old q (by decide)); ⟨B, e, h2, fun q2 => (h3 n15).gr gg⟩), kp f9, fun q => (let ⟨B, e, h2, h3⟩ := f10 (done_old q (by decide)); ⟨B, e, h2, fun q2 => (h3 n15).gr gg⟩), kp f11, fun q => (let h := f12 (done_old q (by decide)); ⟨getD_set_true h.1, h.2⟩), kp f13, fun q q2 => (let ⟨v, m2, e, h1, h2⟩ := f14 (done_old q (by decide)) n15; ⟨v, m2, e, h1.gr gg, h2⟩), fun q => absurd ((f15 (done_old q (by decide))).1 6 (by decide)) hn⟩
  · rintro done a w hsz hnot hdep ⟨t32, t33, t34, t35, t36, t37, t38, t39, t40, t41, t42, t43, t44, t45, t46, rfl, gw, f0, f1, f2, f3, f4, f5, f6, f7, f8, f9, f10, f11, f12, f13, f14, f15⟩ K hK
    have hn : ¬ done.getD 7 false = true := by rw [getD_both hnot]; decide
    have n15 : done.getD 15 false = false := by
      cases e : done.getD 15 false with
      | false => rfl
      | true => exact absurd ((f15 e).1 7 (by decide)) hn
    replace gw := gw n15
    have HK := PLift.up hK
    clear hK 
    simp only [brd8A]
    go_simp
    have gg : Gr w w := Gr.refl _
    refine HK.down _ _ ⟨_, _, _, _, _, _, _, _, _, _, _, _, _, _, _, rfl, fun _ => gw, kp f0, kp f1, kp f2, kp f3, kp f4, kp f5, kp f6, fun _ => rfl, fun q => (let ⟨B, e, h2, h3⟩ := f8 (done_old q (by decide)); ⟨B, e, h2, fun q2 => (h3 n15).gr gg⟩), kp f9, fun q => (let ⟨B, e, h2, h3⟩ := f10 (done_old q (by decide)); ⟨B, e, h2, fun q2 => (h3 n15).gr gg⟩), kp f11, fun q => (let h := f12 (done_old q (by decide)); ⟨getD_set_true h.1, h.2⟩), kp f13, fun q q2 => (let ⟨v, m2, e, h1, h2⟩ := f14 (done_old q (by decide)) n15; ⟨v, m2, e, h1.gr gg, h2⟩), fun q => absurd ((f15 (done_old q (by decide))).1 7 (by decide)) hn⟩
  · rintro done a w hsz hnot hdep ⟨t32, t33, t34, t35, t36, t37, t38, t39, t40, t41, t42, t43, t44, t45, t46, rfl, gw, f0, f1, f2, f3, f4, f5, f6, f7, f8, f9, f10, f11, f12, f13, f14, f15⟩ K hK
    have hn : ¬ done.getD 8 false = true := by rw [getD_both hnot]; decide
    have d3 := hdep 3 (by kernel_rfl)
    have d6 := hdep 6 (by kernel_rfl)
    have d7 := hdep 7 (by kernel_rfl)
    obtain rfl := f3 d3
    obtain rfl := f6 d6
    obtain rfl := f7 d7
    have n15 : done.getD 15 false = false := by
      cases e : done.getD 15 false with
      | false => rfl
      | true => exact absurd ((f15 e).1 8 (by decide)) hn
    replace gw := gw n15
    have GW := PLift.up gw
    have HNE := PLift.up (show w.heap.size ≠ b by have := (gw.1.tp HTP.down).has; omega)
    have HK := PLift.up hK
    clear hK d3 d6 d7
    simp only [brd8A]
    go_simp
    have gg : Gr w (w.alloc (.cells #[.string (bs (c ++ [0])), .string (bs ([110, 111, 110, 101, 0] ++ c ++ [0])), .string (bs [110, 111, 110, 101, 0]), .string (bs c)] 9)) := (Gr.refl _).alloc _
    refine HK.down _ _ ⟨_, _, _, _, _, _, _, _, _, _, _, _, _, _, _, rfl, fun _ => ⟨GW.down.1.gr gg, GW.down.2.gr gg⟩, kp f0, kp f1, kp f2, kp f3, kp f4, kp f5, kp f6, kp f7, ?_, kp f9, fun q => (let ⟨B, e, h2, h3⟩ := f10 (done_old q (by decide)); ⟨B, e, h2, fun q2 => (h3 n15).gr gg⟩), kp f11, fun q => absurd (f12 (done_old q (by decide))).1 hn, kp f13, fun q q2 => (let ⟨v, m2, e, h1, h2⟩ := f14 (done_old q (by decide)) n15; ⟨v, m2, e, h1.gr gg, h2⟩), fun q => absurd ((f15 (done_old q (by decide))).1 8 (by decide)) hn⟩
    exact fun _ => ⟨_, rfl, HNE.down, fun _ => Row.new w _ _⟩
  · rintro done a w hsz hnot hdep ⟨t32, t33, t34, t35, t36, t37, t38, t39, t40, t41, t42, t43, t44, t45, t46, rfl, gw, f0, f1, f2, f3, f4, f5, f6, f7, f8, f9, f10, f11, f12, f13, f14, f15⟩ K hK
    have hn : ¬ done.getD 9 false = true := by rw [getD_both hnot]; decide
    have n15 : done.getD 15 false = false := by
      cases e : done.getD 15 false with
      | false => rfl
      | true => exact absurd ((f15 e).1 9 (by decide)) hn
    replace gw := gw n15
    have HK := PLift.up hK
    clear hK 
    simp only [brd8A]
    go_simp
    have gg : Gr w w := Gr.refl _
    refine HK.down _ _ ⟨_, _, _, _, _, _, _, _, _, _, _, _, _, _, _, rfl, fun _ => gw, kp f0, kp f1, kp f2, kp f3, kp f4, kp f5, kp f6, kp f7, fun q => (let ⟨B, e, h2, h3⟩ := f8 (done_old q (by decide)); ⟨B, e, h2, fun q2 => (h3 n15).gr gg⟩), fun _ => rfl, fun q => (let ⟨B, e, h2, h3⟩ := f10 (done_old q (by decide)); ⟨B, e, h2, fun q2 => (h3 n15).gr gg⟩), kp f11, fun q => (let h := f12 (done_old q (by decide)); ⟨getD_set_true h.1, h.2⟩), kp f13, fun q q2 => (let ⟨v, m2, e, h1, h2⟩ := f14 (done_old q (by decide)) n15; ⟨v, m2, e, h1.gr gg, h2⟩), fun q => absurd ((f15 (done_old q (by decide))).1 9 (by decide)) hn⟩
  · rintro done a w hsz hnot hdep ⟨t32, t33, t34, t35, t36, t37, t38, t39, t40, t41, t42, t43, t44, t45, t46, rfl, gw, f0, f1, f2, f3, f4, f5, f6, f7, f8, f9, f10, f11, f12, f13, f14, f15⟩ K hK
    have hn : ¬ done.getD 10 false = true := by rw [getD_both hnot]; decide
    have n15 : done.getD 15 false = false := by
      cases e : done.getD 15 false with
      | false => rfl
      | true => exact absurd ((f15 e).1 10 (by decide)) hn
    replace gw := gw n15
    have GW := PLift.up gw
    have HNE := PLift.up (show w.heap.size ≠ b by have := (gw.1.tp HTP.down).has; omega)
    have HK := PLift.up hK
    clear hK 
    simp only [brd8A]
    go_simp
    have gg : Gr w (w.alloc (.cells #[.int .i64 0, .int .i64 0, .int .i64 0, .int .i64 1, .int .i64 2, .int .i64 3] 3)) := (Gr.refl _).alloc _
    refine HK.down _ _ ⟨_, _, _, _, _, _, _, _, _, _, _, _, _, _, _, rfl, fun _ => ⟨GW.down.1.gr gg, GW.down.2.gr gg⟩, kp f0, kp f1, kp f2, kp f3, kp f4, kp f5, kp f6, kp f7, fun q => (let ⟨B, e, h2, h3⟩ := f8 (done_old q (by decide)); ⟨B, e, h2, fun q2 => (h3 n15).gr gg⟩), kp f9, ?_, kp f11, fun q => (let h := f12 (done_old q (by decide)); ⟨getD_set_true h.1, h.2⟩), kp f13, fun q q2 => (let ⟨v, m2, e, h1, h2⟩ := f14 (done_old q (by decide)) n15; ⟨v, m2, e, h1.gr gg, h2⟩), fun q => absurd ((f15 (done_old q (by decide))).1 10 (by decide)) hn⟩
    exact fun _ => ⟨_, rfl, HNE.down, fun _ => Row.new w _ _⟩
  · rintro done a w hsz hnot hdep ⟨t32, t33, t34, t35, t36, t37, t38, t39, t40, t41, t42, t43, t44, t45, t46, rfl, gw, f0, f1, f2, f3, f4, f5, f6, f7, f8, f9, f10, f11, f12, f13, f14, f15⟩ K hK
    have hn : ¬ done.getD 11 false = true := by rw [getD_both hnot]; decide
    have d9 := hdep 9 (by kernel_rfl)
    have d10 := hdep 10 (by kernel_rfl)
    obtain rfl := f9 d9
    have n15 : done.getD 15 false = false := by
      cases e : done.getD 15 false with
      | false => rfl
      | true => exact absurd ((f15 e).1 11 (by decide)) hn
    replace gw := gw n15
    obtain ⟨B, rfl, h2, h3⟩ := f10 d10
    have HB := PLift.up h2
    have HR := PLift.up (h3 n15)
    have TP := PLift.up (gw.1.tp HTP.down)
    have GW := PLift.up gw
    clear h2 h3
    have HK := PLift.up hK
    clear hK d9
    simp only [brd8A]
    go_simp
    refine (pickM_any w b len TP.down B 6 (fun x => 0 ≤ x ∧ x < 4) (by omega) (by omega) HB.down (fun k hk => ?_)).mono ?_
    · have hk2 : k < [(0 : Int), 0, 0, 1, 2, 3].length := hk
      refine ⟨_, HR.down.iat k hk2, ?_⟩
      have : ∀ z ∈ [(0 : Int), 0, 0, 1, 2, 3], 0 ≤ z ∧ z < 4 := by decide
      exact this _ (List.getElem_mem hk2)
    rintro e w2 ⟨x, rfl, ⟨x0, x1⟩, hm⟩
    obtain ⟨k, rfl⟩ := Int.eq_ofNat_of_zero_le x0
    (try go_simp)
    refine HK.down _ _ ⟨_, _, _, _, _, _, _, _, _, _, _, _, _, _, _, rfl, fun _ => ⟨GW.down.1.trans HBS.down hm, hm.row GW.down.2 HNB.down⟩, kp f0, kp f1, kp f2, kp f3, kp f4, kp f5, kp f6, kp f7, fun q => (let ⟨B, e, h2, h3⟩ := f8 (done_old q (by decide)); ⟨B, e, h2, fun q2 => hm.row (h3 n15) h2⟩), kp f9, fun _ => ⟨B, rfl, HB.down, fun _ => hm.row HR.down HB.down⟩, ?_, fun q => (let h := f12 (done_old q (by decide)); ⟨getD_set_true h.1, h.2⟩), kp f13, fun q q2 => (let ⟨v, m2, e, h1, h2⟩ := f14 (done_old q (by decide)) n15; ⟨v, m2, e, h1.mv HNB2.down hm, h2⟩), fun q => absurd ((f15 (done_old q (by decide))).1 11 (by decide)) hn⟩
    exact fun _ => ⟨k, rfl, by omega⟩
  · rintro done a w hsz hnot hdep ⟨t32, t33, t34, t35, t36, t37, t38, t39, t40, t41, t42, t43, t44, t45, t46, rfl, gw, f0, f1, f2, f3, f4, f5, f6, f7, f8, f9, f10, f11, f12, f13, f14, f15⟩ K hK
    have hn : ¬ done.getD 12 false = true := by rw [getD_both hnot]; decide
    have d8 := hdep 8 (by kernel_rfl)
    have d11 := hdep 11 (by kernel_rfl)
    have n15 : done.getD 15 false = false := by
      cases e : done.getD 15 false with
      | false => rfl
      | true => exact absurd ((f15 e).1 12 (by decide)) hn
    replace gw := gw n15
    obtain ⟨B, rfl, h2, h3⟩ := f8 d8
    obtain ⟨k, rfl, hk⟩ := f11 d11
    have k1 : (k : Int) < 4 := by omega
    have D8 := PLift.up d8
    have H3 := PLift.up h3
    have H2 := PLift.up h2
    have HK4 := PLift.up hk
    clear h2 h3
    have HK := PLift.up hK
    clear hK 
    simp only [brd8A]
    go_simp
    have gg : Gr w w := Gr.refl _
    refine HK.down _ _ ⟨_, _, _, _, _, _, _, _, _, _, _, _, _, _, _, rfl, fun _ => gw, kp f0, kp f1, kp f2, kp f3, kp f4, kp f5, kp f6, kp f7, fun _ => ⟨B, rfl, H2.down, fun _ => H3.down n15⟩, kp f9, fun q => (let ⟨B, e, h2, h3⟩ := f10 (done_old q (by decide)); ⟨B, e, h2, fun q2 => (h3 n15).gr gg⟩), fun _ => ⟨k, rfl, HK4.down⟩, ?_, kp f13, fun q q2 => (let ⟨v, m2, e, h1, h2⟩ := f14 (done_old q (by decide)) n15; ⟨v, m2, e, h1.gr gg, h2⟩), fun q => absurd ((f15 (done_old q (by decide))).1 12 (by decide)) hn⟩
    exact fun _ => ⟨getD_set_true D8.down, B, k, rfl, rfl, HK4.down⟩
  · rintro done a w hsz hnot hdep ⟨t32, t33, t34, t35, t36, t37, t38, t39, t40, t41, t42, t43, t44, t45, t46, rfl, gw, f0, f1, f2, f3, f4, f5, f6, f7, f8, f9, f10, f11, f12, f13, f14, f15⟩ K hK
    have hn : ¬ done.getD 13 false = true := by rw [getD_both hnot]; decide
    have d12 := hdep 12 (by kernel_rfl)
    have n15 : done.getD 15 false = false := by
      cases e : done.getD 15 false with
      | false => rfl
      | true => exact absurd ((f15 e).1 13 (by decide)) hn
    replace gw := gw n15
    obtain ⟨D8, B, k, e40, rfl, hk⟩ := f12 d12
    obtain ⟨B2, e2, h2, h3⟩ := f8 D8
    subst e40
    obtain rfl : B = B2 := by simpa using e2
    have D8 := PLift.up D8
    have H3 := PLift.up (h3 n15)
    have H2 := PLift.up h2
    have HK4 := PLift.up hk
    have hk2 : k < (comps4 c).length := hk
    have c0 := H3.down.cell k (by simpa [strV] using hk2)
    rw [strV_get hk2] at c0
    have ch := has_of_cell c0
    have ZL : PLift ((comps4 c)[k].length ≤ 100) := PLift.up (by have q : ∀ z ∈ comps4 c, z.length ≤ 100 := (by intro z hz; have := HC.down; simp only [comps4, List.mem_cons, List.not_mem_nil, or_false] at hz; rcases hz with e | e | e | e <;> subst e <;> simp <;> omega); exact q _ (List.getElem_mem hk2))
    obtain ⟨z, hz⟩ : ∃ z, (comps4 c)[k] = z := ⟨_, rfl⟩
    rw [hz] at c0 ZL
    clear hz h2 h3 e2
    have HK := PLift.up hK
    clear hK 
    simp only [brd8A]
    go_simp
    have gg : Gr w w := Gr.refl _
    refine HK.down _ _ ⟨_, _, _, _, _, _, _, _, _, _, _, _, _, _, _, rfl, fun _ => gw, kp f0, kp f1, kp f2, kp f3, kp f4, kp f5, kp f6, kp f7, fun _ => ⟨B, rfl, H2.down, fun _ => H3.down⟩, kp f9, fun q => (let ⟨B, e, h2, h3⟩ := f10 (done_old q (by decide)); ⟨B, e, h2, fun q2 => (h3 n15).gr gg⟩), kp f11, fun _ => ⟨getD_set_true D8.down, B, k, rfl, rfl, HK4.down⟩, ?_, fun q q2 => (let ⟨v, m2, e, h1, h2⟩ := f14 (done_old q (by decide)) n15; ⟨v, m2, e, h1.gr gg, h2⟩), fun q => absurd ((f15 (done_old q (by decide))).1 13 (by decide)) hn⟩
    exact fun _ => ⟨z, rfl, ZL.down⟩
  · rintro done a w hsz hnot hdep ⟨t32, t33, t34, t35, t36, t37, t38, t39, t40, t41, t42, t43, t44, t45, t46, rfl, gw, f0, f1, f2, f3, f4, f5, f6, f7, f8, f9, f10, f11, f12, f13, f14, f15⟩ K hK
    have hn : ¬ done.getD 14 false = true := by rw [getD_both hnot]; decide
    have d0 := hdep 0 (by kernel_rfl)
    have d1 := hdep 1 (by kernel_rfl)
    have d13 := hdep 13 (by kernel_rfl)
    obtain rfl := f0 d0
    obtain rfl := f1 d1
    have n15 : done.getD 15 false = false := by
      cases e : done.getD 15 false with
      | false => rfl
      | true => exact absurd ((f15 e).1 14 (by decide)) hn
    replace gw := gw n15
    obtain ⟨z, rfl, hz⟩ := f13 d13
    have HZ := PLift.up hz
    have GW := PLift.up gw
    have HK := PLift.up hK
    clear hK d0 d1
    simp only [brd8A]
    go_simp
    refine (with_any base ms ad n cap s [99, 111, 109, 112, 97, 116, 105, 98, 108, 101] z w (HTR.down.mv HNB2.down GW.down.1) HV.down (Nat.le_trans HB0.down GW.down.1.size) compatible_in (by have := HZ.down; omega) (by decide)).mono ?_
    rintro e w2 ⟨v, m2, rfl, h1, h2, h3, hg⟩
    (try go_simp)
    refine HK.down _ _ ⟨_, _, _, _, _, _, _, _, _, _, _, _, _, _, _, rfl, fun _ => ⟨GW.down.1.gr hg, GW.down.2.gr hg⟩, kp f0, kp f1, kp f2, kp f3, kp f4, kp f5, kp f6, kp f7, fun q => (let ⟨B, e, h2, h3⟩ := f8 (done_old q (by decide)); ⟨B, e, h2, fun q2 => (h3 n15).gr hg⟩), kp f9, fun q => (let ⟨B, e, h2, h3⟩ := f10 (done_old q (by decide)); ⟨B, e, h2, fun q2 => (h3 n15).gr hg⟩), kp f11, fun q => (let h := f12 (done_old q (by decide)); ⟨getD_set_true h.1, h.2⟩), fun _ => ⟨z, rfl, HZ.down⟩, ?_, fun q => absurd ((f15 (done_old q (by decide))).1 14 (by decide)) hn⟩
    exact fun _ _ => ⟨v, m2, rfl, h1, h2, h3⟩
  · rintro done a w hsz hnot hdep ⟨t32, t33, t34, t35, t36, t37, t38, t39, t40, t41, t42, t43, t44, t45, t46, rfl, gw, f0, f1, f2, f3, f4, f5, f6, f7, f8, f9, f10, f11, f12, f13, f14, f15⟩ K hK
    have hn : ¬ done.getD 15 false = true := by rw [getD_both hnot]; decide
    have d0 := hdep 0 (by kernel_rfl)
    have d1 := hdep 1 (by kernel_rfl)
    have d2 := hdep 2 (by kernel_rfl)
    have d3 := hdep 3 (by kernel_rfl)
    have d4 := hdep 4 (by kernel_rfl)
    have d5 := hdep 5 (by kernel_rfl)
    have d6 := hdep 6 (by kernel_rfl)
    have d7 := hdep 7 (by kernel_rfl)
    have d8 := hdep 8 (by kernel_rfl)
    have d9 := hdep 9 (by kernel_rfl)
    have d10 := hdep 10 (by kernel_rfl)
    have d11 := hdep 11 (by kernel_rfl)
    have d12 := hdep 12 (by kernel_rfl)
    have d13 := hdep 13 (by kernel_rfl)
    have d14 := hdep 14 (by kernel_rfl)
    obtain rfl := f0 d0
    obtain rfl := f1 d1
    obtain rfl := f2 d2
    obtain rfl := f3 d3
    obtain rfl := f4 d4
    obtain rfl := f5 d5
    obtain rfl := f6 d6
    obtain rfl := f7 d7
    obtain rfl := f9 d9
    have n15 := getD_both hnot
    obtain ⟨v, m2, rfl, h1, h2, h3⟩ := f14 d14 n15
    obtain ⟨ya, yc, rfl⟩ := owns_slice h1.own
    have g1 := gw n15
    have z0 := g1.2.cell 0 (by simp)
    have zf := g1.2.free 0
    have zh := has_of_cell z0
    have FN := PLift.up (show FinM wr b len PT base n (w.setCell ⟨PT, 0, none⟩ (.slice ya m2.length yc)) from ⟨w, _, m2, rfl, g1.1, g1.2.set 0 _, h1.box g1.2.ty (by decide) (h1.ne_ty g1.2.ty (by decide)), h2, h3⟩)
    have DD := PLift.up (show ∀ j, j < 15 → done.getD j false = true from by intro j hj; match j, hj with | 0, _ => exact d0 | 1, _ => exact d1 | 2, _ => exact d2 | 3, _ => exact d3 | 4, _ => exact d4 | 5, _ => exact d5 | 6, _ => exact d6 | 7, _ => exact d7 | 8, _ => exact d8 | 9, _ => exact d9 | 10, _ => exact d10 | 11, _ => exact d11 | 12, _ => exact d12 | 13, _ => exact d13 | 14, _ => exact d14)
    clear h3
    have HK := PLift.up hK
    clear hK d0 d1 d2 d3 d4 d5 d6 d7 d9
    simp only [brd8A]
    go_simp
    refine HK.down _ _ ⟨_, _, _, _, _, _, _, _, _, _, _, _, _, _, _, rfl, fun q => absurd q (by rw [getD_set_same (by rw [hsz]; decide)]; decide), kp f0, kp f1, kp f2, kp f3, kp f4, kp f5, kp f6, kp f7, fun q => (let ⟨B, e, h2, h3⟩ := f8 (done_old q (by decide)); ⟨B, e, h2, fun q2 => absurd q2 (by rw [getD_set_same (by rw [hsz]; decide)]; decide)⟩), kp f9, fun q => (let ⟨B, e, h2, h3⟩ := f10 (done_old q (by decide)); ⟨B, e, h2, fun q2 => absurd q2 (by rw [getD_set_same (by rw [hsz]; decide)]; decide)⟩), kp f11, fun q => (let h := f12 (done_old q (by decide)); ⟨getD_set_true h.1, h.2⟩), kp f13, fun q q2 => absurd q2 (by rw [getD_set_same (by rw [hsz]; decide)]; decide), ?_⟩
    exact fun _ => ⟨fun j hj => getD_set_true (DD.down j hj), FN.down⟩
  · rintro done a w hall ⟨t32, t33, t34, t35, t36, t37, t38, t39, t40, t41, t42, t43, t44, t45, t46, rfl, gw, f0, f1, f2, f3, f4, f5, f6, f7, f8, f9, f10, f11, f12, f13, f14, f15⟩
    exact h' _ _ _ _ _ _ _ _ _ _ _ _ _ _ _ w (f15 (hall 15 (by decide))).2

def woP (ps : List Prp) (s : St) : List Prp := ps.filter (fun p => p.name != s)
def del8F (wr : World) (g k : Nat) (B o PB PX n vc cap : Nat) (nm : St) (pa : Option Addr) (pc : Nat) (ps qs : List Prp) (t38 t39 t40 t41 t42 t43 t44 t45 t46 t47 t48 t49 t50 : Value) (d : Array Bool) (w : World) : Prop :=
  (d.getD 13 false = false → Gr wr w) ∧ (d.getD 0 false = true → t38 = .pointer (some ⟨PX, 0, none⟩)) ∧
  (d.getD 1 false = true → t39 = .slice (some ⟨g, 0, none⟩) n vc) ∧
  (d.getD 2 false = true → t40 = .int .i64 (k : Int)) ∧
  (d.getD 3 false = true → t41 = .pointer (some ⟨PB, 0, none⟩)) ∧
  (d.getD 4 false = true → t42 = .slice (some ⟨B, o, none⟩) n cap) ∧
  (d.getD 5 false = true → t43 = .int .i64 (k : Int)) ∧
  (d.getD 6 false = true → t44 = .pointer (some ⟨B, o + k * 3, none⟩)) ∧
  (d.getD 7 false = true → t45 = .pointer (some ⟨B, o + k * 3 + 2, none⟩)) ∧
  (d.getD 8 false = true → t46 = .slice pa ps.length pc) ∧
  (d.getD 9 false = true → t47 = .string (bs nm)) ∧
  (d.getD 10 false = true → (d.getD 13 false = false → (∃ x c, t48 = .slice x qs.length c ∧ w.ownsRow wr.heap.size 83 2 (.slice x qs.length c) qs.length (qs.flatMap encP)))) ∧
  (d.getD 11 false = true → t49 = .pointer (some ⟨g, k * 3, none⟩)) ∧
  (d.getD 12 false = true → t50 = .pointer (some ⟨g, k * 3 + 2, none⟩)) ∧
  (d.getD 13 false = true → ((∀ j, j < 13 → j ≠ 11 → d.getD j false = true) ∧ Fin7 wr g k qs w))
def del8A (PB PX k : Nat) (nm : St) (t38 t39 t40 t41 t42 t43 t44 t45 t46 t47 t48 t49 t50 s0 s1 s4 s5 s6 s7 s9 s10 s11 s13 s14 s15 s16 s17 s18 s19 s20 s21 s22 s23 s24 s25 s26 s27 s28 s29 s30 s31 s32 s33 s34 s35 s36 s37 s51 : Value) : Act := { tmps := #[s0, s1, .string (bs nm), .pointer (some ⟨PB, 0, none⟩), s4, s5, s6, s7, .int .i64 (k : Int), s9, s10, s11, .pointer (some ⟨PX, 0, none⟩), s13, s14, s15, s16, s17, s18, s19, s20, s21, s22, s23, s24, s25, s26, s27, s28, s29, s30, s31, s32, s33, s34, s35, s36, s37, t38, t39, t40, t41, t42, t43, t44, t45, t46, t47, t48, t49, t50, s51], defers := [] }

theorem nodesV_sl : nodesV.all (fun s => !s.contains 47 && decide (0 < s.length)) = true := by kernel_rfl
theorem VT.noSl {ts : Tr} (h : VT ts) {i : Nat} (h0 : 0 < i) (hi : i < ts.length) : (47 : UInt8) ∉ nmT ts i ∧ nmT ts i ≠ [] := by
  have q := List.all_eq_true.1 nodesV_sl _ (h.nam i h0 hi)
  rw [Bool.and_eq_true] at q
  refine ⟨fun hm => ?_, fun e => ?_⟩
  · rw [List.contains_iff_mem.2 hm] at q
    simp at q
  · rw [e] at q
    simp at q
theorem cut_sl {s t a b : St} (ha : (47 : UInt8) ∉ a) (hb : (47 : UInt8) ∉ b) (h : s ++ 47 :: a = t ++ 47 :: b) : s = t ∧ a = b := by
  rcases List.append_eq_append_iff.1 h with ⟨c, h1, h2⟩ | ⟨c, h1, h2⟩
  · cases c with
    | nil =>
      rw [List.append_nil] at h1
      rw [List.nil_append] at h2
      injection h2 with _ h2
      exact ⟨h1.symm, h2⟩
    | cons x c =>
      rw [List.cons_append] at h2
      injection h2 with _ h2
      exact absurd (by rw [h2]; simp) ha
  · cases c with
    | nil =>
      rw [List.append_nil] at h1
      rw [List.nil_append] at h2
      injection h2 with _ h2
      exact ⟨h1, h2.symm⟩
    | cons x c =>
      rw [List.cons_append] at h2
      injection h2 with _ h2
      exact absurd (by rw [h2]; simp) hb
theorem VT.pthInj {ts : Tr} (h : VT ts) {j : Nat} {x y : St} (hj : Pth ts j x) : ∀ k, Pth ts k y → x = y → j < ts.length → k < ts.length → j = k := by
  induction hj generalizing y with
  | zero =>
    intro k hk e _ _
    cases hk with
    | zero => rfl
    | succ _ _ => simp at e
  | @succ u s hu _ ih =>
    intro k hk e hul hkl
    cases hk with
    | zero => simp at e
    | @succ _ s2 hk0 hk2 =>
      obtain ⟨e1, e2⟩ := cut_sl (h.noSl hu hul).1 (h.noSl hk0 hkl).1 e
      have p1 := h.shp.par u hu hul
      have p2 := h.shp.par k hk0 hkl
      have hp := ih _ hk2 e1 (by omega) (by omega)
      rcases Nat.lt_trichotomy u k with q | q | q
      · exact absurd e2 (vlt_ne (h.shp.sib u k hu q hkl hp))
      · exact q
      · exact absurd e2.symm (vlt_ne (h.shp.sib k u hk0 q hul hp.symm))
theorem VT.pathInj {ts : Tr} (h : VT ts) {j k : Nat} {s : St} (hj : PathIs ts j s) (hk : PathIs ts k s) (hjl : j < ts.length) (hkl : k < ts.length) : j = k := by
  obtain ⟨x, hx, e1⟩ := hj
  obtain ⟨y, hy, e2⟩ := hk
  have key : ∀ {i : Nat} {z : St}, 0 < i → i < ts.length → Pth ts i z → z ≠ [47] := fun {i z} h0 hi hz e => by
    cases hz with
    | zero => omega
    | @succ _ s2 _ _ =>
      have q := cut_sl (s := s2) (t := []) (h.noSl h0 hi).1 (b := []) (by simp) (by rw [e]; rfl)
      exact (h.noSl h0 hi).2 q.2
  by_cases j0 : j = 0
  · by_cases k0 : k = 0
    · rw [j0, k0]
    · rw [if_pos j0] at e1
      rw [if_neg k0] at e2
      exact absurd (e2.symm.trans e1) (key (by omega) hkl hy)
  · by_cases k0 : k = 0
    · rw [if_neg j0] at e1
      rw [if_pos k0] at e2
      exact absurd (e1.symm.trans e2) (key (by omega) hjl hx)
    · rw [if_neg j0] at e1
      rw [if_neg k0] at e2
      exact h.pthInj hx k hy (e1.symm.trans e2) hjl hkl
theorem wrap_up {k : Nat} (h : k ≤ 1000000) : wrap64 ((k : Int) + 1) = (k : Int) + 1 := by unfold wrap64; omega
theorem meas_up {n k : Nat} (h : k < n) : n - (intOf (.int .i64 ((k : Int) + 1))).toNat < n - (intOf (.int .i64 (k : Int))).toNat := by simp [intOf]; omega
def txtOk (s : St) : Bool := !s.isEmpty && s.all (fun c => decide (32 ≤ c.toNat) && decide (c.toNat ≤ 126))
def strsP (v : St) : Option (List St) :=
  if Lib.hasSuffix v [0] = true ∧ (Lib.split (Lib.trimSuffix v [0]) [0]).all txtOk = true then some (Lib.split (Lib.trimSuffix v [0]) [0]) else none
def cmpN : St := [99, 111, 109, 112, 97, 116, 105, 98, 108, 101]
def compP (n : Nod) : List St := (strsP ((valP n.props cmpN).getD [])).getD []
def govF (l : List Sch) : List St → Option Nat
  | [] => none
  | c :: cs => match findC l c with
    | some k => some k
    | none => govF l cs
def govP (n : Nod) (l : List Sch) : Option Nat := govF l (compP n)
def celBad (ts : Tr) (r : Rul) (v : St) : Int :=
  if cellsOk v = false then 2 else
  if r.count ≠ 0 ∧ ((cellsL v).length : Int) ≠ r.count then 3 else
  if r.kind = 3 ∧ (cellsL v).any (fun n => decide (n < r.low) || decide (r.high < n)) = true then 4 else
  if r.kind = 6 ∧ (phan ts ((cellsL v).getD 0 0)).isNone = true then 5 else 0
def cntR (r : Rul) : Int := if r.kind = 4 then 1 else r.count
def txtBad (r : Rul) (v : St) : Int :=
  match strsP v with
  | none => 2
  | some l => if cntR r ≠ 0 ∧ (l.length : Int) ≠ cntR r then 3 else
    if r.kind = 4 ∧ r.words.contains (l.getD 0 []) = false then 4 else 0
def brkP (ts : Tr) (n : Nod) (r : Rul) : Int :=
  match valP n.props r.name with
  | none => if r.req = true then 1 else 0
  | some v =>
    if r.kind = 1 then 0 else
    if r.kind = 3 ∨ r.kind = 6 then celBad ts r v else
    if r.kind = 5 ∨ r.kind = 4 then txtBad r v else
    if v = [] then 0 else 2
structure Vio where
  kind : Int
  node : Int
  sch : St
  prop : St
  deriving DecidableEq
instance : Inhabited Vio := ⟨⟨0, 0, [], []⟩⟩
def Vio.enc (v : Vio) : List Value := [.int .i64 v.kind, .int .i64 v.node, .string (bs v.sch), .string (bs v.prop)]
def stdS : List St := [[99, 111, 109, 112, 97, 116, 105, 98, 108, 101], [112, 104, 97, 110, 100, 108, 101], [115, 116, 97, 116, 117, 115], [114, 101, 103], [114, 97, 110, 103, 101, 115], [35, 97, 100, 100, 114, 101, 115, 115, 45, 99, 101, 108, 108, 115], [35, 115, 105, 122, 101, 45, 99, 101, 108, 108, 115]]
def rulV (ts : Tr) (i : Nat) (n : Nod) (s : Sch) (r : Rul) : Option Vio := if brkP ts n r = 0 then none else some ⟨brkP ts n r, i, s.comp, r.name⟩
def extB (s : Sch) (p : Prp) : Bool := s.closed && (!(s.rules.any (fun r => r.name == p.name)) && !stdS.contains p.name)
def extV (i : Nat) (s : Sch) (p : Prp) : Option Vio := if extB s p = true then some ⟨6, i, s.comp, p.name⟩ else none
def vioN (ts : Tr) (l : List Sch) (i : Nat) (n : Nod) : List Vio :=
  match govP n l with
  | none => match compP n with
    | [] => []
    | c :: _ => [⟨7, i, c, []⟩]
  | some k => (l.getD k default).rules.filterMap (rulV ts i n (l.getD k default)) ++ n.props.filterMap (extV i (l.getD k default))
def vioF (ts : Tr) (l : List Sch) : Nat → List Vio
  | 0 => []
  | k + 1 => vioF ts l k ++ vioN ts l k (nd ts k)
def vioT (ts : Tr) (l : List Sch) : List Vio := vioF ts l ts.length
theorem govF_lt {l : List Sch} {k : Nat} : ∀ {cs : List St}, govF l cs = some k → k < l.length
  | [], h => by cases h
  | c :: cs, h => by
    rw [govF] at h
    cases e : findC l c with
    | none => rw [e] at h; exact govF_lt h
    | some j =>
      rw [e] at h
      injection h with h
      subst h
      exact (find_at e).1
theorem filterMap_le {α β : Type} (f : α → Option β) (l : List α) : (l.filterMap f).length ≤ l.length := List.length_filterMap_le f l
theorem vioN_few {ts : Tr} {l : List Sch} {i : Nat} {n : Nod} {a b : Nat} (hr : ∀ s ∈ l, s.rules.length ≤ a) (hp : n.props.length ≤ b) : (vioN ts l i n).length ≤ a + b + 1 := by
  unfold vioN
  cases e : govP n l with
  | none =>
    dsimp only
    cases compP n with
    | nil => simp
    | cons c cs => simp
  | some k =>
    dsimp only
    have hk := govF_lt e
    have e2 : l.getD k default = l[k] := by rw [List.getD_eq_getElem?_getD, List.getElem?_eq_getElem hk]; rfl
    rw [e2, List.length_append]
    have h1 := filterMap_le (rulV ts i n l[k]) l[k].rules
    have h2 := filterMap_le (extV i l[k]) n.props
    have h3 := hr l[k] (List.getElem_mem hk)
    omega
theorem vioF_few {ts : Tr} {l : List Sch} {a b : Nat} (hr : ∀ s ∈ l, s.rules.length ≤ a) (hp : ∀ i, i < ts.length → (nd ts i).props.length ≤ b) : ∀ k, k ≤ ts.length → (vioF ts l k).length ≤ k * (a + b + 1)
  | 0, _ => by simp [vioF]
  | k + 1, h => by
    have h1 := vioF_few hr hp k (by omega)
    have h2 := vioN_few (ts := ts) (l := l) (i := k) hr (hp k (by omega))
    rw [vioF, List.length_append, Nat.succ_mul]
    omega
theorem rulV_prop {ts : Tr} {i : Nat} {n : Nod} {s : Sch} (r : Rul) (y : Vio) (h : rulV ts i n s r = some y) : y.prop = r.name ∧ y.node = i ∧ y.sch = s.comp ∧ y.kind = brkP ts n r ∧ brkP ts n r ≠ 0 := by
  unfold rulV at h
  split at h
  · cases h
  · injection h with h
    subst h
    exact ⟨rfl, rfl, rfl, rfl, by assumption⟩
theorem extV_prop {i : Nat} {s : Sch} (p : Prp) (y : Vio) (h : extV i s p = some y) : y.prop = p.name ∧ y.node = i ∧ y.sch = s.comp ∧ y.kind = 6 ∧ extB s p = true := by
  unfold extV at h
  split at h
  · injection h with h
    subst h
    exact ⟨rfl, rfl, rfl, rfl, by assumption⟩
  · cases h
theorem celBad_le (ts : Tr) (r : Rul) (v : St) : 0 ≤ celBad ts r v ∧ celBad ts r v ≤ 5 := by
  unfold celBad
  split; omega; split; omega; split; omega; split <;> omega
theorem txtBad_le (r : Rul) (v : St) : 0 ≤ txtBad r v ∧ txtBad r v ≤ 5 := by
  unfold txtBad
  cases strsP v with
  | none => dsimp only; omega
  | some l => dsimp only; split; omega; split <;> omega
theorem brkP_le (ts : Tr) (n : Nod) (r : Rul) : 0 ≤ brkP ts n r ∧ brkP ts n r ≤ 5 := by
  unfold brkP
  cases valP n.props r.name with
  | none => dsimp only; split <;> omega
  | some v =>
    dsimp only
    split; omega
    split; exact celBad_le ts r v
    split; exact txtBad_le r v
    split <;> omega
theorem vioN_fac {ts : Tr} {l : List Sch} {i : Nat} {n : Nod} {v : Vio} (h : v ∈ vioN ts l i n) : v.node = i ∧ 1 ≤ v.kind ∧ v.kind ≤ 7 := by
  unfold vioN at h
  cases e : govP n l with
  | none =>
    rw [e] at h
    dsimp only at h
    cases e2 : compP n with
    | nil => rw [e2] at h; cases h
    | cons c cs =>
      rw [e2] at h
      rw [List.mem_singleton.1 h]
      exact ⟨rfl, by show (1 : Int) ≤ 7; decide, by show (7 : Int) ≤ 7; decide⟩
  | some k =>
    rw [e] at h
    dsimp only at h
    rcases List.mem_append.1 h with q | q
    · obtain ⟨r, hr, he⟩ := List.mem_filterMap.1 q
      obtain ⟨_, h1, _, h2, h3⟩ := rulV_prop r v he
      have := brkP_le ts n r
      rw [h2]
      exact ⟨h1, by omega, by omega⟩
    · obtain ⟨p, hp, he⟩ := List.mem_filterMap.1 q
      obtain ⟨_, h1, _, h2, h3⟩ := extV_prop p v he
      rw [h2]
      exact ⟨h1, by omega, by omega⟩
def Vio.key (v : Vio) : Int × St := (v.node, v.prop)

def MaxV (w : World) : Prop := ∃ m, w.cell? ⟨1, 0, none⟩ = some (.int .i64 m)
theorem MaxV.gr {w w' : World} (h : MaxV w) (hg : Gr w w') : MaxV w' := let ⟨m, h2⟩ := h; ⟨m, cell_gr hg h2⟩
theorem cutSuf_any (l p : St) (w : World) (hl : l.length ≤ 1000000) :
    Calls Tryz.prog 118 #[.string (bs l), .string (bs p)] w fun e w' => e = .returned (.tuple #[.string (bs (Lib.trimSuffix l p)), .bool (Lib.hasSuffix l p)]) ∧ w = w' :=
  (Tryz.strings_CutSuffix (bs l) (bs p) w (by rw [bs_size]; omega)).mono fun e w' ⟨he, hw⟩ => ⟨by rw [he, bs_data, bs_data]; rfl, hw.symm⟩
theorem split_any (l sep : St) (w : World) (hl : l.length ≤ 1000000) (h1 : 1 ≤ sep.length) (h : MaxV w) :
    Calls Tryz.prog 119 #[.string (bs l), .string (bs sep)] w fun e w' => ∃ B, e = .returned (.slice (some ⟨B, 0, none⟩) (Lib.split l sep).length (Lib.split l sep).length) ∧ Row w' B 9 (strV (Lib.split l sep)) ∧ w.heap.size ≤ B ∧ Gr w w' := by
  obtain ⟨m, hm⟩ := h
  refine (Tryz.strings_Split (bs l) (bs sep) m w (by rw [bs_size]; omega) hm (by rw [bs_size]; exact h1)).mono ?_
  rintro e w' ⟨he, rfl⟩
  rw [countB_len l sep h1] at he
  refine ⟨w.heap.size, he, ?_, Nat.le_refl _, (Gr.refl _).alloc _⟩
  have R := Row.new w ((Lib.splitB (bs sep) 0 (Lib.countB (bs l) (bs sep)) (bs l)).map Value.string).toArray 9
  have e : ((Lib.splitB (bs sep) 0 (Lib.countB (bs l) (bs sep)) (bs l)).map Value.string).toArray.toList = strV (Lib.split l sep) := by
    rw [List.toList_toArray, ← bs_map, Lib.splitB_data, bs_data, bs_data]
    unfold Lib.split Lib.countB
    rw [bs_data, bs_data]
  rw [e] at R
  exact R
def chrOk (c : UInt8) : Bool := decide (32 ≤ c.toNat) && decide (c.toNat ≤ 126)
theorem txtOk_eq (s : St) : txtOk s = (!s.isEmpty && s.all chrOk) := rfl
def GivesStrs (o : Option (List St)) (w : World) (e : Ending) (w' : World) : Prop := Gr w w' ∧ match o with
  | none => e = .returned (.tuple #[.slice none 0 0, .bool false])
  | some l => ∃ B, e = .returned (.tuple #[.slice (some ⟨B, 0, none⟩) l.length l.length, .bool true]) ∧ Row w' B 9 (strV l) ∧ w.heap.size ≤ B
theorem strings_any (v : St) (w : World) (hf : v.length ≤ 1000000) (hM : MaxV w) :
    Calls Tryz.prog 94 #[.string (bs v)] w (GivesStrs (strsP v) w) := by
  obtain ⟨P0, hP0⟩ : ∃ P : Ending → World → Prop, P = GivesStrs (strsP v) w := ⟨_, rfl⟩
  rw [← hP0]
  have HP0 := Lib.hid hP0
  clear hP0
  by_cases hs : Lib.hasSuffix v [0] = true
  · go_enter Tryz.func94, Tryz.ntmps94
    go_wp2_with fail
    refine (cutSuf_any v [0] w hf).mono ?_
    rintro e w' ⟨rfl, rfl⟩
    rw [hs]
    obtain ⟨body, hbody⟩ : ∃ body, Lib.trimSuffix v [0] = body := ⟨_, rfl⟩
    have BL : body.length ≤ 1000000 := by
      rw [← hbody]; unfold Lib.trimSuffix; split <;> simp only [List.length_take] <;> omega
    have SP : Hid (strsP v = if (Lib.split body [0]).all txtOk = true then some (Lib.split body [0]) else none) := Lib.hid (by
      unfold strsP; rw [hbody, hs]; simp)
    rw [hbody]
    clear hbody
    go_wp2_with fail
    refine (split_any body [0] w BL (by simp) hM).mono ?_
    rintro e w1 ⟨B, rfl, hr, hB, hg⟩
    have R1 := Lib.hid hr
    have G1 := Lib.hid hg
    have SB := Lib.hid hB
    have LL : Hid (∀ s ∈ Lib.split body [0], s.length ≤ 1000000) := Lib.hid (fun s hs2 => Nat.le_trans (split_le body [0] s hs2) BL)
    have LN : Hid ((Lib.split body [0]).length ≤ 2000000) := Lib.hid (by have := split_len body [0] (by simp); omega)
    obtain ⟨L, hL⟩ : ∃ L, Lib.split body [0] = L := ⟨_, rfl⟩
    rw [hL] at R1 SP LL LN ⊢
    clear hr hg hB hL
    have ln := LN.out
    go_wp2_with fail
    go_loopw [21] (fun i wr => ∃ k : Nat, k ≤ L.length ∧ i = .int .i64 (k : Int) ∧ (L.take k).all txtOk = true ∧ Gr w1 wr) (fun i _ => L.length - (intOf i).toNat)
    case atStart => exact ⟨0, Nat.zero_le _, rfl, rfl, Gr.refl _⟩
    case round =>
      obtain ⟨k, hk, rfl, hall, hg⟩ := hrel
      have HA := Lib.hid hall
      have HG := Lib.hid hg
      clear hall hg
      by_cases hlt : k < L.length
      · have c0 := (R1.out.gr HG.out).cell k (by simpa [strV] using hlt)
        rw [strV_get hlt] at c0
        have hh := has_of_cell c0
        have SL : L[k].length ≤ 1000000 := LL.out _ (List.getElem_mem hlt)
        obtain ⟨s, hs2⟩ : ∃ s, L[k] = s := ⟨_, rfl⟩
        have HS := Lib.hid hs2
        rw [hs2] at c0 SL
        clear hs2
        by_cases he : s = []
        · have OUT : Hid (strsP v = none) := Lib.hid (by
            rw [SP.out, if_neg]
            rw [Bool.not_eq_true, List.all_eq_false]
            exact ⟨_, List.getElem_mem hlt, by rw [HS.out, he]; simp [txtOk]⟩)
          have h0 : s.isEmpty = true := by rw [he]; rfl
          clear he
          go_wp2_with fail
          rw [HP0.out, OUT.out]
          exact ⟨G1.out.trans HG.out, rfl⟩
        · have h0 : s.isEmpty = false := by simpa using he
          have HE := Lib.hid he
          clear he
          go_wp2_with fail
          go_loop [29] (fun i => ∃ m : Nat, m ≤ s.length ∧ i = .int .i64 (m : Int) ∧ (s.take m).all chrOk = true) (fun i => s.length - (intOf i).toNat)
          case atStart => exact ⟨0, Nat.zero_le _, rfl, rfl⟩
          case round =>
            obtain ⟨m, hm, rfl, hc⟩ := hrel
            have HC := Lib.hid hc
            clear hc
            by_cases hlm : m < s.length
            · obtain ⟨c, hcc⟩ : ∃ c, s[m] = c := ⟨_, rfl⟩
              have HCC := Lib.hid hcc
              have hb := s[m].toNat_lt
              by_cases h1 : (s[m].toNat : Int) < 32
              · have BAD : Hid (strsP v = none) := Lib.hid (by
                  rw [SP.out, if_neg]
                  rw [Bool.not_eq_true, List.all_eq_false]
                  refine ⟨_, List.getElem_mem hlt, ?_⟩
                  rw [HS.out, txtOk_eq, Bool.and_eq_true, not_and]
                  intro _ q
                  have := List.all_eq_true.1 q _ (List.getElem_mem hlm)
                  unfold chrOk at this
                  simp at this
                  omega)
                clear hcc
                go_wp2_with fail
                rw [HP0.out, BAD.out]
                exact ⟨G1.out.trans HG.out, rfl⟩
              · by_cases h2 : (126 : Int) < (s[m].toNat : Int)
                · have BAD : Hid (strsP v = none) := Lib.hid (by
                    rw [SP.out, if_neg]
                    rw [Bool.not_eq_true, List.all_eq_false]
                    refine ⟨_, List.getElem_mem hlt, ?_⟩
                    rw [HS.out, txtOk_eq, Bool.and_eq_true, not_and]
                    intro _ q
                    have := List.all_eq_true.1 q _ (List.getElem_mem hlm)
                    unfold chrOk at this
                    simp at this
                    omega)
                  clear hcc
                  go_wp2_with fail
                  rw [HP0.out, BAD.out]
                  exact ⟨G1.out.trans HG.out, rfl⟩
                · have OKC : Hid (chrOk s[m] = true) := Lib.hid (by unfold chrOk; simp; omega)
                  clear hcc
                  go_wp2_with fail
                  go_round
                  case rel => exact ⟨m + 1, by omega, by go_num, by rw [List.take_succ_eq_append_getElem hlm, List.all_append, HC.out]; simp [OKC.out]⟩
                  case measure => simp [intOf]; omega
            · have TOK : Hid (txtOk s = true) := Lib.hid (by
                rw [txtOk_eq]
                have h3 : s.all chrOk = true := by rw [← HC.out, List.take_of_length_le (by omega)]
                rw [h3]; simp [HE.out])
              go_wp2_with fail
              go_roundw
              case rel => exact ⟨k + 1, by omega, by go_num, by rw [List.take_succ_eq_append_getElem hlt, List.all_append, HA.out, HS.out]; simp [TOK.out], HG.out⟩
              case measure => simp [intOf]; omega
      · obtain rfl : k = L.length := by omega
        have OUT : Hid (strsP v = some L) := Lib.hid (by rw [SP.out, if_pos]; rw [← HA.out, List.take_length])
        clear HA
        go_wp2_with fail
        rw [HP0.out, OUT.out]
        exact ⟨G1.out.trans HG.out, B, rfl, R1.out.gr HG.out, SB.out⟩
  · rw [Bool.not_eq_true] at hs
    have OUT : Hid (strsP v = none) := Lib.hid (by unfold strsP; rw [hs]; simp)
    go_enter Tryz.func94, Tryz.ntmps94
    go_wp2_with fail
    refine (cutSuf_any v [0] w hf).mono ?_
    rintro e w' ⟨rfl, rfl⟩
    rw [hs]
    go_wp2_with fail
    rw [HP0.out, OUT.out]
    exact ⟨Gr.refl _, rfl⟩
def StrsV (base : Nat) (w : World) (v : Value) (l : List St) : Prop := (v = .slice none 0 0 ∧ l = []) ∨ ∃ B, v = .slice (some ⟨B, 0, none⟩) l.length l.length ∧ Row w B 9 (strV l) ∧ base ≤ B
theorem StrsV.gr {base : Nat} {w w' : World} {v : Value} {l : List St} (h : StrsV base w v l) (hg : Gr w w') : StrsV base w' v l := h.imp id (fun ⟨B, h1, h2, h3⟩ => ⟨B, h1, h2.gr hg, h3⟩)
theorem StrsV.form {base : Nat} {w : World} {v : Value} {l : List St} (h : StrsV base w v l) : ∃ a, v = .slice a l.length l.length := by
  rcases h with ⟨rfl, rfl⟩ | ⟨B, rfl, _⟩
  · exact ⟨_, rfl⟩
  · exact ⟨_, rfl⟩
theorem StrsV.at {base : Nat} {w : World} {a : Option Addr} {n c : Nat} {l : List St} (h : StrsV base w (.slice a n c) l) {k : Nat} (hk : k < l.length) : ∃ B, a = some ⟨B, 0, none⟩ ∧ w.cell? ⟨B, k, none⟩ = some (.string (bs l[k])) := by
  rcases h with ⟨_, rfl⟩ | ⟨B, e, h2, _⟩
  · simp at hk
  · injection e with e _ _
    refine ⟨B, e, ?_⟩
    rw [h2.cell k (by simpa [strV] using hk), strV_get hk]
def NodOk (n : Nod) : Prop := ascP n.props = true ∧ n.props.length ≤ 24 ∧ ∀ p ∈ n.props, p.val.length ≤ 256
theorem valP_mem {ps : List Prp} {s v : St} (h : valP ps s = some v) : ∃ p ∈ ps, p.name = s ∧ p.val = v := by
  unfold valP at h
  cases e : ps.find? (fun p => p.name == s) with
  | none => rw [e] at h; cases h
  | some p =>
    rw [e] at h
    injection h with h
    have := List.find?_some e
    exact ⟨p, List.mem_of_find?_eq_some e, by simpa using this, h⟩
theorem NodOk.val {n : Nod} (h : NodOk n) (s : St) : ((valP n.props s).getD []).length ≤ 256 := by
  cases e : valP n.props s with
  | none => simp
  | some v =>
    obtain ⟨p, hp, _, rfl⟩ := valP_mem e
    exact h.2.2 p hp
theorem GivesVal.form {o : Option St} {w w' : World} {e : Ending} (h : GivesVal o w e w') : Gr w w' ∧ e = .returned (.tuple #[.string (bs (o.getD [])), .bool o.isSome]) := by
  obtain ⟨h1, h2⟩ := h
  cases o with
  | none => exact ⟨h1, h2⟩
  | some v => exact ⟨h1, h2⟩
theorem GivesStrs.form {o : Option (List St)} {w w' : World} {e : Ending} (h : GivesStrs o w e w') : Gr w w' ∧ ∃ v, e = .returned (.tuple #[v, .bool o.isSome]) ∧ StrsV w.heap.size w' v (o.getD []) := by
  obtain ⟨h1, h2⟩ := h
  cases o with
  | none => exact ⟨h1, _, h2, .inl ⟨rfl, rfl⟩⟩
  | some l =>
    obtain ⟨B, e1, r, hB⟩ := h2
    exact ⟨h1, _, e1, .inr ⟨B, rfl, r, hB⟩⟩
def GivesComp (l : List St) (w : World) (e : Ending) (w' : World) : Prop := ∃ v, e = .returned v ∧ StrsV w.heap.size w' v l ∧ Gr w w'
theorem comp_any (n : Nod) (a : Option Addr) (cap : Nat) (w : World) (h : SlOf 2 RPrp w a n.props) (hn : NodOk n) (hM : MaxV w) :
    Calls Tryz.prog 59 #[.agg #[.int .i64 n.parent, .string (bs n.name), .slice a n.props.length cap]] w (GivesComp (compP n) w) := by
  have H := Lib.hid h
  have HN := Lib.hid hn
  have HM := Lib.hid hM
  clear h hn hM
  obtain ⟨P0, hP0⟩ : ∃ P : Ending → World → Prop, P = GivesComp (compP n) w := ⟨_, rfl⟩
  rw [← hP0]
  have HP0 := Lib.hid hP0
  clear hP0
  go_enter Tryz.func59, Tryz.ntmps59
  go_upto_region 1 with (fail)
  have R1 := Lib.hid (Row.new w #[.int .i64 n.parent, .string (bs n.name), .slice a n.props.length cap] 86)
  obtain ⟨W, hW⟩ : ∃ W : World, Hid (W = w.alloc (.cells #[.int .i64 n.parent, .string (bs n.name), .slice a n.props.length cap] 86)) := ⟨_, Lib.hid rfl⟩
  have GW : Hid (Gr w W) := Lib.hid (by rw [hW.out]; exact (Gr.refl _).alloc _)
  rw [← hW.out] at R1 ⊢
  obtain ⟨PB, hPB⟩ : ∃ N : Nat, Hid (w.heap.size = N) := ⟨_, Lib.hid rfl⟩
  rw [hPB.out] at R1 ⊢
  clear hW hPB
  have x0 : W.cell? ⟨PB, 0, none⟩ = some (.int .i64 n.parent) := R1.out.cell 0 (by simp)
  have x1 : W.cell? ⟨PB, 1, none⟩ = some (.string (bs n.name)) := R1.out.cell 1 (by simp)
  have x2 : W.cell? ⟨PB, 2, none⟩ = some (.slice a n.props.length cap) := R1.out.cell 2 (by simp)
  have hx := has_of_cell x0
  go_wp2_with fail
  refine (cProperty_any n a cap cmpN W (H.out.gr RPrp.mono GW.out) (by have := HN.out.2.1; omega) HN.out.1).mono ?_
  intro e w1 hv
  obtain ⟨hg1, rfl⟩ := hv.form
  have G1 := Lib.hid (GW.out.trans hg1)
  have VL : Hid (((valP n.props cmpN).getD []).length ≤ 256) := Lib.hid (HN.out.val cmpN)
  have CP : Hid (compP n = (strsP ((valP n.props cmpN).getD [])).getD []) := Lib.hid rfl
  obtain ⟨vv, hvv⟩ : ∃ vv, (valP n.props cmpN).getD [] = vv := ⟨_, rfl⟩
  obtain ⟨bb, hbb⟩ : ∃ bb, (valP n.props cmpN).isSome = bb := ⟨_, rfl⟩
  rw [hvv] at VL CP ⊢
  rw [hbb]
  clear hg1 hv x0 x1 x2 hx hvv hbb
  go_wp2_with fail
  refine (strings_any vv w1 (by have := VL.out; omega) (HM.out.gr G1.out)).mono ?_
  intro e w2 hs
  obtain ⟨hg2, v, rfl, hv⟩ := hs.form
  have SV := Lib.hid hv
  have G2 := Lib.hid (G1.out.trans hg2)
  have GS := Lib.hid G1.out.size
  obtain ⟨cc, hcc⟩ : ∃ cc, (strsP vv).isSome = cc := ⟨_, rfl⟩
  rw [hcc]
  clear hv hg2 hs hcc
  go_wp2_with fail
  rw [HP0.out]
  refine ⟨v, rfl, ?_, G2.out⟩
  rw [CP.out]
  exact SV.out.imp id (fun ⟨B, h1, h2, h3⟩ => ⟨B, h1, h2, Nat.le_trans GS.out h3⟩)
theorem strsP_len {v : St} {l : List St} (h : strsP v = some l) : l.length ≤ v.length + 1 := by
  unfold strsP at h
  split at h
  · injection h with h
    have h1 := split_len (Lib.trimSuffix v [0]) [0] (by simp)
    have h2 : (Lib.trimSuffix v [0]).length ≤ v.length := by
      unfold Lib.trimSuffix
      split
      · rw [List.length_take]; omega
      · exact Nat.le_refl _
    rw [← h]; omega
  · cases h
theorem compP_len {n : Nod} (h : NodOk n) : (compP n).length ≤ 1000 := by
  have h1 := h.val cmpN
  unfold compP
  cases e : strsP ((valP n.props cmpN).getD []) with
  | none => simp
  | some l =>
    have := strsP_len e
    simp only [Option.getD_some]
    omega
def govV (o : Option Nat) : Value := .tuple #[.int .i64 ((o.getD 0 : Nat) : Int), .bool o.isSome]
theorem govF_drop {l : List Sch} {cs : List St} {k : Nat} (hk : k < cs.length) : govF l (cs.drop k) = match findC l cs[k] with
    | some j => some j
    | none => govF l (cs.drop (k + 1)) := by
  rw [List.drop_eq_getElem_cons hk, govF]
  all_goals (cases findC l cs[k] <;> rfl)
theorem gov_any (n : Nod) (a : Option Addr) (cap : Nat) (ts : List Sch) (sa : Option Addr) (sc : Nat) (w : World) (h : SlOf 2 RPrp w a n.props) (hn : NodOk n) (hM : MaxV w) (hs : SlOf 3 RSch w sa ts) (hl : ts.length ≤ 1000000) :
    Calls Tryz.prog 58 #[.agg #[.int .i64 n.parent, .string (bs n.name), .slice a n.props.length cap], .slice sa ts.length sc] w (Grows w (govV (govP n ts))) := by
  have H := Lib.hid h
  have HN := Lib.hid hn
  have HM := Lib.hid hM
  have HS := Lib.hid hs
  clear h hn hM hs
  obtain ⟨P0, hP0⟩ : ∃ P : Ending → World → Prop, P = Grows w (govV (govP n ts)) := ⟨_, rfl⟩
  rw [← hP0]
  have HP0 := Lib.hid hP0
  clear hP0
  go_enter Tryz.func58, Tryz.ntmps58
  go_upto_region 1 with (fail)
  have R1 := Lib.hid (Row.new w #[.int .i64 n.parent, .string (bs n.name), .slice a n.props.length cap] 86)
  obtain ⟨W, hW⟩ : ∃ W : World, Hid (W = w.alloc (.cells #[.int .i64 n.parent, .string (bs n.name), .slice a n.props.length cap] 86)) := ⟨_, Lib.hid rfl⟩
  have GW : Hid (Gr w W) := Lib.hid (by rw [hW.out]; exact (Gr.refl _).alloc _)
  rw [← hW.out] at R1 ⊢
  obtain ⟨PB, hPB⟩ : ∃ N : Nat, Hid (w.heap.size = N) := ⟨_, Lib.hid rfl⟩
  rw [hPB.out] at R1 ⊢
  clear hW hPB
  have x0 : W.cell? ⟨PB, 0, none⟩ = some (.int .i64 n.parent) := R1.out.cell 0 (by simp)
  have x1 : W.cell? ⟨PB, 1, none⟩ = some (.string (bs n.name)) := R1.out.cell 1 (by simp)
  have x2 : W.cell? ⟨PB, 2, none⟩ = some (.slice a n.props.length cap) := R1.out.cell 2 (by simp)
  have hx := has_of_cell x0
  go_wp2_with fail
  refine (comp_any n a cap W (H.out.gr RPrp.mono GW.out) HN.out (HM.out.gr GW.out)).mono ?_
  rintro e w1 ⟨v, rfl, hv, hg1⟩
  obtain ⟨ca, rfl⟩ := hv.form
  have SV := Lib.hid hv
  have G1 := Lib.hid (GW.out.trans hg1)
  have GP : Hid (govP n ts = govF ts (compP n)) := Lib.hid rfl
  have CL : Hid ((compP n).length ≤ 1000) := Lib.hid (compP_len HN.out)
  obtain ⟨cs, hcs⟩ : ∃ cs, compP n = cs := ⟨_, rfl⟩
  rw [hcs] at SV GP CL ⊢
  have cl := CL.out
  clear hv hg1 x0 x1 x2 hx hcs
  go_wp2_with fail
  go_loopw [13] (fun i wr => ∃ k : Nat, k ≤ cs.length ∧ i = .int .i64 (k : Int) ∧ govF ts cs = govF ts (cs.drop k) ∧ Gr w1 wr) (fun i _ => cs.length - (intOf i).toNat)
  case atStart => exact ⟨0, Nat.zero_le _, rfl, rfl, Gr.refl _⟩
  case round =>
    obtain ⟨k, hk, rfl, he, hg⟩ := hrel
    have HE := Lib.hid he
    have HG := Lib.hid hg
    clear he hg
    by_cases hlt : k < cs.length
    · obtain ⟨B, rfl, c0⟩ := (SV.out.gr HG.out).at hlt
      have hh := has_of_cell c0
      have FC := Lib.hid (find_any ts sa sc cs[k] wr (HS.out.giC (G1.out.trans HG.out)) hl)
      have GD := Lib.hid (govF_drop (l := ts) hlt)
      obtain ⟨s, hs2⟩ : ∃ s, cs[k] = s := ⟨_, rfl⟩
      rw [hs2] at c0 FC GD
      clear hs2
      cases hz : findC ts s with
      | none =>
        rw [hz] at FC GD
        simp only [Option.getD_none, Option.isSome_none] at FC
        go_wp2_with (go_at_call 92; refine FC.out.mono ?_; rintro e w' ⟨rfl, O, d, rfl⟩)
        go_roundw
        case rel => exact ⟨k + 1, by omega, by go_num, by rw [HE.out, GD.out], HG.out.xt _ _⟩
        case measure => simp [intOf]; omega
      | some j =>
        rw [hz] at FC GD
        simp only [Option.getD_some, Option.isSome_some] at FC
        go_wp2_with (go_at_call 92; refine FC.out.mono ?_; rintro e w' ⟨rfl, O, d, rfl⟩)
        rw [HP0.out]
        refine ⟨?_, (G1.out.trans HG.out).xt _ _⟩
        rw [GP.out, HE.out, GD.out]
        rfl
    · obtain rfl : k = cs.length := by omega
      go_wp2_with fail
      rw [HP0.out]
      refine ⟨?_, G1.out.trans HG.out⟩
      rw [GP.out, HE.out, List.drop_length]
      rfl
end Go.Proofs.YtbpkndiecomggaaGreatDoor
