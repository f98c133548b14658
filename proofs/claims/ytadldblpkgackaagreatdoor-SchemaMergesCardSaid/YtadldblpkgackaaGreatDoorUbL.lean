/- Two statements of schema.readRule by invariants (printed by wip/tools/uaj.py). -/
import Derived.Test.YtadldblpkgackaaGreatDoorUbI
set_option linter.unusedVariables false
set_option linter.unusedSimpArgs false
namespace Go.Proofs.YtadldblpkgackaaGreatDoor
open Go.RowKit
open Classical

/-- What is known of each slot as soon as its operation is done. -/
def ru20TF (wr w0 : World) (r : Rul) (ad : Option Addr) (c RB NB base BB TT : Nat) (vs : List Value) (line : St) (t3 t105 t106 t107 t108 t109 t110 t111 t112 t113 t114 t115 : Value) (d : Array Bool) (w : World) : Prop :=
  (Gr w0 w ∧ Row w NB 28 [.string (bs r.name), .bool r.req, .int .i64 r.kind, .int .i64 r.low, .int .i64 r.high, .int .i64 r.count, .slice ad r.words.length c] ∧ (d.getD 11 false = false → Row w RB 28 [.string ⟨#[]⟩, .bool false, .int .i64 0, .int .i64 0, .int .i64 0, .int .i64 0, .slice none 0 0]) ∧ (d.getD 11 false = false → Gr wr w) ∧ Row w BB TT vs) ∧ (d.getD 0 false = true → t105 = .agg #[.string (bs r.name), .bool r.req, .int .i64 r.kind, .int .i64 r.low, .int .i64 r.high, .int .i64 r.count, .slice ad r.words.length c]) ∧
  (d.getD 1 false = true → t106 = .agg #[.string (bs r.name), .bool r.req, .int .i64 r.kind, .int .i64 r.low, .int .i64 r.high, .int .i64 r.count, .slice ad r.words.length c]) ∧
  (d.getD 2 false = true → t107 = .bool true) ∧
  (d.getD 3 false = true → (t108 = .bool true ∧ d.getD 2 false = true)) ∧
  (d.getD 4 false = true → t109 = .agg #[.string (bs r.name), .bool r.req, .int .i64 r.kind, .int .i64 r.low, .int .i64 r.high, .int .i64 r.count, .slice ad r.words.length c]) ∧
  (d.getD 5 false = true → (d.getD 2 false = true ∧ (d.getD 11 false = false → w.ownsRow base 9 1 t110 (wordsP r).length (strV (wordsP r))))) ∧
  (d.getD 6 false = true → (t111 = .string (bs (Lib.join (wordsP r) [32])) ∧ d.getD 2 false = true ∧ d.getD 5 false = true)) ∧
  (d.getD 7 false = true → t112 = .string (bs (9 :: (Lib.join (wordsP r) [32])))) ∧
  (d.getD 8 false = true → t113 = .string (bs line)) ∧
  (d.getD 9 false = true → t114 = .bool ((9 :: (Lib.join (wordsP r) [32])) == line)) ∧
  (d.getD 10 false = true → t115 = .bool ((9 :: (Lib.join (wordsP r) [32])) == line)) ∧
  (d.getD 11 false = true → ((d.getD 0 false = true ∧ d.getD 2 false = true ∧ d.getD 5 false = true ∧ d.getD 6 false = true) ∧ Row w RB 28 [.string (bs r.name), .bool r.req, .int .i64 r.kind, .int .i64 r.low, .int .i64 r.high, .int .i64 r.count, .slice ad r.words.length c])) ∧
  (d.getD 12 false = true → t3 = .bool ((9 :: (Lib.join (wordsP r) [32])) == line))
/-- The frame. -/
def ru20TA (RB NB : Nat) (line : St) (t3 t105 t106 t107 t108 t109 t110 t111 t112 t113 t114 t115 s1 s4 s5 s6 s8 s9 s10 s11 s12 s13 s14 s15 s16 s17 s18 s19 s20 s21 s22 s23 s24 s25 s26 s27 s28 s29 s30 s31 s32 s33 s34 s35 s36 s37 s38 s39 s40 s41 s42 s43 s44 s45 s46 s47 s48 s49 s50 s51 s52 s53 s54 s55 s56 s57 s58 s59 s60 s61 s62 s63 s64 s65 s66 s67 s68 s69 s70 s71 s72 s73 s74 s75 s76 s77 s78 s79 s80 s81 s82 s83 s84 s85 s86 s87 s88 s89 s90 s91 s92 s93 s94 s95 s96 s97 s98 s99 s100 s101 s102 s103 s104 : Value) : Act := { tmps := #[.string (bs line), s1, .pointer (some ⟨RB, 0, none⟩), t3, s4, s5, s6, .pointer (some ⟨NB, 0, none⟩), s8, s9, s10, s11, s12, s13, s14, s15, s16, s17, s18, s19, s20, s21, s22, s23, s24, s25, s26, s27, s28, s29, s30, s31, s32, s33, s34, s35, s36, s37, s38, s39, s40, s41, s42, s43, s44, s45, s46, s47, s48, s49, s50, s51, s52, s53, s54, s55, s56, s57, s58, s59, s60, s61, s62, s63, s64, s65, s66, s67, s68, s69, s70, s71, s72, s73, s74, s75, s76, s77, s78, s79, s80, s81, s82, s83, s84, s85, s86, s87, s88, s89, s90, s91, s92, s93, s94, s95, s96, s97, s98, s99, s100, s101, s102, s103, s104, t105, t106, t107, t108, t109, t110, t111, t112, t113, t114, t115], defers := [] }

set_option maxRecDepth 100000 in
set_option maxHeartbeats 4000000 in
theorem ru20T {Q : Exit → Act → World → Prop} {wr w0 : World} {r : Rul} {ad : Option Addr} {c RB NB base BB TT : Nat} {vs : List Value} {line : St}  {s1 s3 s4 s5 s6 s8 s9 s10 s11 s12 s13 s14 s15 s16 s17 s18 s19 s20 s21 s22 s23 s24 s25 s26 s27 s28 s29 s30 s31 s32 s33 s34 s35 s36 s37 s38 s39 s40 s41 s42 s43 s44 s45 s46 s47 s48 s49 s50 s51 s52 s53 s54 s55 s56 s57 s58 s59 s60 s61 s62 s63 s64 s65 s66 s67 s68 s69 s70 s71 s72 s73 s74 s75 s76 s77 s78 s79 s80 s81 s82 s83 s84 s85 s86 s87 s88 s89 s90 s91 s92 s93 s94 s95 s96 s97 s98 s99 s100 s101 s102 s103 s104 s105 s106 s107 s108 s109 s110 s111 s112 s113 s114 s115 : Value} (hg0 : Gr w0 wr) (hbox : Row wr NB 28 [.string (bs r.name), .bool r.req, .int .i64 r.kind, .int .i64 r.low, .int .i64 r.high, .int .i64 r.count, .slice ad r.words.length c]) (hro : Row wr RB 28 [.string ⟨#[]⟩, .bool false, .int .i64 0, .int .i64 0, .int .i64 0, .int .i64 0, .slice none 0 0]) (hne : RB ≠ NB) (hs : w0.heap.size ≤ RB) (hkr : Row wr BB TT vs) (hbb : RB ≠ BB) (hbs : base ≤ w0.heap.size) (hv : ∀ W, Gr wr W → Calls Tryz.prog 38 #[.agg #[.string (bs r.name), .bool r.req, .int .i64 r.kind, .int .i64 r.low, .int .i64 r.high, .int .i64 r.count, .slice ad r.words.length c]] W (Grows W (.bool true))) (hw : ∀ W, Gr wr W → Calls Tryz.prog 48 #[.agg #[.string (bs r.name), .bool r.req, .int .i64 r.kind, .int .i64 r.low, .int .i64 r.high, .int .i64 r.count, .slice ad r.words.length c]] W fun e w' => ∃ v, e = .returned v ∧ w'.ownsRow W.heap.size 9 1 v (wordsP r).length (strV (wordsP r)) ∧ Gr W w') (hl : 0 < (wordsP r).length ∧ (wordsP r).length ≤ 1000 ∧ (Lib.join (wordsP r) [32]).length ≤ 1000000)
    (h' : ∀ t3 t105 t106 t107 t108 t109 t110 t111 t112 t113 t114 t115 wx, t3 = .bool ((9 :: (Lib.join (wordsP r) [32])) == line) → Row wx RB 28 [.string (bs r.name), .bool r.req, .int .i64 r.kind, .int .i64 r.low, .int .i64 r.high, .int .i64 r.count, .slice ad r.words.length c] → Gr w0 wx → Row wx BB TT vs → Q .normal (ru20TA RB NB line t3 t105 t106 t107 t108 t109 t110 t111 t112 t113 t114 t115 s1 s4 s5 s6 s8 s9 s10 s11 s12 s13 s14 s15 s16 s17 s18 s19 s20 s21 s22 s23 s24 s25 s26 s27 s28 s29 s30 s31 s32 s33 s34 s35 s36 s37 s38 s39 s40 s41 s42 s43 s44 s45 s46 s47 s48 s49 s50 s51 s52 s53 s54 s55 s56 s57 s58 s59 s60 s61 s62 s63 s64 s65 s66 s67 s68 s69 s70 s71 s72 s73 s74 s75 s76 s77 s78 s79 s80 s81 s82 s83 s84 s85 s86 s87 s88 s89 s90 s91 s92 s93 s94 s95 s96 s97 s98 s99 s100 s101 s102 s103 s104) wx) :
    (Code.region 20 (regIn 20 Tryz.f31) true).wp Tryz.prog Q { tmps := #[.string (bs line), s1, .pointer (some ⟨RB, 0, none⟩), s3, s4, s5, s6, .pointer (some ⟨NB, 0, none⟩), s8, s9, s10, s11, s12, s13, s14, s15, s16, s17, s18, s19, s20, s21, s22, s23, s24, s25, s26, s27, s28, s29, s30, s31, s32, s33, s34, s35, s36, s37, s38, s39, s40, s41, s42, s43, s44, s45, s46, s47, s48, s49, s50, s51, s52, s53, s54, s55, s56, s57, s58, s59, s60, s61, s62, s63, s64, s65, s66, s67, s68, s69, s70, s71, s72, s73, s74, s75, s76, s77, s78, s79, s80, s81, s82, s83, s84, s85, s86, s87, s88, s89, s90, s91, s92, s93, s94, s95, s96, s97, s98, s99, s100, s101, s102, s103, s104, s105, s106, s107, s108, s109, s110, s111, s112, s113, s114, s115], defers := [] } wr := by
  have BX := PLift.up hbox
  have RO := PLift.up hro
  have HN := PLift.up hne
  have HS := PLift.up hs
  have HB := PLift.up hbs
  have KR := PLift.up hkr
  have BBN := PLift.up hbb
  have HV := PLift.up hv
  clear hbox hro hne hs hbs hv hkr hbb
  have HW := PLift.up hw
  have HL := PLift.up hl
  clear hw hl
  simp only [regIn, Tryz.f31, regOps, Option.bind_some, Option.getD_some, Nat.beq, cond_true, cond_false]
  refine wp_region_steps (fun done a w => ∃ t3 t105 t106 t107 t108 t109 t110 t111 t112 t113 t114 t115, a = ru20TA RB NB line t3 t105 t106 t107 t108 t109 t110 t111 t112 t113 t114 t115 s1 s4 s5 s6 s8 s9 s10 s11 s12 s13 s14 s15 s16 s17 s18 s19 s20 s21 s22 s23 s24 s25 s26 s27 s28 s29 s30 s31 s32 s33 s34 s35 s36 s37 s38 s39 s40 s41 s42 s43 s44 s45 s46 s47 s48 s49 s50 s51 s52 s53 s54 s55 s56 s57 s58 s59 s60 s61 s62 s63 s64 s65 s66 s67 s68 s69 s70 s71 s72 s73 s74 s75 s76 s77 s78 s79 s80 s81 s82 s83 s84 s85 s86 s87 s88 s89 s90 s91 s92 s93 s94 s95 s96 s97 s98 s99 s100 s101 s102 s103 s104 ∧ ru20TF wr w0 r ad c RB NB base BB TT vs line t3 t105 t106 t107 t108 t109 t110 t111 t112 t113 t114 t115 done w) (by kernel_rfl) (by kernel_rfl) ?_ ⟨?_, ?_, ?_, ?_, ?_, ?_, ?_, ?_, ?_, ?_, ?_, ?_, ?_, trivial⟩ ?_
  · exact ⟨s3, s105, s106, s107, s108, s109, s110, s111, s112, s113, s114, s115, rfl, ⟨hg0.drew, BX.down.drew, fun _ => RO.down.drew, fun _ => (Gr.refl _).drew, KR.down.drew⟩, fun q => absurd q (by decide), fun q => absurd q (by decide), fun q => absurd q (by decide), fun q => absurd q (by decide), fun q => absurd q (by decide), fun q => absurd q (by decide), fun q => absurd q (by decide), fun q => absurd q (by decide), fun q => absurd q (by decide), fun q => absurd q (by decide), fun q => absurd q (by decide), fun q => absurd q (by decide), fun q => absurd q (by decide)⟩
  · rintro done a w hsz hnot hdep ⟨t3, t105, t106, t107, t108, t109, t110, t111, t112, t113, t114, t115, rfl, ⟨gw, gx⟩, f0, f1, f2, f3, f4, f5, f6, f7, f8, f9, f10, f11, f12⟩ K hK
    have hn : ¬ done.getD 0 false = true := by rw [getD_both hnot]; decide
    have b0 : w.cell? ⟨NB, 0, none⟩ = some (.string (bs r.name)) := gx.1.cell 0 (by simp)
    have b1 : w.cell? ⟨NB, 1, none⟩ = some (.bool r.req) := gx.1.cell 1 (by simp)
    have b2 : w.cell? ⟨NB, 2, none⟩ = some (.int .i64 r.kind) := gx.1.cell 2 (by simp)
    have b3 : w.cell? ⟨NB, 3, none⟩ = some (.int .i64 r.low) := gx.1.cell 3 (by simp)
    have b4 : w.cell? ⟨NB, 4, none⟩ = some (.int .i64 r.high) := gx.1.cell 4 (by simp)
    have b5 : w.cell? ⟨NB, 5, none⟩ = some (.int .i64 r.count) := gx.1.cell 5 (by simp)
    have b6 : w.cell? ⟨NB, 6, none⟩ = some (.slice ad r.words.length c) := gx.1.cell 6 (by simp)
    have ch := has_of_cell b0
    have HK := PLift.up hK
    clear hK 
    simp only [ru20TA]
    go_simp
    have gg : Gr w w := Gr.refl _
    refine HK.down _ _ ⟨_, _, _, _, _, _, _, _, _, _, _, _, rfl, ⟨gw, gx.1, fun q => gx.2.1 (by rw [getD_set_ne false (by decide)] at q; exact q), fun q => gx.2.2.1 (by rw [getD_set_ne false (by decide)] at q; exact q), gx.2.2.2⟩, fun _ => rfl, fun q => f1 (done_old q (by decide)), fun q => f2 (done_old q (by decide)), fun q => (let h := f3 (done_old q (by decide)); ⟨h.1, getD_set_true h.2⟩), fun q => f4 (done_old q (by decide)), fun q => ⟨getD_set_true (f5 (done_old q (by decide))).1, fun q2 => Gr.owns ((f5 (done_old q (by decide))).2 (by rw [getD_set_ne false (by decide)] at q2; exact q2)) gg⟩, fun q => (let h := f6 (done_old q (by decide)); ⟨h.1, getD_set_true h.2.1, getD_set_true h.2.2⟩), fun q => f7 (done_old q (by decide)), fun q => f8 (done_old q (by decide)), fun q => f9 (done_old q (by decide)), fun q => f10 (done_old q (by decide)), fun q => absurd (f11 (done_old q (by decide))).1.1 hn, fun q => f12 (done_old q (by decide))⟩
  · rintro done a w hsz hnot hdep ⟨t3, t105, t106, t107, t108, t109, t110, t111, t112, t113, t114, t115, rfl, ⟨gw, gx⟩, f0, f1, f2, f3, f4, f5, f6, f7, f8, f9, f10, f11, f12⟩ K hK
    have hn : ¬ done.getD 1 false = true := by rw [getD_both hnot]; decide
    have b0 : w.cell? ⟨NB, 0, none⟩ = some (.string (bs r.name)) := gx.1.cell 0 (by simp)
    have b1 : w.cell? ⟨NB, 1, none⟩ = some (.bool r.req) := gx.1.cell 1 (by simp)
    have b2 : w.cell? ⟨NB, 2, none⟩ = some (.int .i64 r.kind) := gx.1.cell 2 (by simp)
    have b3 : w.cell? ⟨NB, 3, none⟩ = some (.int .i64 r.low) := gx.1.cell 3 (by simp)
    have b4 : w.cell? ⟨NB, 4, none⟩ = some (.int .i64 r.high) := gx.1.cell 4 (by simp)
    have b5 : w.cell? ⟨NB, 5, none⟩ = some (.int .i64 r.count) := gx.1.cell 5 (by simp)
    have b6 : w.cell? ⟨NB, 6, none⟩ = some (.slice ad r.words.length c) := gx.1.cell 6 (by simp)
    have ch := has_of_cell b0
    have HK := PLift.up hK
    clear hK 
    simp only [ru20TA]
    go_simp
    have gg : Gr w w := Gr.refl _
    refine HK.down _ _ ⟨_, _, _, _, _, _, _, _, _, _, _, _, rfl, ⟨gw, gx.1, fun q => gx.2.1 (by rw [getD_set_ne false (by decide)] at q; exact q), fun q => gx.2.2.1 (by rw [getD_set_ne false (by decide)] at q; exact q), gx.2.2.2⟩, fun q => f0 (done_old q (by decide)), fun _ => rfl, fun q => f2 (done_old q (by decide)), fun q => (let h := f3 (done_old q (by decide)); ⟨h.1, getD_set_true h.2⟩), fun q => f4 (done_old q (by decide)), fun q => ⟨getD_set_true (f5 (done_old q (by decide))).1, fun q2 => Gr.owns ((f5 (done_old q (by decide))).2 (by rw [getD_set_ne false (by decide)] at q2; exact q2)) gg⟩, fun q => (let h := f6 (done_old q (by decide)); ⟨h.1, getD_set_true h.2.1, getD_set_true h.2.2⟩), fun q => f7 (done_old q (by decide)), fun q => f8 (done_old q (by decide)), fun q => f9 (done_old q (by decide)), fun q => f10 (done_old q (by decide)), fun q => (let h := f11 (done_old q (by decide)); ⟨⟨getD_set_true h.1.1, getD_set_true h.1.2.1, getD_set_true h.1.2.2.1, getD_set_true h.1.2.2.2⟩, h.2.gr gg⟩), fun q => f12 (done_old q (by decide))⟩
  · rintro done a w hsz hnot hdep ⟨t3, t105, t106, t107, t108, t109, t110, t111, t112, t113, t114, t115, rfl, ⟨gw, gx⟩, f0, f1, f2, f3, f4, f5, f6, f7, f8, f9, f10, f11, f12⟩ K hK
    have hn : ¬ done.getD 2 false = true := by rw [getD_both hnot]; decide
    have d1 := hdep 1 (by kernel_rfl)
    obtain rfl := f1 d1
    have n11 : done.getD 11 false = false := by cases hz : done.getD 11 false with | false => rfl | true => exact absurd (f11 hz).1.2.1 hn
    have GW := PLift.up (gx.2.2.1 n11)
    clear n11
    have HK := PLift.up hK
    clear hK d1
    simp only [ru20TA]
    go_simp
    refine (HV.down w GW.down).mono ?_
    rintro e w2 ⟨rfl, hg⟩
    have gg : Gr w w2 := hg
    clear hg
    (try go_simp)
    refine HK.down _ _ ⟨_, _, _, _, _, _, _, _, _, _, _, _, rfl, ⟨gw.trans gg, gx.1.gr gg, fun q => (gx.2.1 (by rw [getD_set_ne false (by decide)] at q; exact q)).gr gg, fun q => (gx.2.2.1 (by rw [getD_set_ne false (by decide)] at q; exact q)).trans gg, gx.2.2.2.gr gg⟩, fun q => f0 (done_old q (by decide)), fun q => f1 (done_old q (by decide)), fun _ => rfl, fun q => absurd (f3 (done_old q (by decide))).2 hn, fun q => f4 (done_old q (by decide)), fun q => absurd (f5 (done_old q (by decide))).1 hn, fun q => absurd (f6 (done_old q (by decide))).2.1 hn, fun q => f7 (done_old q (by decide)), fun q => f8 (done_old q (by decide)), fun q => f9 (done_old q (by decide)), fun q => f10 (done_old q (by decide)), fun q => absurd (f11 (done_old q (by decide))).1.2.1 hn, fun q => f12 (done_old q (by decide))⟩
  · rintro done a w hsz hnot hdep ⟨t3, t105, t106, t107, t108, t109, t110, t111, t112, t113, t114, t115, rfl, ⟨gw, gx⟩, f0, f1, f2, f3, f4, f5, f6, f7, f8, f9, f10, f11, f12⟩ K hK
    have hn : ¬ done.getD 3 false = true := by rw [getD_both hnot]; decide
    have d2 := hdep 2 (by kernel_rfl)
    obtain rfl := f2 d2
    have E2 := PLift.up d2
    have HK := PLift.up hK
    clear hK d2
    simp only [ru20TA]
    go_simp
    have gg : Gr w w := Gr.refl _
    refine HK.down _ _ ⟨_, _, _, _, _, _, _, _, _, _, _, _, rfl, ⟨gw, gx.1, fun q => gx.2.1 (by rw [getD_set_ne false (by decide)] at q; exact q), fun q => gx.2.2.1 (by rw [getD_set_ne false (by decide)] at q; exact q), gx.2.2.2⟩, fun q => f0 (done_old q (by decide)), fun q => f1 (done_old q (by decide)), fun q => (by first | rfl | exact f2 (done_old q (by decide))), ?_, fun q => f4 (done_old q (by decide)), fun q => ⟨getD_set_true (f5 (done_old q (by decide))).1, fun q2 => Gr.owns ((f5 (done_old q (by decide))).2 (by rw [getD_set_ne false (by decide)] at q2; exact q2)) gg⟩, fun q => (let h := f6 (done_old q (by decide)); ⟨h.1, getD_set_true h.2.1, getD_set_true h.2.2⟩), fun q => f7 (done_old q (by decide)), fun q => f8 (done_old q (by decide)), fun q => f9 (done_old q (by decide)), fun q => f10 (done_old q (by decide)), fun q => (let h := f11 (done_old q (by decide)); ⟨⟨getD_set_true h.1.1, getD_set_true h.1.2.1, getD_set_true h.1.2.2.1, getD_set_true h.1.2.2.2⟩, h.2.gr gg⟩), fun q => f12 (done_old q (by decide))⟩
    exact fun _ => ⟨rfl, getD_set_true E2.down⟩
  · rintro done a w hsz hnot hdep ⟨t3, t105, t106, t107, t108, t109, t110, t111, t112, t113, t114, t115, rfl, ⟨gw, gx⟩, f0, f1, f2, f3, f4, f5, f6, f7, f8, f9, f10, f11, f12⟩ K hK
    have hn : ¬ done.getD 4 false = true := by rw [getD_both hnot]; decide
    have d3 := hdep 3 (by kernel_rfl)
    obtain ⟨rfl, e2⟩ := f3 d3
    have E2 := PLift.up e2
    clear e2 d3
    have b0 : w.cell? ⟨NB, 0, none⟩ = some (.string (bs r.name)) := gx.1.cell 0 (by simp)
    have b1 : w.cell? ⟨NB, 1, none⟩ = some (.bool r.req) := gx.1.cell 1 (by simp)
    have b2 : w.cell? ⟨NB, 2, none⟩ = some (.int .i64 r.kind) := gx.1.cell 2 (by simp)
    have b3 : w.cell? ⟨NB, 3, none⟩ = some (.int .i64 r.low) := gx.1.cell 3 (by simp)
    have b4 : w.cell? ⟨NB, 4, none⟩ = some (.int .i64 r.high) := gx.1.cell 4 (by simp)
    have b5 : w.cell? ⟨NB, 5, none⟩ = some (.int .i64 r.count) := gx.1.cell 5 (by simp)
    have b6 : w.cell? ⟨NB, 6, none⟩ = some (.slice ad r.words.length c) := gx.1.cell 6 (by simp)
    have ch := has_of_cell b0
    have HK := PLift.up hK
    clear hK 
    simp only [ru20TA]
    go_simp
    have gg : Gr w w := Gr.refl _
    refine HK.down _ _ ⟨_, _, _, _, _, _, _, _, _, _, _, _, rfl, ⟨gw, gx.1, fun q => gx.2.1 (by rw [getD_set_ne false (by decide)] at q; exact q), fun q => gx.2.2.1 (by rw [getD_set_ne false (by decide)] at q; exact q), gx.2.2.2⟩, fun q => f0 (done_old q (by decide)), fun q => f1 (done_old q (by decide)), fun q => f2 (done_old q (by decide)), fun _ => ⟨rfl, getD_set_true E2.down⟩, fun _ => rfl, fun q => ⟨getD_set_true (f5 (done_old q (by decide))).1, fun q2 => Gr.owns ((f5 (done_old q (by decide))).2 (by rw [getD_set_ne false (by decide)] at q2; exact q2)) gg⟩, fun q => (let h := f6 (done_old q (by decide)); ⟨h.1, getD_set_true h.2.1, getD_set_true h.2.2⟩), fun q => f7 (done_old q (by decide)), fun q => f8 (done_old q (by decide)), fun q => f9 (done_old q (by decide)), fun q => f10 (done_old q (by decide)), fun q => (let h := f11 (done_old q (by decide)); ⟨⟨getD_set_true h.1.1, getD_set_true h.1.2.1, getD_set_true h.1.2.2.1, getD_set_true h.1.2.2.2⟩, h.2.gr gg⟩), fun q => f12 (done_old q (by decide))⟩
  · rintro done a w hsz hnot hdep ⟨t3, t105, t106, t107, t108, t109, t110, t111, t112, t113, t114, t115, rfl, ⟨gw, gx⟩, f0, f1, f2, f3, f4, f5, f6, f7, f8, f9, f10, f11, f12⟩ K hK
    have hn : ¬ done.getD 5 false = true := by rw [getD_both hnot]; decide
    have d4 := hdep 4 (by kernel_rfl)
    have d3 := hdep 3 (by kernel_rfl)
    obtain rfl := f4 d4
    have n11 : done.getD 11 false = false := by cases hz : done.getD 11 false with | false => rfl | true => exact absurd (f11 hz).1.2.2.1 hn
    have GW := PLift.up (gx.2.2.1 n11)
    have GV := PLift.up gw
    clear n11
    obtain ⟨rfl, e2⟩ := f3 d3
    have E2 := PLift.up e2
    clear e2 d3
    have HK := PLift.up hK
    clear hK d4
    simp only [ru20TA]
    go_simp
    refine (HW.down w GW.down).mono ?_
    rintro e w2 ⟨v, rfl, hown, hg⟩
    have gg : Gr w w2 := hg
    have OW := PLift.up (owns_low hown (Nat.le_trans HB.down GV.down.size))
    clear hg hown
    (try go_simp)
    refine HK.down _ _ ⟨_, _, _, _, _, _, _, _, _, _, _, _, rfl, ⟨gw.trans gg, gx.1.gr gg, fun q => (gx.2.1 (by rw [getD_set_ne false (by decide)] at q; exact q)).gr gg, fun q => (gx.2.2.1 (by rw [getD_set_ne false (by decide)] at q; exact q)).trans gg, gx.2.2.2.gr gg⟩, fun q => f0 (done_old q (by decide)), fun q => f1 (done_old q (by decide)), fun q => f2 (done_old q (by decide)), fun _ => ⟨rfl, getD_set_true E2.down⟩, fun q => f4 (done_old q (by decide)), ?_, fun q => absurd (f6 (done_old q (by decide))).2.2 hn, fun q => f7 (done_old q (by decide)), fun q => f8 (done_old q (by decide)), fun q => f9 (done_old q (by decide)), fun q => f10 (done_old q (by decide)), fun q => absurd (f11 (done_old q (by decide))).1.2.2.1 hn, fun q => f12 (done_old q (by decide))⟩
    exact fun _ => ⟨getD_set_true E2.down, fun _ => OW.down⟩
  · rintro done a w hsz hnot hdep ⟨t3, t105, t106, t107, t108, t109, t110, t111, t112, t113, t114, t115, rfl, ⟨gw, gx⟩, f0, f1, f2, f3, f4, f5, f6, f7, f8, f9, f10, f11, f12⟩ K hK
    have hn : ¬ done.getD 6 false = true := by rw [getD_both hnot]; decide
    have d5 := hdep 5 (by kernel_rfl)
    have d3 := hdep 3 (by kernel_rfl)
    have n11 : done.getD 11 false = false := by cases hz : done.getD 11 false with | false => rfl | true => exact absurd (f11 hz).1.2.2.2 hn
    have OW := PLift.up ((f5 d5).2 n11)
    have E5 := PLift.up d5
    clear n11
    obtain ⟨rfl, e2⟩ := f3 d3
    have E2 := PLift.up e2
    clear e2 d3
    have HK := PLift.up hK
    clear hK 
    simp only [ru20TA]
    go_simp
    refine (joinO_any (wordsP r) t110 base [32] w OW.down HL.down.1 HL.down.2.1 HL.down.2.2).mono ?_
    rintro e w2 ⟨rfl, hg⟩
    have gg : Gr w w2 := hg
    clear hg
    (try go_simp)
    refine HK.down _ _ ⟨_, _, _, _, _, _, _, _, _, _, _, _, rfl, ⟨gw.trans gg, gx.1.gr gg, fun q => (gx.2.1 (by rw [getD_set_ne false (by decide)] at q; exact q)).gr gg, fun q => (gx.2.2.1 (by rw [getD_set_ne false (by decide)] at q; exact q)).trans gg, gx.2.2.2.gr gg⟩, fun q => f0 (done_old q (by decide)), fun q => f1 (done_old q (by decide)), fun q => (by first | rfl | exact f2 (done_old q (by decide))), fun _ => ⟨rfl, getD_set_true E2.down⟩, fun q => f4 (done_old q (by decide)), fun q => ⟨getD_set_true (f5 (done_old q (by decide))).1, fun q2 => Gr.owns ((f5 (done_old q (by decide))).2 (by rw [getD_set_ne false (by decide)] at q2; exact q2)) gg⟩, ?_, fun q => f7 (done_old q (by decide)), fun q => f8 (done_old q (by decide)), fun q => f9 (done_old q (by decide)), fun q => f10 (done_old q (by decide)), fun q => absurd (f11 (done_old q (by decide))).1.2.2.2 hn, fun q => f12 (done_old q (by decide))⟩
    exact fun _ => ⟨rfl, getD_set_true E2.down, getD_set_true E5.down⟩
  · rintro done a w hsz hnot hdep ⟨t3, t105, t106, t107, t108, t109, t110, t111, t112, t113, t114, t115, rfl, ⟨gw, gx⟩, f0, f1, f2, f3, f4, f5, f6, f7, f8, f9, f10, f11, f12⟩ K hK
    have hn : ¬ done.getD 7 false = true := by rw [getD_both hnot]; decide
    have d6 := hdep 6 (by kernel_rfl)
    have d3 := hdep 3 (by kernel_rfl)
    obtain ⟨rfl, g2, e5⟩ := f6 d6
    have F2 := PLift.up g2
    have F5 := PLift.up e5
    clear g2 e5 d6
    obtain ⟨rfl, e2⟩ := f3 d3
    have E2 := PLift.up e2
    clear e2 d3
    have kl := HL.down.2.2
    have k2 : ¬ (9223372036854775807 < 1 + (Lib.join (wordsP r) [32]).length) := by omega
    have HK := PLift.up hK
    clear hK 
    simp only [ru20TA]
    go_simp
    have gg : Gr w w := Gr.refl _
    refine HK.down _ _ ⟨_, _, _, _, _, _, _, _, _, _, _, _, rfl, ⟨gw, gx.1, fun q => gx.2.1 (by rw [getD_set_ne false (by decide)] at q; exact q), fun q => gx.2.2.1 (by rw [getD_set_ne false (by decide)] at q; exact q), gx.2.2.2⟩, fun q => f0 (done_old q (by decide)), fun q => f1 (done_old q (by decide)), fun q => f2 (done_old q (by decide)), fun _ => ⟨rfl, getD_set_true E2.down⟩, fun q => f4 (done_old q (by decide)), fun q => ⟨getD_set_true (f5 (done_old q (by decide))).1, fun q2 => Gr.owns ((f5 (done_old q (by decide))).2 (by rw [getD_set_ne false (by decide)] at q2; exact q2)) gg⟩, fun _ => ⟨rfl, getD_set_true F2.down, getD_set_true F5.down⟩, fun _ => rfl, fun q => f8 (done_old q (by decide)), fun q => f9 (done_old q (by decide)), fun q => f10 (done_old q (by decide)), fun q => (let h := f11 (done_old q (by decide)); ⟨⟨getD_set_true h.1.1, getD_set_true h.1.2.1, getD_set_true h.1.2.2.1, getD_set_true h.1.2.2.2⟩, h.2.gr gg⟩), fun q => f12 (done_old q (by decide))⟩
  · rintro done a w hsz hnot hdep ⟨t3, t105, t106, t107, t108, t109, t110, t111, t112, t113, t114, t115, rfl, ⟨gw, gx⟩, f0, f1, f2, f3, f4, f5, f6, f7, f8, f9, f10, f11, f12⟩ K hK
    have hn : ¬ done.getD 8 false = true := by rw [getD_both hnot]; decide
    have d3 := hdep 3 (by kernel_rfl)
    obtain ⟨rfl, e2⟩ := f3 d3
    have E2 := PLift.up e2
    clear e2 d3
    have HK := PLift.up hK
    clear hK 
    simp only [ru20TA]
    go_simp
    have gg : Gr w w := Gr.refl _
    refine HK.down _ _ ⟨_, _, _, _, _, _, _, _, _, _, _, _, rfl, ⟨gw, gx.1, fun q => gx.2.1 (by rw [getD_set_ne false (by decide)] at q; exact q), fun q => gx.2.2.1 (by rw [getD_set_ne false (by decide)] at q; exact q), gx.2.2.2⟩, fun q => f0 (done_old q (by decide)), fun q => f1 (done_old q (by decide)), fun q => f2 (done_old q (by decide)), fun _ => ⟨rfl, getD_set_true E2.down⟩, fun q => f4 (done_old q (by decide)), fun q => ⟨getD_set_true (f5 (done_old q (by decide))).1, fun q2 => Gr.owns ((f5 (done_old q (by decide))).2 (by rw [getD_set_ne false (by decide)] at q2; exact q2)) gg⟩, fun q => (let h := f6 (done_old q (by decide)); ⟨h.1, getD_set_true h.2.1, getD_set_true h.2.2⟩), fun q => f7 (done_old q (by decide)), fun _ => rfl, fun q => f9 (done_old q (by decide)), fun q => f10 (done_old q (by decide)), fun q => (let h := f11 (done_old q (by decide)); ⟨⟨getD_set_true h.1.1, getD_set_true h.1.2.1, getD_set_true h.1.2.2.1, getD_set_true h.1.2.2.2⟩, h.2.gr gg⟩), fun q => f12 (done_old q (by decide))⟩
  · rintro done a w hsz hnot hdep ⟨t3, t105, t106, t107, t108, t109, t110, t111, t112, t113, t114, t115, rfl, ⟨gw, gx⟩, f0, f1, f2, f3, f4, f5, f6, f7, f8, f9, f10, f11, f12⟩ K hK
    have hn : ¬ done.getD 9 false = true := by rw [getD_both hnot]; decide
    have d7 := hdep 7 (by kernel_rfl)
    have d8 := hdep 8 (by kernel_rfl)
    have d3 := hdep 3 (by kernel_rfl)
    obtain rfl := f7 d7
    obtain rfl := f8 d8
    obtain ⟨rfl, e2⟩ := f3 d3
    have E2 := PLift.up e2
    clear e2 d3
    have HK := PLift.up hK
    clear hK d7 d8
    simp only [ru20TA]
    go_simp
    have gg : Gr w w := Gr.refl _
    refine HK.down _ _ ⟨_, _, _, _, _, _, _, _, _, _, _, _, rfl, ⟨gw, gx.1, fun q => gx.2.1 (by rw [getD_set_ne false (by decide)] at q; exact q), fun q => gx.2.2.1 (by rw [getD_set_ne false (by decide)] at q; exact q), gx.2.2.2⟩, fun q => f0 (done_old q (by decide)), fun q => f1 (done_old q (by decide)), fun q => f2 (done_old q (by decide)), fun _ => ⟨rfl, getD_set_true E2.down⟩, fun q => f4 (done_old q (by decide)), fun q => ⟨getD_set_true (f5 (done_old q (by decide))).1, fun q2 => Gr.owns ((f5 (done_old q (by decide))).2 (by rw [getD_set_ne false (by decide)] at q2; exact q2)) gg⟩, fun q => (let h := f6 (done_old q (by decide)); ⟨h.1, getD_set_true h.2.1, getD_set_true h.2.2⟩), fun q => f7 (done_old q (by decide)), fun q => f8 (done_old q (by decide)), fun _ => rfl, fun q => f10 (done_old q (by decide)), fun q => (let h := f11 (done_old q (by decide)); ⟨⟨getD_set_true h.1.1, getD_set_true h.1.2.1, getD_set_true h.1.2.2.1, getD_set_true h.1.2.2.2⟩, h.2.gr gg⟩), fun q => f12 (done_old q (by decide))⟩
  · rintro done a w hsz hnot hdep ⟨t3, t105, t106, t107, t108, t109, t110, t111, t112, t113, t114, t115, rfl, ⟨gw, gx⟩, f0, f1, f2, f3, f4, f5, f6, f7, f8, f9, f10, f11, f12⟩ K hK
    have hn : ¬ done.getD 10 false = true := by rw [getD_both hnot]; decide
    have d3 := hdep 3 (by kernel_rfl)
    have d9 := hdep 9 (by kernel_rfl)
    obtain rfl := f9 d9
    obtain ⟨rfl, e2⟩ := f3 d3
    have E2 := PLift.up e2
    clear e2 d3
    have HK := PLift.up hK
    clear hK d9
    simp only [ru20TA]
    go_simp
    have gg : Gr w w := Gr.refl _
    refine HK.down _ _ ⟨_, _, _, _, _, _, _, _, _, _, _, _, rfl, ⟨gw, gx.1, fun q => gx.2.1 (by rw [getD_set_ne false (by decide)] at q; exact q), fun q => gx.2.2.1 (by rw [getD_set_ne false (by decide)] at q; exact q), gx.2.2.2⟩, fun q => f0 (done_old q (by decide)), fun q => f1 (done_old q (by decide)), fun q => f2 (done_old q (by decide)), fun _ => ⟨rfl, getD_set_true E2.down⟩, fun q => f4 (done_old q (by decide)), fun q => ⟨getD_set_true (f5 (done_old q (by decide))).1, fun q2 => Gr.owns ((f5 (done_old q (by decide))).2 (by rw [getD_set_ne false (by decide)] at q2; exact q2)) gg⟩, fun q => (let h := f6 (done_old q (by decide)); ⟨h.1, getD_set_true h.2.1, getD_set_true h.2.2⟩), fun q => f7 (done_old q (by decide)), fun q => f8 (done_old q (by decide)), fun q => f9 (done_old q (by decide)), fun _ => rfl, fun q => (let h := f11 (done_old q (by decide)); ⟨⟨getD_set_true h.1.1, getD_set_true h.1.2.1, getD_set_true h.1.2.2.1, getD_set_true h.1.2.2.2⟩, h.2.gr gg⟩), fun q => f12 (done_old q (by decide))⟩
  · rintro done a w hsz hnot hdep ⟨t3, t105, t106, t107, t108, t109, t110, t111, t112, t113, t114, t115, rfl, ⟨gw, gx⟩, f0, f1, f2, f3, f4, f5, f6, f7, f8, f9, f10, f11, f12⟩ K hK
    have hn : ¬ done.getD 11 false = true := by rw [getD_both hnot]; decide
    have d0 := hdep 0 (by kernel_rfl)
    have d6 := hdep 6 (by kernel_rfl)
    obtain rfl := f0 d0
    have n11 := getD_both hnot
    have ro := gx.2.1 n11
    have r0 : w.cell? ⟨RB, 0, none⟩ = some (.string ⟨#[]⟩) := ro.cell 0 (by simp)
    have r1 : w.cell? ⟨RB, 1, none⟩ = some (.bool false) := ro.cell 1 (by simp)
    have r2 : w.cell? ⟨RB, 2, none⟩ = some (.int .i64 0) := ro.cell 2 (by simp)
    have r3 : w.cell? ⟨RB, 3, none⟩ = some (.int .i64 0) := ro.cell 3 (by simp)
    have r4 : w.cell? ⟨RB, 4, none⟩ = some (.int .i64 0) := ro.cell 4 (by simp)
    have r5 : w.cell? ⟨RB, 5, none⟩ = some (.int .i64 0) := ro.cell 5 (by simp)
    have r6 : w.cell? ⟨RB, 6, none⟩ = some (.slice none 0 0) := ro.cell 6 (by simp)
    have q0 := ro.free 0
    have q1 := ro.free 1
    have q2 := ro.free 2
    have q3 := ro.free 3
    have q4 := ro.free 4
    have q5 := ro.free 5
    have q6 := ro.free 6
    have ch := has_of_cell r0
    have D0 := PLift.up d0
    have D6 := PLift.up d6
    have X6 := PLift.up (f6 d6)
    have RN := PLift.up (show Row (((((((w.setCell ⟨RB, 0, none⟩ (.string (bs r.name))).setCell ⟨RB, 1, none⟩ (.bool r.req)).setCell ⟨RB, 2, none⟩ (.int .i64 r.kind)).setCell ⟨RB, 3, none⟩ (.int .i64 r.low)).setCell ⟨RB, 4, none⟩ (.int .i64 r.high)).setCell ⟨RB, 5, none⟩ (.int .i64 r.count)).setCell ⟨RB, 6, none⟩ (.slice ad r.words.length c)) RB 28 [.string (bs r.name), .bool r.req, .int .i64 r.kind, .int .i64 r.low, .int .i64 r.high, .int .i64 r.count, .slice ad r.words.length c] from (((((((ro.set 0 _).set 1 _).set 2 _).set 3 _).set 4 _).set 5 _).set 6 _))
    have BN := PLift.up (show Row (((((((w.setCell ⟨RB, 0, none⟩ (.string (bs r.name))).setCell ⟨RB, 1, none⟩ (.bool r.req)).setCell ⟨RB, 2, none⟩ (.int .i64 r.kind)).setCell ⟨RB, 3, none⟩ (.int .i64 r.low)).setCell ⟨RB, 4, none⟩ (.int .i64 r.high)).setCell ⟨RB, 5, none⟩ (.int .i64 r.count)).setCell ⟨RB, 6, none⟩ (.slice ad r.words.length c)) NB 28 [.string (bs r.name), .bool r.req, .int .i64 r.kind, .int .i64 r.low, .int .i64 r.high, .int .i64 r.count, .slice ad r.words.length c] from (((((((gx.1.oth HN.down).oth HN.down).oth HN.down).oth HN.down).oth HN.down).oth HN.down).oth HN.down))
    have GN := PLift.up (show Gr w0 (((((((w.setCell ⟨RB, 0, none⟩ (.string (bs r.name))).setCell ⟨RB, 1, none⟩ (.bool r.req)).setCell ⟨RB, 2, none⟩ (.int .i64 r.kind)).setCell ⟨RB, 3, none⟩ (.int .i64 r.low)).setCell ⟨RB, 4, none⟩ (.int .i64 r.high)).setCell ⟨RB, 5, none⟩ (.int .i64 r.count)).setCell ⟨RB, 6, none⟩ (.slice ad r.words.length c)) from (((((((gw.setc HS.down).setc HS.down).setc HS.down).setc HS.down).setc HS.down).setc HS.down).setc HS.down))
    have XN := PLift.up (show Row (((((((w.setCell ⟨RB, 0, none⟩ (.string (bs r.name))).setCell ⟨RB, 1, none⟩ (.bool r.req)).setCell ⟨RB, 2, none⟩ (.int .i64 r.kind)).setCell ⟨RB, 3, none⟩ (.int .i64 r.low)).setCell ⟨RB, 4, none⟩ (.int .i64 r.high)).setCell ⟨RB, 5, none⟩ (.int .i64 r.count)).setCell ⟨RB, 6, none⟩ (.slice ad r.words.length c)) BB TT vs from (((((((gx.2.2.2.oth BBN.down).oth BBN.down).oth BBN.down).oth BBN.down).oth BBN.down).oth BBN.down).oth BBN.down))
    clear ro
    have HK := PLift.up hK
    clear hK d0
    simp only [ru20TA]
    go_simp
    refine HK.down _ _ ⟨_, _, _, _, _, _, _, _, _, _, _, _, rfl, ⟨GN.down, BN.down, fun q => absurd q (by rw [getD_set_same (by rw [hsz]; decide)]; decide), fun q => absurd q (by rw [getD_set_same (by rw [hsz]; decide)]; decide), XN.down⟩, fun q => f0 (done_old q (by decide)), fun q => f1 (done_old q (by decide)), fun q => (by first | rfl | exact f2 (done_old q (by decide))), fun q => (let h := f3 (done_old q (by decide)); ⟨h.1, getD_set_true h.2⟩), fun q => f4 (done_old q (by decide)), fun q => ⟨getD_set_true (f5 (done_old q (by decide))).1, fun q2 => absurd q2 (by rw [getD_set_same (by rw [hsz]; decide)]; decide)⟩, fun _ => ⟨by first | rfl | exact X6.down.1, getD_set_true X6.down.2.1, getD_set_true X6.down.2.2⟩, fun q => f7 (done_old q (by decide)), fun q => f8 (done_old q (by decide)), fun q => f9 (done_old q (by decide)), fun q => f10 (done_old q (by decide)), ?_, fun q => f12 (done_old q (by decide))⟩
    exact fun _ => ⟨⟨getD_set_true D0.down, getD_set_true X6.down.2.1, getD_set_true X6.down.2.2, getD_set_true D6.down⟩, RN.down⟩
  · rintro done a w hsz hnot hdep ⟨t3, t105, t106, t107, t108, t109, t110, t111, t112, t113, t114, t115, rfl, ⟨gw, gx⟩, f0, f1, f2, f3, f4, f5, f6, f7, f8, f9, f10, f11, f12⟩ K hK
    have hn : ¬ done.getD 12 false = true := by rw [getD_both hnot]; decide
    have d10 := hdep 10 (by kernel_rfl)
    obtain rfl := f10 d10
    have HK := PLift.up hK
    clear hK d10
    simp only [ru20TA]
    go_simp
    have gg : Gr w w := Gr.refl _
    refine HK.down _ _ ⟨_, _, _, _, _, _, _, _, _, _, _, _, rfl, ⟨gw, gx.1, fun q => gx.2.1 (by rw [getD_set_ne false (by decide)] at q; exact q), fun q => gx.2.2.1 (by rw [getD_set_ne false (by decide)] at q; exact q), gx.2.2.2⟩, fun q => f0 (done_old q (by decide)), fun q => f1 (done_old q (by decide)), fun q => f2 (done_old q (by decide)), fun q => (let h := f3 (done_old q (by decide)); ⟨h.1, getD_set_true h.2⟩), fun q => f4 (done_old q (by decide)), fun q => ⟨getD_set_true (f5 (done_old q (by decide))).1, fun q2 => Gr.owns ((f5 (done_old q (by decide))).2 (by rw [getD_set_ne false (by decide)] at q2; exact q2)) gg⟩, fun q => (let h := f6 (done_old q (by decide)); ⟨h.1, getD_set_true h.2.1, getD_set_true h.2.2⟩), fun q => f7 (done_old q (by decide)), fun q => f8 (done_old q (by decide)), fun q => f9 (done_old q (by decide)), fun q => f10 (done_old q (by decide)), fun q => (let h := f11 (done_old q (by decide)); ⟨⟨getD_set_true h.1.1, getD_set_true h.1.2.1, getD_set_true h.1.2.2.1, getD_set_true h.1.2.2.2⟩, h.2.gr gg⟩), fun _ => rfl⟩
  · rintro done a w hall ⟨t3, t105, t106, t107, t108, t109, t110, t111, t112, t113, t114, t115, rfl, ⟨gw, gx⟩, f0, f1, f2, f3, f4, f5, f6, f7, f8, f9, f10, f11, f12⟩
    exact h' _ _ _ _ _ _ _ _ _ _ _ _ w (f12 (hall 12 (by decide))) (f11 (hall 11 (by decide))).2 gw gx.2.2.2
/-- What is known of each slot as soon as its operation is done. -/
def ru20FF (wr w0 : World) (r : Rul) (ad : Option Addr) (c RB NB base BB TT : Nat) (vs : List Value) (line : St) (t3 t105 t106 t107 t108 t109 t110 t111 t112 t113 t114 t115 : Value) (d : Array Bool) (w : World) : Prop :=
  (Gr w0 w ∧ Row w NB 28 [.string (bs r.name), .bool r.req, .int .i64 r.kind, .int .i64 r.low, .int .i64 r.high, .int .i64 r.count, .slice ad r.words.length c] ∧ (d.getD 11 false = false → Row w RB 28 [.string ⟨#[]⟩, .bool false, .int .i64 0, .int .i64 0, .int .i64 0, .int .i64 0, .slice none 0 0]) ∧ (d.getD 11 false = false → Gr wr w) ∧ Row w BB TT vs) ∧ (d.getD 0 false = true → t105 = .agg #[.string (bs r.name), .bool r.req, .int .i64 r.kind, .int .i64 r.low, .int .i64 r.high, .int .i64 r.count, .slice ad r.words.length c]) ∧
  (d.getD 1 false = true → t106 = .agg #[.string (bs r.name), .bool r.req, .int .i64 r.kind, .int .i64 r.low, .int .i64 r.high, .int .i64 r.count, .slice ad r.words.length c]) ∧
  (d.getD 2 false = true → t107 = .bool false) ∧
  (d.getD 3 false = true → (t108 = .bool false ∧ d.getD 2 false = true)) ∧
  (d.getD 4 false = true → d.getD 2 false = true) ∧
  (d.getD 5 false = true → d.getD 2 false = true) ∧
  (d.getD 6 false = true → d.getD 2 false = true) ∧
  (d.getD 7 false = true → d.getD 2 false = true) ∧
  (d.getD 8 false = true → d.getD 2 false = true) ∧
  (d.getD 9 false = true → d.getD 2 false = true) ∧
  (d.getD 10 false = true → t115 = .bool false) ∧
  (d.getD 11 false = true → ((d.getD 0 false = true ∧ d.getD 2 false = true) ∧ Row w RB 28 [.string (bs r.name), .bool r.req, .int .i64 r.kind, .int .i64 r.low, .int .i64 r.high, .int .i64 r.count, .slice ad r.words.length c])) ∧
  (d.getD 12 false = true → t3 = .bool false)
/-- The frame. -/
def ru20FA (RB NB : Nat) (line : St) (t3 t105 t106 t107 t108 t109 t110 t111 t112 t113 t114 t115 s1 s4 s5 s6 s8 s9 s10 s11 s12 s13 s14 s15 s16 s17 s18 s19 s20 s21 s22 s23 s24 s25 s26 s27 s28 s29 s30 s31 s32 s33 s34 s35 s36 s37 s38 s39 s40 s41 s42 s43 s44 s45 s46 s47 s48 s49 s50 s51 s52 s53 s54 s55 s56 s57 s58 s59 s60 s61 s62 s63 s64 s65 s66 s67 s68 s69 s70 s71 s72 s73 s74 s75 s76 s77 s78 s79 s80 s81 s82 s83 s84 s85 s86 s87 s88 s89 s90 s91 s92 s93 s94 s95 s96 s97 s98 s99 s100 s101 s102 s103 s104 : Value) : Act := { tmps := #[.string (bs line), s1, .pointer (some ⟨RB, 0, none⟩), t3, s4, s5, s6, .pointer (some ⟨NB, 0, none⟩), s8, s9, s10, s11, s12, s13, s14, s15, s16, s17, s18, s19, s20, s21, s22, s23, s24, s25, s26, s27, s28, s29, s30, s31, s32, s33, s34, s35, s36, s37, s38, s39, s40, s41, s42, s43, s44, s45, s46, s47, s48, s49, s50, s51, s52, s53, s54, s55, s56, s57, s58, s59, s60, s61, s62, s63, s64, s65, s66, s67, s68, s69, s70, s71, s72, s73, s74, s75, s76, s77, s78, s79, s80, s81, s82, s83, s84, s85, s86, s87, s88, s89, s90, s91, s92, s93, s94, s95, s96, s97, s98, s99, s100, s101, s102, s103, s104, t105, t106, t107, t108, t109, t110, t111, t112, t113, t114, t115], defers := [] }

set_option maxRecDepth 100000 in
set_option maxHeartbeats 4000000 in
theorem ru20F {Q : Exit → Act → World → Prop} {wr w0 : World} {r : Rul} {ad : Option Addr} {c RB NB base BB TT : Nat} {vs : List Value} {line : St}  {s1 s3 s4 s5 s6 s8 s9 s10 s11 s12 s13 s14 s15 s16 s17 s18 s19 s20 s21 s22 s23 s24 s25 s26 s27 s28 s29 s30 s31 s32 s33 s34 s35 s36 s37 s38 s39 s40 s41 s42 s43 s44 s45 s46 s47 s48 s49 s50 s51 s52 s53 s54 s55 s56 s57 s58 s59 s60 s61 s62 s63 s64 s65 s66 s67 s68 s69 s70 s71 s72 s73 s74 s75 s76 s77 s78 s79 s80 s81 s82 s83 s84 s85 s86 s87 s88 s89 s90 s91 s92 s93 s94 s95 s96 s97 s98 s99 s100 s101 s102 s103 s104 s105 s106 s107 s108 s109 s110 s111 s112 s113 s114 s115 : Value} (hg0 : Gr w0 wr) (hbox : Row wr NB 28 [.string (bs r.name), .bool r.req, .int .i64 r.kind, .int .i64 r.low, .int .i64 r.high, .int .i64 r.count, .slice ad r.words.length c]) (hro : Row wr RB 28 [.string ⟨#[]⟩, .bool false, .int .i64 0, .int .i64 0, .int .i64 0, .int .i64 0, .slice none 0 0]) (hne : RB ≠ NB) (hs : w0.heap.size ≤ RB) (hkr : Row wr BB TT vs) (hbb : RB ≠ BB) (hbs : base ≤ w0.heap.size) (hv : ∀ W, Gr wr W → Calls Tryz.prog 38 #[.agg #[.string (bs r.name), .bool r.req, .int .i64 r.kind, .int .i64 r.low, .int .i64 r.high, .int .i64 r.count, .slice ad r.words.length c]] W (Grows W (.bool false)))
    (h' : ∀ t3 t105 t106 t107 t108 t109 t110 t111 t112 t113 t114 t115 wx, t3 = .bool false → Row wx RB 28 [.string (bs r.name), .bool r.req, .int .i64 r.kind, .int .i64 r.low, .int .i64 r.high, .int .i64 r.count, .slice ad r.words.length c] → Gr w0 wx → Row wx BB TT vs → Q .normal (ru20FA RB NB line t3 t105 t106 t107 t108 t109 t110 t111 t112 t113 t114 t115 s1 s4 s5 s6 s8 s9 s10 s11 s12 s13 s14 s15 s16 s17 s18 s19 s20 s21 s22 s23 s24 s25 s26 s27 s28 s29 s30 s31 s32 s33 s34 s35 s36 s37 s38 s39 s40 s41 s42 s43 s44 s45 s46 s47 s48 s49 s50 s51 s52 s53 s54 s55 s56 s57 s58 s59 s60 s61 s62 s63 s64 s65 s66 s67 s68 s69 s70 s71 s72 s73 s74 s75 s76 s77 s78 s79 s80 s81 s82 s83 s84 s85 s86 s87 s88 s89 s90 s91 s92 s93 s94 s95 s96 s97 s98 s99 s100 s101 s102 s103 s104) wx) :
    (Code.region 20 (regIn 20 Tryz.f31) true).wp Tryz.prog Q { tmps := #[.string (bs line), s1, .pointer (some ⟨RB, 0, none⟩), s3, s4, s5, s6, .pointer (some ⟨NB, 0, none⟩), s8, s9, s10, s11, s12, s13, s14, s15, s16, s17, s18, s19, s20, s21, s22, s23, s24, s25, s26, s27, s28, s29, s30, s31, s32, s33, s34, s35, s36, s37, s38, s39, s40, s41, s42, s43, s44, s45, s46, s47, s48, s49, s50, s51, s52, s53, s54, s55, s56, s57, s58, s59, s60, s61, s62, s63, s64, s65, s66, s67, s68, s69, s70, s71, s72, s73, s74, s75, s76, s77, s78, s79, s80, s81, s82, s83, s84, s85, s86, s87, s88, s89, s90, s91, s92, s93, s94, s95, s96, s97, s98, s99, s100, s101, s102, s103, s104, s105, s106, s107, s108, s109, s110, s111, s112, s113, s114, s115], defers := [] } wr := by
  have BX := PLift.up hbox
  have RO := PLift.up hro
  have HN := PLift.up hne
  have HS := PLift.up hs
  have HB := PLift.up hbs
  have KR := PLift.up hkr
  have BBN := PLift.up hbb
  have HV := PLift.up hv
  clear hbox hro hne hs hbs hv hkr hbb
  simp only [regIn, Tryz.f31, regOps, Option.bind_some, Option.getD_some, Nat.beq, cond_true, cond_false]
  refine wp_region_steps (fun done a w => ∃ t3 t105 t106 t107 t108 t109 t110 t111 t112 t113 t114 t115, a = ru20FA RB NB line t3 t105 t106 t107 t108 t109 t110 t111 t112 t113 t114 t115 s1 s4 s5 s6 s8 s9 s10 s11 s12 s13 s14 s15 s16 s17 s18 s19 s20 s21 s22 s23 s24 s25 s26 s27 s28 s29 s30 s31 s32 s33 s34 s35 s36 s37 s38 s39 s40 s41 s42 s43 s44 s45 s46 s47 s48 s49 s50 s51 s52 s53 s54 s55 s56 s57 s58 s59 s60 s61 s62 s63 s64 s65 s66 s67 s68 s69 s70 s71 s72 s73 s74 s75 s76 s77 s78 s79 s80 s81 s82 s83 s84 s85 s86 s87 s88 s89 s90 s91 s92 s93 s94 s95 s96 s97 s98 s99 s100 s101 s102 s103 s104 ∧ ru20FF wr w0 r ad c RB NB base BB TT vs line t3 t105 t106 t107 t108 t109 t110 t111 t112 t113 t114 t115 done w) (by kernel_rfl) (by kernel_rfl) ?_ ⟨?_, ?_, ?_, ?_, ?_, ?_, ?_, ?_, ?_, ?_, ?_, ?_, ?_, trivial⟩ ?_
  · exact ⟨s3, s105, s106, s107, s108, s109, s110, s111, s112, s113, s114, s115, rfl, ⟨hg0.drew, BX.down.drew, fun _ => RO.down.drew, fun _ => (Gr.refl _).drew, KR.down.drew⟩, fun q => absurd q (by decide), fun q => absurd q (by decide), fun q => absurd q (by decide), fun q => absurd q (by decide), fun q => absurd q (by decide), fun q => absurd q (by decide), fun q => absurd q (by decide), fun q => absurd q (by decide), fun q => absurd q (by decide), fun q => absurd q (by decide), fun q => absurd q (by decide), fun q => absurd q (by decide), fun q => absurd q (by decide)⟩
  · rintro done a w hsz hnot hdep ⟨t3, t105, t106, t107, t108, t109, t110, t111, t112, t113, t114, t115, rfl, ⟨gw, gx⟩, f0, f1, f2, f3, f4, f5, f6, f7, f8, f9, f10, f11, f12⟩ K hK
    have hn : ¬ done.getD 0 false = true := by rw [getD_both hnot]; decide
    have b0 : w.cell? ⟨NB, 0, none⟩ = some (.string (bs r.name)) := gx.1.cell 0 (by simp)
    have b1 : w.cell? ⟨NB, 1, none⟩ = some (.bool r.req) := gx.1.cell 1 (by simp)
    have b2 : w.cell? ⟨NB, 2, none⟩ = some (.int .i64 r.kind) := gx.1.cell 2 (by simp)
    have b3 : w.cell? ⟨NB, 3, none⟩ = some (.int .i64 r.low) := gx.1.cell 3 (by simp)
    have b4 : w.cell? ⟨NB, 4, none⟩ = some (.int .i64 r.high) := gx.1.cell 4 (by simp)
    have b5 : w.cell? ⟨NB, 5, none⟩ = some (.int .i64 r.count) := gx.1.cell 5 (by simp)
    have b6 : w.cell? ⟨NB, 6, none⟩ = some (.slice ad r.words.length c) := gx.1.cell 6 (by simp)
    have ch := has_of_cell b0
    have HK := PLift.up hK
    clear hK 
    simp only [ru20FA]
    go_simp
    have gg : Gr w w := Gr.refl _
    refine HK.down _ _ ⟨_, _, _, _, _, _, _, _, _, _, _, _, rfl, ⟨gw, gx.1, fun q => gx.2.1 (by rw [getD_set_ne false (by decide)] at q; exact q), fun q => gx.2.2.1 (by rw [getD_set_ne false (by decide)] at q; exact q), gx.2.2.2⟩, fun _ => rfl, fun q => f1 (done_old q (by decide)), fun q => f2 (done_old q (by decide)), fun q => (let h := f3 (done_old q (by decide)); ⟨h.1, getD_set_true h.2⟩), fun q => getD_set_true (f4 (done_old q (by decide))), fun q => getD_set_true (f5 (done_old q (by decide))), fun q => getD_set_true (f6 (done_old q (by decide))), fun q => getD_set_true (f7 (done_old q (by decide))), fun q => getD_set_true (f8 (done_old q (by decide))), fun q => getD_set_true (f9 (done_old q (by decide))), fun q => f10 (done_old q (by decide)), fun q => absurd (f11 (done_old q (by decide))).1.1 hn, fun q => f12 (done_old q (by decide))⟩
  · rintro done a w hsz hnot hdep ⟨t3, t105, t106, t107, t108, t109, t110, t111, t112, t113, t114, t115, rfl, ⟨gw, gx⟩, f0, f1, f2, f3, f4, f5, f6, f7, f8, f9, f10, f11, f12⟩ K hK
    have hn : ¬ done.getD 1 false = true := by rw [getD_both hnot]; decide
    have b0 : w.cell? ⟨NB, 0, none⟩ = some (.string (bs r.name)) := gx.1.cell 0 (by simp)
    have b1 : w.cell? ⟨NB, 1, none⟩ = some (.bool r.req) := gx.1.cell 1 (by simp)
    have b2 : w.cell? ⟨NB, 2, none⟩ = some (.int .i64 r.kind) := gx.1.cell 2 (by simp)
    have b3 : w.cell? ⟨NB, 3, none⟩ = some (.int .i64 r.low) := gx.1.cell 3 (by simp)
    have b4 : w.cell? ⟨NB, 4, none⟩ = some (.int .i64 r.high) := gx.1.cell 4 (by simp)
    have b5 : w.cell? ⟨NB, 5, none⟩ = some (.int .i64 r.count) := gx.1.cell 5 (by simp)
    have b6 : w.cell? ⟨NB, 6, none⟩ = some (.slice ad r.words.length c) := gx.1.cell 6 (by simp)
    have ch := has_of_cell b0
    have HK := PLift.up hK
    clear hK 
    simp only [ru20FA]
    go_simp
    have gg : Gr w w := Gr.refl _
    refine HK.down _ _ ⟨_, _, _, _, _, _, _, _, _, _, _, _, rfl, ⟨gw, gx.1, fun q => gx.2.1 (by rw [getD_set_ne false (by decide)] at q; exact q), fun q => gx.2.2.1 (by rw [getD_set_ne false (by decide)] at q; exact q), gx.2.2.2⟩, fun q => f0 (done_old q (by decide)), fun _ => rfl, fun q => f2 (done_old q (by decide)), fun q => (let h := f3 (done_old q (by decide)); ⟨h.1, getD_set_true h.2⟩), fun q => getD_set_true (f4 (done_old q (by decide))), fun q => getD_set_true (f5 (done_old q (by decide))), fun q => getD_set_true (f6 (done_old q (by decide))), fun q => getD_set_true (f7 (done_old q (by decide))), fun q => getD_set_true (f8 (done_old q (by decide))), fun q => getD_set_true (f9 (done_old q (by decide))), fun q => f10 (done_old q (by decide)), fun q => (let h := f11 (done_old q (by decide)); ⟨⟨getD_set_true h.1.1, getD_set_true h.1.2⟩, h.2.gr gg⟩), fun q => f12 (done_old q (by decide))⟩
  · rintro done a w hsz hnot hdep ⟨t3, t105, t106, t107, t108, t109, t110, t111, t112, t113, t114, t115, rfl, ⟨gw, gx⟩, f0, f1, f2, f3, f4, f5, f6, f7, f8, f9, f10, f11, f12⟩ K hK
    have hn : ¬ done.getD 2 false = true := by rw [getD_both hnot]; decide
    have d1 := hdep 1 (by kernel_rfl)
    obtain rfl := f1 d1
    have n11 : done.getD 11 false = false := by cases hz : done.getD 11 false with | false => rfl | true => exact absurd (f11 hz).1.2 hn
    have GW := PLift.up (gx.2.2.1 n11)
    clear n11
    have HK := PLift.up hK
    clear hK d1
    simp only [ru20FA]
    go_simp
    refine (HV.down w GW.down).mono ?_
    rintro e w2 ⟨rfl, hg⟩
    have gg : Gr w w2 := hg
    clear hg
    (try go_simp)
    refine HK.down _ _ ⟨_, _, _, _, _, _, _, _, _, _, _, _, rfl, ⟨gw.trans gg, gx.1.gr gg, fun q => (gx.2.1 (by rw [getD_set_ne false (by decide)] at q; exact q)).gr gg, fun q => (gx.2.2.1 (by rw [getD_set_ne false (by decide)] at q; exact q)).trans gg, gx.2.2.2.gr gg⟩, fun q => f0 (done_old q (by decide)), fun q => f1 (done_old q (by decide)), fun _ => rfl, fun q => absurd (f3 (done_old q (by decide))).2 hn, fun q => absurd (f4 (done_old q (by decide))) hn, fun q => absurd (f5 (done_old q (by decide))) hn, fun q => absurd (f6 (done_old q (by decide))) hn, fun q => absurd (f7 (done_old q (by decide))) hn, fun q => absurd (f8 (done_old q (by decide))) hn, fun q => absurd (f9 (done_old q (by decide))) hn, fun q => f10 (done_old q (by decide)), fun q => absurd (f11 (done_old q (by decide))).1.2 hn, fun q => f12 (done_old q (by decide))⟩
  · rintro done a w hsz hnot hdep ⟨t3, t105, t106, t107, t108, t109, t110, t111, t112, t113, t114, t115, rfl, ⟨gw, gx⟩, f0, f1, f2, f3, f4, f5, f6, f7, f8, f9, f10, f11, f12⟩ K hK
    have hn : ¬ done.getD 3 false = true := by rw [getD_both hnot]; decide
    have d2 := hdep 2 (by kernel_rfl)
    obtain rfl := f2 d2
    have E2 := PLift.up d2
    have HK := PLift.up hK
    clear hK d2
    simp only [ru20FA]
    go_simp
    have gg : Gr w w := Gr.refl _
    refine HK.down _ _ ⟨_, _, _, _, _, _, _, _, _, _, _, _, rfl, ⟨gw, gx.1, fun q => gx.2.1 (by rw [getD_set_ne false (by decide)] at q; exact q), fun q => gx.2.2.1 (by rw [getD_set_ne false (by decide)] at q; exact q), gx.2.2.2⟩, fun q => f0 (done_old q (by decide)), fun q => f1 (done_old q (by decide)), fun q => (by first | rfl | exact f2 (done_old q (by decide))), ?_, fun q => getD_set_true (f4 (done_old q (by decide))), fun q => getD_set_true (f5 (done_old q (by decide))), fun q => getD_set_true (f6 (done_old q (by decide))), fun q => getD_set_true (f7 (done_old q (by decide))), fun q => getD_set_true (f8 (done_old q (by decide))), fun q => getD_set_true (f9 (done_old q (by decide))), fun q => f10 (done_old q (by decide)), fun q => (let h := f11 (done_old q (by decide)); ⟨⟨getD_set_true h.1.1, getD_set_true h.1.2⟩, h.2.gr gg⟩), fun q => f12 (done_old q (by decide))⟩
    exact fun _ => ⟨rfl, getD_set_true E2.down⟩
  · rintro done a w hsz hnot hdep ⟨t3, t105, t106, t107, t108, t109, t110, t111, t112, t113, t114, t115, rfl, ⟨gw, gx⟩, f0, f1, f2, f3, f4, f5, f6, f7, f8, f9, f10, f11, f12⟩ K hK
    have hn : ¬ done.getD 4 false = true := by rw [getD_both hnot]; decide
    have d3 := hdep 3 (by kernel_rfl)
    obtain ⟨rfl, e2⟩ := f3 d3
    have E2 := PLift.up e2
    clear e2 d3
    have HK := PLift.up hK
    clear hK 
    simp only [ru20FA]
    go_simp
    have gg : Gr w w := Gr.refl _
    refine HK.down _ _ ⟨_, _, _, _, _, _, _, _, _, _, _, _, rfl, ⟨gw, gx.1, fun q => gx.2.1 (by rw [getD_set_ne false (by decide)] at q; exact q), fun q => gx.2.2.1 (by rw [getD_set_ne false (by decide)] at q; exact q), gx.2.2.2⟩, fun q => f0 (done_old q (by decide)), fun q => f1 (done_old q (by decide)), fun q => f2 (done_old q (by decide)), fun _ => ⟨rfl, getD_set_true E2.down⟩, ?_, fun q => getD_set_true (f5 (done_old q (by decide))), fun q => getD_set_true (f6 (done_old q (by decide))), fun q => getD_set_true (f7 (done_old q (by decide))), fun q => getD_set_true (f8 (done_old q (by decide))), fun q => getD_set_true (f9 (done_old q (by decide))), fun q => f10 (done_old q (by decide)), fun q => (let h := f11 (done_old q (by decide)); ⟨⟨getD_set_true h.1.1, getD_set_true h.1.2⟩, h.2.gr gg⟩), fun q => f12 (done_old q (by decide))⟩
    exact fun _ => getD_set_true E2.down
  · rintro done a w hsz hnot hdep ⟨t3, t105, t106, t107, t108, t109, t110, t111, t112, t113, t114, t115, rfl, ⟨gw, gx⟩, f0, f1, f2, f3, f4, f5, f6, f7, f8, f9, f10, f11, f12⟩ K hK
    have hn : ¬ done.getD 5 false = true := by rw [getD_both hnot]; decide
    have d3 := hdep 3 (by kernel_rfl)
    obtain ⟨rfl, e2⟩ := f3 d3
    have E2 := PLift.up e2
    clear e2 d3
    have HK := PLift.up hK
    clear hK 
    simp only [ru20FA]
    go_simp
    have gg : Gr w w := Gr.refl _
    refine HK.down _ _ ⟨_, _, _, _, _, _, _, _, _, _, _, _, rfl, ⟨gw, gx.1, fun q => gx.2.1 (by rw [getD_set_ne false (by decide)] at q; exact q), fun q => gx.2.2.1 (by rw [getD_set_ne false (by decide)] at q; exact q), gx.2.2.2⟩, fun q => f0 (done_old q (by decide)), fun q => f1 (done_old q (by decide)), fun q => f2 (done_old q (by decide)), fun _ => ⟨rfl, getD_set_true E2.down⟩, fun q => getD_set_true (f4 (done_old q (by decide))), ?_, fun q => getD_set_true (f6 (done_old q (by decide))), fun q => getD_set_true (f7 (done_old q (by decide))), fun q => getD_set_true (f8 (done_old q (by decide))), fun q => getD_set_true (f9 (done_old q (by decide))), fun q => f10 (done_old q (by decide)), fun q => (let h := f11 (done_old q (by decide)); ⟨⟨getD_set_true h.1.1, getD_set_true h.1.2⟩, h.2.gr gg⟩), fun q => f12 (done_old q (by decide))⟩
    exact fun _ => getD_set_true E2.down
  · rintro done a w hsz hnot hdep ⟨t3, t105, t106, t107, t108, t109, t110, t111, t112, t113, t114, t115, rfl, ⟨gw, gx⟩, f0, f1, f2, f3, f4, f5, f6, f7, f8, f9, f10, f11, f12⟩ K hK
    have hn : ¬ done.getD 6 false = true := by rw [getD_both hnot]; decide
    have d3 := hdep 3 (by kernel_rfl)
    obtain ⟨rfl, e2⟩ := f3 d3
    have E2 := PLift.up e2
    clear e2 d3
    have HK := PLift.up hK
    clear hK 
    simp only [ru20FA]
    go_simp
    have gg : Gr w w := Gr.refl _
    refine HK.down _ _ ⟨_, _, _, _, _, _, _, _, _, _, _, _, rfl, ⟨gw, gx.1, fun q => gx.2.1 (by rw [getD_set_ne false (by decide)] at q; exact q), fun q => gx.2.2.1 (by rw [getD_set_ne false (by decide)] at q; exact q), gx.2.2.2⟩, fun q => f0 (done_old q (by decide)), fun q => f1 (done_old q (by decide)), fun q => f2 (done_old q (by decide)), fun _ => ⟨rfl, getD_set_true E2.down⟩, fun q => getD_set_true (f4 (done_old q (by decide))), fun q => getD_set_true (f5 (done_old q (by decide))), ?_, fun q => getD_set_true (f7 (done_old q (by decide))), fun q => getD_set_true (f8 (done_old q (by decide))), fun q => getD_set_true (f9 (done_old q (by decide))), fun q => f10 (done_old q (by decide)), fun q => (let h := f11 (done_old q (by decide)); ⟨⟨getD_set_true h.1.1, getD_set_true h.1.2⟩, h.2.gr gg⟩), fun q => f12 (done_old q (by decide))⟩
    exact fun _ => getD_set_true E2.down
  · rintro done a w hsz hnot hdep ⟨t3, t105, t106, t107, t108, t109, t110, t111, t112, t113, t114, t115, rfl, ⟨gw, gx⟩, f0, f1, f2, f3, f4, f5, f6, f7, f8, f9, f10, f11, f12⟩ K hK
    have hn : ¬ done.getD 7 false = true := by rw [getD_both hnot]; decide
    have d3 := hdep 3 (by kernel_rfl)
    obtain ⟨rfl, e2⟩ := f3 d3
    have E2 := PLift.up e2
    clear e2 d3
    have HK := PLift.up hK
    clear hK 
    simp only [ru20FA]
    go_simp
    have gg : Gr w w := Gr.refl _
    refine HK.down _ _ ⟨_, _, _, _, _, _, _, _, _, _, _, _, rfl, ⟨gw, gx.1, fun q => gx.2.1 (by rw [getD_set_ne false (by decide)] at q; exact q), fun q => gx.2.2.1 (by rw [getD_set_ne false (by decide)] at q; exact q), gx.2.2.2⟩, fun q => f0 (done_old q (by decide)), fun q => f1 (done_old q (by decide)), fun q => f2 (done_old q (by decide)), fun _ => ⟨rfl, getD_set_true E2.down⟩, fun q => getD_set_true (f4 (done_old q (by decide))), fun q => getD_set_true (f5 (done_old q (by decide))), fun q => getD_set_true (f6 (done_old q (by decide))), ?_, fun q => getD_set_true (f8 (done_old q (by decide))), fun q => getD_set_true (f9 (done_old q (by decide))), fun q => f10 (done_old q (by decide)), fun q => (let h := f11 (done_old q (by decide)); ⟨⟨getD_set_true h.1.1, getD_set_true h.1.2⟩, h.2.gr gg⟩), fun q => f12 (done_old q (by decide))⟩
    exact fun _ => getD_set_true E2.down
  · rintro done a w hsz hnot hdep ⟨t3, t105, t106, t107, t108, t109, t110, t111, t112, t113, t114, t115, rfl, ⟨gw, gx⟩, f0, f1, f2, f3, f4, f5, f6, f7, f8, f9, f10, f11, f12⟩ K hK
    have hn : ¬ done.getD 8 false = true := by rw [getD_both hnot]; decide
    have d3 := hdep 3 (by kernel_rfl)
    obtain ⟨rfl, e2⟩ := f3 d3
    have E2 := PLift.up e2
    clear e2 d3
    have HK := PLift.up hK
    clear hK 
    simp only [ru20FA]
    go_simp
    have gg : Gr w w := Gr.refl _
    refine HK.down _ _ ⟨_, _, _, _, _, _, _, _, _, _, _, _, rfl, ⟨gw, gx.1, fun q => gx.2.1 (by rw [getD_set_ne false (by decide)] at q; exact q), fun q => gx.2.2.1 (by rw [getD_set_ne false (by decide)] at q; exact q), gx.2.2.2⟩, fun q => f0 (done_old q (by decide)), fun q => f1 (done_old q (by decide)), fun q => f2 (done_old q (by decide)), fun _ => ⟨rfl, getD_set_true E2.down⟩, fun q => getD_set_true (f4 (done_old q (by decide))), fun q => getD_set_true (f5 (done_old q (by decide))), fun q => getD_set_true (f6 (done_old q (by decide))), fun q => getD_set_true (f7 (done_old q (by decide))), ?_, fun q => getD_set_true (f9 (done_old q (by decide))), fun q => f10 (done_old q (by decide)), fun q => (let h := f11 (done_old q (by decide)); ⟨⟨getD_set_true h.1.1, getD_set_true h.1.2⟩, h.2.gr gg⟩), fun q => f12 (done_old q (by decide))⟩
    exact fun _ => getD_set_true E2.down
  · rintro done a w hsz hnot hdep ⟨t3, t105, t106, t107, t108, t109, t110, t111, t112, t113, t114, t115, rfl, ⟨gw, gx⟩, f0, f1, f2, f3, f4, f5, f6, f7, f8, f9, f10, f11, f12⟩ K hK
    have hn : ¬ done.getD 9 false = true := by rw [getD_both hnot]; decide
    have d3 := hdep 3 (by kernel_rfl)
    obtain ⟨rfl, e2⟩ := f3 d3
    have E2 := PLift.up e2
    clear e2 d3
    have HK := PLift.up hK
    clear hK 
    simp only [ru20FA]
    go_simp
    have gg : Gr w w := Gr.refl _
    refine HK.down _ _ ⟨_, _, _, _, _, _, _, _, _, _, _, _, rfl, ⟨gw, gx.1, fun q => gx.2.1 (by rw [getD_set_ne false (by decide)] at q; exact q), fun q => gx.2.2.1 (by rw [getD_set_ne false (by decide)] at q; exact q), gx.2.2.2⟩, fun q => f0 (done_old q (by decide)), fun q => f1 (done_old q (by decide)), fun q => f2 (done_old q (by decide)), fun _ => ⟨rfl, getD_set_true E2.down⟩, fun q => getD_set_true (f4 (done_old q (by decide))), fun q => getD_set_true (f5 (done_old q (by decide))), fun q => getD_set_true (f6 (done_old q (by decide))), fun q => getD_set_true (f7 (done_old q (by decide))), fun q => getD_set_true (f8 (done_old q (by decide))), ?_, fun q => f10 (done_old q (by decide)), fun q => (let h := f11 (done_old q (by decide)); ⟨⟨getD_set_true h.1.1, getD_set_true h.1.2⟩, h.2.gr gg⟩), fun q => f12 (done_old q (by decide))⟩
    exact fun _ => getD_set_true E2.down
  · rintro done a w hsz hnot hdep ⟨t3, t105, t106, t107, t108, t109, t110, t111, t112, t113, t114, t115, rfl, ⟨gw, gx⟩, f0, f1, f2, f3, f4, f5, f6, f7, f8, f9, f10, f11, f12⟩ K hK
    have hn : ¬ done.getD 10 false = true := by rw [getD_both hnot]; decide
    have d3 := hdep 3 (by kernel_rfl)
    obtain ⟨rfl, e2⟩ := f3 d3
    have E2 := PLift.up e2
    clear e2 d3
    have HK := PLift.up hK
    clear hK 
    simp only [ru20FA]
    go_simp
    have gg : Gr w w := Gr.refl _
    refine HK.down _ _ ⟨_, _, _, _, _, _, _, _, _, _, _, _, rfl, ⟨gw, gx.1, fun q => gx.2.1 (by rw [getD_set_ne false (by decide)] at q; exact q), fun q => gx.2.2.1 (by rw [getD_set_ne false (by decide)] at q; exact q), gx.2.2.2⟩, fun q => f0 (done_old q (by decide)), fun q => f1 (done_old q (by decide)), fun q => f2 (done_old q (by decide)), fun _ => ⟨rfl, getD_set_true E2.down⟩, fun q => getD_set_true (f4 (done_old q (by decide))), fun q => getD_set_true (f5 (done_old q (by decide))), fun q => getD_set_true (f6 (done_old q (by decide))), fun q => getD_set_true (f7 (done_old q (by decide))), fun q => getD_set_true (f8 (done_old q (by decide))), fun q => getD_set_true (f9 (done_old q (by decide))), fun _ => rfl, fun q => (let h := f11 (done_old q (by decide)); ⟨⟨getD_set_true h.1.1, getD_set_true h.1.2⟩, h.2.gr gg⟩), fun q => f12 (done_old q (by decide))⟩
  · rintro done a w hsz hnot hdep ⟨t3, t105, t106, t107, t108, t109, t110, t111, t112, t113, t114, t115, rfl, ⟨gw, gx⟩, f0, f1, f2, f3, f4, f5, f6, f7, f8, f9, f10, f11, f12⟩ K hK
    have hn : ¬ done.getD 11 false = true := by rw [getD_both hnot]; decide
    have d0 := hdep 0 (by kernel_rfl)
    have d6 := hdep 6 (by kernel_rfl)
    obtain rfl := f0 d0
    have n11 := getD_both hnot
    have ro := gx.2.1 n11
    have r0 : w.cell? ⟨RB, 0, none⟩ = some (.string ⟨#[]⟩) := ro.cell 0 (by simp)
    have r1 : w.cell? ⟨RB, 1, none⟩ = some (.bool false) := ro.cell 1 (by simp)
    have r2 : w.cell? ⟨RB, 2, none⟩ = some (.int .i64 0) := ro.cell 2 (by simp)
    have r3 : w.cell? ⟨RB, 3, none⟩ = some (.int .i64 0) := ro.cell 3 (by simp)
    have r4 : w.cell? ⟨RB, 4, none⟩ = some (.int .i64 0) := ro.cell 4 (by simp)
    have r5 : w.cell? ⟨RB, 5, none⟩ = some (.int .i64 0) := ro.cell 5 (by simp)
    have r6 : w.cell? ⟨RB, 6, none⟩ = some (.slice none 0 0) := ro.cell 6 (by simp)
    have q0 := ro.free 0
    have q1 := ro.free 1
    have q2 := ro.free 2
    have q3 := ro.free 3
    have q4 := ro.free 4
    have q5 := ro.free 5
    have q6 := ro.free 6
    have ch := has_of_cell r0
    have D0 := PLift.up d0
    have X6 := PLift.up (f6 d6)
    have RN := PLift.up (show Row (((((((w.setCell ⟨RB, 0, none⟩ (.string (bs r.name))).setCell ⟨RB, 1, none⟩ (.bool r.req)).setCell ⟨RB, 2, none⟩ (.int .i64 r.kind)).setCell ⟨RB, 3, none⟩ (.int .i64 r.low)).setCell ⟨RB, 4, none⟩ (.int .i64 r.high)).setCell ⟨RB, 5, none⟩ (.int .i64 r.count)).setCell ⟨RB, 6, none⟩ (.slice ad r.words.length c)) RB 28 [.string (bs r.name), .bool r.req, .int .i64 r.kind, .int .i64 r.low, .int .i64 r.high, .int .i64 r.count, .slice ad r.words.length c] from (((((((ro.set 0 _).set 1 _).set 2 _).set 3 _).set 4 _).set 5 _).set 6 _))
    have BN := PLift.up (show Row (((((((w.setCell ⟨RB, 0, none⟩ (.string (bs r.name))).setCell ⟨RB, 1, none⟩ (.bool r.req)).setCell ⟨RB, 2, none⟩ (.int .i64 r.kind)).setCell ⟨RB, 3, none⟩ (.int .i64 r.low)).setCell ⟨RB, 4, none⟩ (.int .i64 r.high)).setCell ⟨RB, 5, none⟩ (.int .i64 r.count)).setCell ⟨RB, 6, none⟩ (.slice ad r.words.length c)) NB 28 [.string (bs r.name), .bool r.req, .int .i64 r.kind, .int .i64 r.low, .int .i64 r.high, .int .i64 r.count, .slice ad r.words.length c] from (((((((gx.1.oth HN.down).oth HN.down).oth HN.down).oth HN.down).oth HN.down).oth HN.down).oth HN.down))
    have GN := PLift.up (show Gr w0 (((((((w.setCell ⟨RB, 0, none⟩ (.string (bs r.name))).setCell ⟨RB, 1, none⟩ (.bool r.req)).setCell ⟨RB, 2, none⟩ (.int .i64 r.kind)).setCell ⟨RB, 3, none⟩ (.int .i64 r.low)).setCell ⟨RB, 4, none⟩ (.int .i64 r.high)).setCell ⟨RB, 5, none⟩ (.int .i64 r.count)).setCell ⟨RB, 6, none⟩ (.slice ad r.words.length c)) from (((((((gw.setc HS.down).setc HS.down).setc HS.down).setc HS.down).setc HS.down).setc HS.down).setc HS.down))
    have XN := PLift.up (show Row (((((((w.setCell ⟨RB, 0, none⟩ (.string (bs r.name))).setCell ⟨RB, 1, none⟩ (.bool r.req)).setCell ⟨RB, 2, none⟩ (.int .i64 r.kind)).setCell ⟨RB, 3, none⟩ (.int .i64 r.low)).setCell ⟨RB, 4, none⟩ (.int .i64 r.high)).setCell ⟨RB, 5, none⟩ (.int .i64 r.count)).setCell ⟨RB, 6, none⟩ (.slice ad r.words.length c)) BB TT vs from (((((((gx.2.2.2.oth BBN.down).oth BBN.down).oth BBN.down).oth BBN.down).oth BBN.down).oth BBN.down).oth BBN.down))
    clear ro
    have HK := PLift.up hK
    clear hK d0
    simp only [ru20FA]
    go_simp
    refine HK.down _ _ ⟨_, _, _, _, _, _, _, _, _, _, _, _, rfl, ⟨GN.down, BN.down, fun q => absurd q (by rw [getD_set_same (by rw [hsz]; decide)]; decide), fun q => absurd q (by rw [getD_set_same (by rw [hsz]; decide)]; decide), XN.down⟩, fun q => f0 (done_old q (by decide)), fun q => f1 (done_old q (by decide)), fun q => (by first | rfl | exact f2 (done_old q (by decide))), fun q => (let h := f3 (done_old q (by decide)); ⟨h.1, getD_set_true h.2⟩), fun q => getD_set_true (f4 (done_old q (by decide))), fun q => getD_set_true (f5 (done_old q (by decide))), fun q => getD_set_true (f6 (done_old q (by decide))), fun q => getD_set_true (f7 (done_old q (by decide))), fun q => getD_set_true (f8 (done_old q (by decide))), fun q => getD_set_true (f9 (done_old q (by decide))), fun q => f10 (done_old q (by decide)), ?_, fun q => f12 (done_old q (by decide))⟩
    exact fun _ => ⟨⟨getD_set_true D0.down, getD_set_true X6.down⟩, RN.down⟩
  · rintro done a w hsz hnot hdep ⟨t3, t105, t106, t107, t108, t109, t110, t111, t112, t113, t114, t115, rfl, ⟨gw, gx⟩, f0, f1, f2, f3, f4, f5, f6, f7, f8, f9, f10, f11, f12⟩ K hK
    have hn : ¬ done.getD 12 false = true := by rw [getD_both hnot]; decide
    have d10 := hdep 10 (by kernel_rfl)
    obtain rfl := f10 d10
    have HK := PLift.up hK
    clear hK d10
    simp only [ru20FA]
    go_simp
    have gg : Gr w w := Gr.refl _
    refine HK.down _ _ ⟨_, _, _, _, _, _, _, _, _, _, _, _, rfl, ⟨gw, gx.1, fun q => gx.2.1 (by rw [getD_set_ne false (by decide)] at q; exact q), fun q => gx.2.2.1 (by rw [getD_set_ne false (by decide)] at q; exact q), gx.2.2.2⟩, fun q => f0 (done_old q (by decide)), fun q => f1 (done_old q (by decide)), fun q => f2 (done_old q (by decide)), fun q => (let h := f3 (done_old q (by decide)); ⟨h.1, getD_set_true h.2⟩), fun q => getD_set_true (f4 (done_old q (by decide))), fun q => getD_set_true (f5 (done_old q (by decide))), fun q => getD_set_true (f6 (done_old q (by decide))), fun q => getD_set_true (f7 (done_old q (by decide))), fun q => getD_set_true (f8 (done_old q (by decide))), fun q => getD_set_true (f9 (done_old q (by decide))), fun q => f10 (done_old q (by decide)), fun q => (let h := f11 (done_old q (by decide)); ⟨⟨getD_set_true h.1.1, getD_set_true h.1.2⟩, h.2.gr gg⟩), fun _ => rfl⟩
  · rintro done a w hall ⟨t3, t105, t106, t107, t108, t109, t110, t111, t112, t113, t114, t115, rfl, ⟨gw, gx⟩, f0, f1, f2, f3, f4, f5, f6, f7, f8, f9, f10, f11, f12⟩
    exact h' _ _ _ _ _ _ _ _ _ _ _ _ w (f12 (hall 12 (by decide))) (f11 (hall 11 (by decide))).2 gw gx.2.2.2
end Go.Proofs.YtadldblpkgackaaGreatDoor
