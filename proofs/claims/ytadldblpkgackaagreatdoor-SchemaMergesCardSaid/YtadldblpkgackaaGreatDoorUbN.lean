/- Region 20 of schema.readRule, whether the rule is right or not. -/
import Derived.Test.YtadldblpkgackaaGreatDoorUbM
import Derived.Test.YtadldblpkgackaaGreatDoorUcC
set_option linter.unusedVariables false
set_option linter.unusedSimpArgs false
namespace Go.Proofs.YtadldblpkgackaaGreatDoor
open Go.RowKit
open Classical

/-- What readRule gives. -/
def GivesRu (line : St) (w : World) (e : Ending) (w' : World) : Prop :=
  Gr w w' ∧ if (readRuleP line).2 = true then ∃ a c, e = .returned (.tuple #[.agg #[.string (bs (readRuleP line).1.name), .bool (readRuleP line).1.req, .int .i64 (readRuleP line).1.kind, .int .i64 (readRuleP line).1.low, .int .i64 (readRuleP line).1.high, .int .i64 (readRuleP line).1.count, .slice a (readRuleP line).1.words.length c], .bool true]) ∧ (readRuleP line).1.words.length ≤ c ∧ WAt w' a (readRuleP line).1.words else ∃ s b k lo hi ct a n c, e = .returned (.tuple #[.agg #[.string s, .bool b, .int .i64 k, .int .i64 lo, .int .i64 hi, .int .i64 ct, .slice a n c], .bool false])
theorem gives_fin {line : St} {R : Rul} {w w' : World} {a : Option Addr} {c : Nat} (e : readRuleP line = (R, ruleP R && decide (9 :: Lib.join (wordsP R) [32] = line))) (hg : Gr w w') (hc : R.words.length ≤ c) (hw : WAt w' a R.words) :
    GivesRu line w (.returned (.tuple #[.agg #[.string (bs R.name), .bool R.req, .int .i64 R.kind, .int .i64 R.low, .int .i64 R.high, .int .i64 R.count, .slice a R.words.length c], .bool (ruleP R && ((9 :: Lib.join (wordsP R) [32]) == line))])) w' := by
  refine ⟨hg, ?_⟩
  rw [e]
  have eb : ((9 :: Lib.join (wordsP R) [32]) == line) = decide (9 :: Lib.join (wordsP R) [32] = line) := by
    by_cases q : (9 :: Lib.join (wordsP R) [32]) = line
    · rw [decide_eq_true q, beq_iff_eq]; exact q
    · rw [decide_eq_false q, beq_eq_false_iff_ne]; exact q
  rw [eb]
  simp only
  cases hz : (ruleP R && decide (9 :: Lib.join (wordsP R) [32] = line)) with
  | true => rw [if_pos rfl]; exact ⟨a, c, rfl, hc, hw⟩
  | false => rw [if_neg (by simp)]; exact ⟨_, _, _, _, _, _, _, _, _, rfl⟩
set_option maxRecDepth 100000 in
theorem ru20M {Q : Exit → Act → World → Prop} {wr w0 : World} {r : Rul} {ad : Option Addr} {c RB NB BB TT : Nat} {vs : List Value} {line : St} {s1 s3 s4 s5 s6 s8 s9 s10 s11 s12 s13 s14 s15 s16 s17 s18 s19 s20 s21 s22 s23 s24 s25 s26 s27 s28 s29 s30 s31 s32 s33 s34 s35 s36 s37 s38 s39 s40 s41 s42 s43 s44 s45 s46 s47 s48 s49 s50 s51 s52 s53 s54 s55 s56 s57 s58 s59 s60 s61 s62 s63 s64 s65 s66 s67 s68 s69 s70 s71 s72 s73 s74 s75 s76 s77 s78 s79 s80 s81 s82 s83 s84 s85 s86 s87 s88 s89 s90 s91 s92 s93 s94 s95 s96 s97 s98 s99 s100 s101 s102 s103 s104 s105 s106 s107 s108 s109 s110 s111 s112 s113 s114 s115 : Value}
    (hg0 : Gr w0 wr) (hbox : Row wr NB 28 [.string (bs r.name), .bool r.req, .int .i64 r.kind, .int .i64 r.low, .int .i64 r.high, .int .i64 r.count, .slice ad r.words.length c]) (hro : Row wr RB 28 [.string ⟨#[]⟩, .bool false, .int .i64 0, .int .i64 0, .int .i64 0, .int .i64 0, .slice none 0 0]) (hne : RB ≠ NB) (hs : w0.heap.size ≤ RB) (hkr : Row wr BB TT vs) (hbb : RB ≠ BB)
    (hL : Libs w0) (hsl : ∀ W, Gr wr W → SlOf 1 RS W ad r.words) (hwl : r.words.length ≤ 1000000) (hnm : r.name.length ≤ 20000) (hwd : ∀ s ∈ r.words, s.length ≤ 20000)
    (h' : ∀ t3 t105 t106 t107 t108 t109 t110 t111 t112 t113 t114 t115 wx, t3 = .bool (ruleP r && ((9 :: (Lib.join (wordsP r) [32])) == line)) → Row wx RB 28 [.string (bs r.name), .bool r.req, .int .i64 r.kind, .int .i64 r.low, .int .i64 r.high, .int .i64 r.count, .slice ad r.words.length c] → Gr w0 wx → Row wx BB TT vs → Q .normal (ru20TA RB NB line t3 t105 t106 t107 t108 t109 t110 t111 t112 t113 t114 t115 s1 s4 s5 s6 s8 s9 s10 s11 s12 s13 s14 s15 s16 s17 s18 s19 s20 s21 s22 s23 s24 s25 s26 s27 s28 s29 s30 s31 s32 s33 s34 s35 s36 s37 s38 s39 s40 s41 s42 s43 s44 s45 s46 s47 s48 s49 s50 s51 s52 s53 s54 s55 s56 s57 s58 s59 s60 s61 s62 s63 s64 s65 s66 s67 s68 s69 s70 s71 s72 s73 s74 s75 s76 s77 s78 s79 s80 s81 s82 s83 s84 s85 s86 s87 s88 s89 s90 s91 s92 s93 s94 s95 s96 s97 s98 s99 s100 s101 s102 s103 s104) wx) :
    (Code.region 20 (regIn 20 Tryz.f31) true).wp Tryz.prog Q { tmps := #[.string (bs line), s1, .pointer (some ⟨RB, 0, none⟩), s3, s4, s5, s6, .pointer (some ⟨NB, 0, none⟩), s8, s9, s10, s11, s12, s13, s14, s15, s16, s17, s18, s19, s20, s21, s22, s23, s24, s25, s26, s27, s28, s29, s30, s31, s32, s33, s34, s35, s36, s37, s38, s39, s40, s41, s42, s43, s44, s45, s46, s47, s48, s49, s50, s51, s52, s53, s54, s55, s56, s57, s58, s59, s60, s61, s62, s63, s64, s65, s66, s67, s68, s69, s70, s71, s72, s73, s74, s75, s76, s77, s78, s79, s80, s81, s82, s83, s84, s85, s86, s87, s88, s89, s90, s91, s92, s93, s94, s95, s96, s97, s98, s99, s100, s101, s102, s103, s104, s105, s106, s107, s108, s109, s110, s111, s112, s113, s114, s115], defers := [] } wr := by
  by_cases hr : ruleP r = true
  · rw [hr, Bool.true_and] at h'
    refine ru20T (base := w0.heap.size) hg0 hbox hro hne hs hkr hbb (Nat.le_refl _) (fun W hg => ?_) (fun W hg => ?_) (words_hl hr hnm hwd) h'
    · have q := rule_any r ad c W (hsl W hg) hwl (fun y hy => Nat.le_trans (hwd y hy) (by omega)) (by omega)
      rw [hr] at q; exact q
    · refine (words_any r ad c W (hsl W hg) hr (by omega) (hL.gr (hg0.trans hg)).2.2.2.2 (hL.gr (hg0.trans hg)).1).mono ?_
      rintro e w' ⟨v, h1, h2, h3⟩
      exact ⟨v, h1, h2, h3⟩
  · rw [Bool.not_eq_true] at hr
    rw [hr, Bool.false_and] at h'
    refine ru20F (base := w0.heap.size) hg0 hbox hro hne hs hkr hbb (Nat.le_refl _) (fun W hg => ?_) h'
    have q := rule_any r ad c W (hsl W hg) hwl (fun y hy => Nat.le_trans (hwd y hy) (by omega)) (by omega)
    rw [hr] at q; exact q
end Go.Proofs.YtadldblpkgackaaGreatDoor
