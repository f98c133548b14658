/- Tails of schema.readRule (printed by wip/tools/ubo.py). -/
import Derived.Test.YtadldblpkgackaaGreatDoorUbN
set_option linter.unusedVariables false
set_option linter.unusedSimpArgs false
namespace Go.Proofs.YtadldblpkgackaaGreatDoor
open Go.RowKit
open Classical

/-- The code behind the first n statements. -/
def sndN : Nat → Code → Code
  | 0, c => c
  | n + 1, .seq _ b => sndN n b
  | _, c => c
/-- The first n statements, then T. -/
def cutAt : Nat → Code → Code → Code
  | 0, _, T => T
  | n + 1, .seq a b, T => .seq a (cutAt n b T)
  | _, c, _ => c
theorem cut_eq : ∀ n c, cutAt n c (sndN n c) = c
  | 0, c => rfl
  | n + 1, c => by
    cases c
    case seq a b => unfold cutAt sndN; rw [cut_eq n b]
    all_goals rfl
def tl (n : Nat) (f : Func) : Code := (f.body.map (sndN n)).getD .skip
theorem wp_cut (n : Nat) {P : Program} {c : Code} {Q : Exit → Act → World → Prop} {a : Act} {w : World} (h : ∀ T, Hid (T = sndN n c) → (cutAt n c T).wp P Q a w) : c.wp P Q a w := by
  have := h _ (Lib.hid rfl)
  rwa [cut_eq] at this
theorem wp_at {P : Program} {T c c' : Code} {Q : Exit → Act → World → Prop} {a : Act} {w : World} (hT : Hid (T = c)) (he : c' = c) (h : c'.wp P Q a w) : T.wp P Q a w := by
  rw [hT.out, ← he]; exact h
set_option maxRecDepth 100000 in
theorem rrEnd {wr w : World} {R : Rul} {ad : Option Addr} {c RB NB BB TT : Nat} {vs : List Value} {line : St} {s1 s3 s4 s5 s6 s8 s9 s10 s11 s12 s13 s14 s15 s16 s17 s18 s19 s20 s21 s22 s23 s24 s25 s26 s27 s28 s29 s30 s31 s32 s33 s34 s35 s36 s37 s38 s39 s40 s41 s42 s43 s44 s45 s46 s47 s48 s49 s50 s51 s52 s53 s54 s55 s56 s57 s58 s59 s60 s61 s62 s63 s64 s65 s66 s67 s68 s69 s70 s71 s72 s73 s74 s75 s76 s77 s78 s79 s80 s81 s82 s83 s84 s85 s86 s87 s88 s89 s90 s91 s92 s93 s94 s95 s96 s97 s98 s99 s100 s101 s102 s103 s104 s105 s106 s107 s108 s109 s110 s111 s112 s113 s114 s115 : Value}
    (e : readRuleP line = (R, ruleP R && decide (9 :: Lib.join (wordsP R) [32] = line)))
    (hg0 : Gr w wr) (hbox : Row wr NB 28 [.string (bs R.name), .bool R.req, .int .i64 R.kind, .int .i64 R.low, .int .i64 R.high, .int .i64 R.count, .slice ad R.words.length c]) (hro : Row wr RB 28 [.string ⟨#[]⟩, .bool false, .int .i64 0, .int .i64 0, .int .i64 0, .int .i64 0, .slice none 0 0]) (hne : RB ≠ NB) (hs : w.heap.size ≤ RB) (hkr : Row wr BB TT vs) (hbb : RB ≠ BB)
    (hL : Libs w) (hw : ∀ W, Row W BB TT vs → WAt W ad R.words) (hc : R.words.length ≤ c) (hwl : R.words.length ≤ 1000000) (hnm : R.name.length ≤ 20000) (hwd : ∀ s ∈ R.words, s.length ≤ 20000) :
    (tl 11 Tryz.f31).wp Tryz.prog (bodyPost Tryz.prog Tryz.f31 (GivesRu line w)) { tmps := #[.string (bs line), s1, .pointer (some ⟨RB, 0, none⟩), s3, s4, s5, s6, .pointer (some ⟨NB, 0, none⟩), s8, s9, s10, s11, s12, s13, s14, s15, s16, s17, s18, s19, s20, s21, s22, s23, s24, s25, s26, s27, s28, s29, s30, s31, s32, s33, s34, s35, s36, s37, s38, s39, s40, s41, s42, s43, s44, s45, s46, s47, s48, s49, s50, s51, s52, s53, s54, s55, s56, s57, s58, s59, s60, s61, s62, s63, s64, s65, s66, s67, s68, s69, s70, s71, s72, s73, s74, s75, s76, s77, s78, s79, s80, s81, s82, s83, s84, s85, s86, s87, s88, s89, s90, s91, s92, s93, s94, s95, s96, s97, s98, s99, s100, s101, s102, s103, s104, s105, s106, s107, s108, s109, s110, s111, s112, s113, s114, s115], defers := [] } wr := by
  have E := Lib.hid e
  have HW := Lib.hid hw
  clear e
  refine wp_code_eq (c := (Code.region 20 (regIn 20 Tryz.f31) true).seq .ret) (by kernel_rfl) ?_
  refine wp_seq ?_
  refine ru20M hg0 hbox hro hne hs hkr hbb hL (fun W hg => (hw W (hkr.gr hg)).sl) hwl hnm hwd ?_
  intro t3 t105 t106 t107 t108 t109 t110 t111 t112 t113 t114 t115 wx e5 hrow hgr hkx
  subst e5
  have RX := Lib.hid hrow
  have GX := Lib.hid hgr
  have KX := Lib.hid hkx
  have HC := Lib.hid hc
  unfold ru20TA
  clear hrow hgr hkx hg0 hbox hro hs hkr hL hwl hnm hwd hw hc
  show Code.wp _ _ _ _ _
  go_wp2_with fail
  have z0 := RX.out.cell 0 (by simp)
  have z1 := RX.out.cell 1 (by simp)
  have z2 := RX.out.cell 2 (by simp)
  have z3 := RX.out.cell 3 (by simp)
  have z4 := RX.out.cell 4 (by simp)
  have z5 := RX.out.cell 5 (by simp)
  have z6 := RX.out.cell 6 (by simp)
  simp only [List.getElem_cons_succ, List.getElem_cons_zero] at z0 z1 z2 z3 z4 z5 z6
  refine bodyPost_ret (v := .tuple #[.agg #[.string (bs R.name), .bool R.req, .int .i64 R.kind, .int .i64 R.low, .int .i64 R.high, .int .i64 R.count, .slice ad R.words.length c], .bool (ruleP R && ((9 :: Lib.join (wordsP R) [32]) == line))]) (by simp [results, Tryz.results31, go_sem, z0, z1, z2, z3, z4, z5, z6]) rfl ?_
  exact gives_fin E.out GX.out HC.out (HW.out _ KX.out)

theorem cut_le1 (s p : St) : (Lib.cut s p).1.length ≤ s.length := by
  unfold Lib.cut
  split
  · simp only [List.length_take]; omega
  · exact Nat.le_refl _
theorem cut_le2 (s p : St) : (Lib.cut s p).2.1.length ≤ s.length := by
  unfold Lib.cut
  split
  · simp only [List.length_drop]; omega
  · simp
theorem wat_nil {a : Option Addr} (w : World) : WAt w a [] := .inl rfl
set_option maxRecDepth 100000 in
set_option maxHeartbeats 8000000 in
theorem rrB {wr w : World} {name : St} {req : Bool} {kd : Int} {l all : List St} {o B RB NB : Nat} {line : St} {s1 s3 s4 s5 s8 s9 s10 s11 s12 s13 s14 s15 s16 s17 s18 s19 s20 s21 s22 s23 s24 s25 s26 s27 s28 s29 s30 s31 s32 s33 s34 s35 s36 s37 s38 s39 s40 s41 s42 s43 s44 s45 s46 s47 s48 s49 s50 s51 s52 s53 s54 s55 s56 s57 s58 s59 s60 s61 s62 s63 s64 s65 s66 s67 s68 s69 s70 s71 s72 s73 s74 s75 s76 s77 s78 s79 s80 s81 s82 s83 s84 s85 s86 s87 s88 s89 s90 s91 s92 s93 s94 s95 s96 s97 s98 s99 s100 s101 s102 s103 s104 s105 s106 s107 s108 s109 s110 s111 s112 s113 s114 s115 : Value}
    (e : readRuleP line = (ruleW name req kd l, ruleP (ruleW name req kd l) && decide (9 :: Lib.join (wordsP (ruleW name req kd l)) [32] = line)))
    (hg0 : Gr w wr) (hbox : Row wr NB 28 [.string (bs name), .bool req, .int .i64 kd, .int .i64 0, .int .i64 0, .int .i64 0, .slice none 0 0]) (hro : Row wr RB 28 [.string ⟨#[]⟩, .bool false, .int .i64 0, .int .i64 0, .int .i64 0, .int .i64 0, .slice none 0 0]) (hne : RB ≠ NB) (hs : w.heap.size ≤ RB) (hsn : w.heap.size ≤ NB) (hkr : Row wr B 9 (strV all)) (hL : Libs w) (ho : l ≠ [] → all.drop o = l)
    (hnm : name.length ≤ 20000) (hall : ∀ s ∈ all, s.length ≤ 20000) (hll : l.length ≤ 100001) :
    (tl 9 Tryz.f31).wp Tryz.prog (bodyPost Tryz.prog Tryz.f31 (GivesRu line w)) { tmps := #[.string (bs line), s1, .pointer (some ⟨RB, 0, none⟩), s3, s4, s5, .slice (some ⟨B, o, none⟩) l.length l.length, .pointer (some ⟨NB, 0, none⟩), s8, s9, s10, s11, s12, s13, s14, s15, s16, s17, s18, s19, s20, s21, s22, s23, s24, s25, s26, s27, s28, s29, s30, s31, s32, s33, s34, s35, s36, s37, s38, s39, s40, s41, s42, s43, s44, s45, s46, s47, s48, s49, s50, s51, s52, s53, s54, s55, s56, s57, s58, s59, s60, s61, s62, s63, s64, s65, s66, s67, s68, s69, s70, s71, s72, s73, s74, s75, s76, s77, s78, s79, s80, s81, s82, s83, s84, s85, s86, s87, s88, s89, s90, s91, s92, s93, s94, s95, s96, s97, s98, s99, s100, s101, s102, s103, s104, s105, s106, s107, s108, s109, s110, s111, s112, s113, s114, s115], defers := [] } wr := by
  have E := Lib.hid e
  have G := Lib.hid hg0
  have N := Lib.hid hbox
  have RO := Lib.hid hro
  have KR := Lib.hid hkr
  have L := Lib.hid hL
  have HA := Lib.hid hall
  have HN := Lib.hid hnm
  have HNE := Lib.hid hne
  have HS := Lib.hid hs
  have HSN := Lib.hid hsn
  have HBB := Lib.hid (RO.out.ty.apart KR.out.ty (by decide))
  have HNB := Lib.hid (N.out.ty.apart KR.out.ty (by decide))
  have HW : Hid (∀ s ∈ l, s.length ≤ 20000) := Lib.hid (by
    by_cases h : l = []
    · subst h; intro s hs; cases hs
    · intro s hs; rw [← ho h] at hs; exact hall s (List.mem_of_mem_drop hs))
  have HWA : Hid (∀ W, Row W B 9 (strV all) → WAt W (some ⟨B, o, none⟩) l) := Lib.hid (fun W h => by
    by_cases q : l = []
    · subst q; exact wat_nil _
    · exact wat_row h (ho q) (fun s hs => Nat.le_trans (hall s hs) (by omega)))
  have HO := Lib.hid ho
  have n0 : wr.cell? ⟨NB, 0, none⟩ = some (.string (bs name)) := N.out.cell 0 (by simp)
  have n1 : wr.cell? ⟨NB, 1, none⟩ = some (.bool req) := N.out.cell 1 (by simp)
  have n2 : wr.cell? ⟨NB, 2, none⟩ = some (.int .i64 kd) := N.out.cell 2 (by simp)
  have n3 : wr.cell? ⟨NB, 3, none⟩ = some (.int .i64 0) := N.out.cell 3 (by simp)
  have n4 : wr.cell? ⟨NB, 4, none⟩ = some (.int .i64 0) := N.out.cell 4 (by simp)
  have n5 : wr.cell? ⟨NB, 5, none⟩ = some (.int .i64 0) := N.out.cell 5 (by simp)
  have n6 : wr.cell? ⟨NB, 6, none⟩ = some (.slice none 0 0) := N.out.cell 6 (by simp)
  have f3 := N.out.free 3
  have f4 := N.out.free 4
  have f5 := N.out.free 5
  have f6 := N.out.free 6
  have hh := has_of_cell n0
  clear e hg0 hbox hro hne hs hsn hkr hL ho hnm hall
  refine wp_cut 2 fun T hT => ?_
  simp only [tl, Tryz.f31, Option.map_some, Option.getD_some, sndN, cutAt]
  by_cases k4 : kd = 4
  · have e3 : (kd == 3) = false := by rw [beq_eq_false_iff_ne]; omega
    have e4 : (kd == 4) = true := by rw [beq_iff_eq]; exact k4
    have er : Hid (ruleW name req kd l = ⟨name, req, kd, 0, 0, 0, l⟩) := Lib.hid (by unfold ruleW; rw [if_neg (by omega), if_pos k4])
    rw [er.out] at E
    clear k4
    go_wp2_with fail
    refine wp_at hT (by kernel_rfl) (rrEnd (R := ⟨name, req, kd, 0, 0, 0, l⟩) (ad := some ⟨B, o, none⟩) (c := l.length) E.out (G.out.setc HSN.out) (N.out.set 6 _) (RO.out.oth HNE.out.symm) HNE.out HS.out (KR.out.oth HNB.out) HBB.out L.out HWA.out (Nat.le_refl _) (show l.length ≤ 1000000 by omega) HN.out HW.out)
  · have e4 : (kd == 4) = false := by rw [beq_eq_false_iff_ne]; exact k4
    cases l with
    | nil =>
      have er : Hid (ruleW name req kd [] = ⟨name, req, kd, 0, 0, 0, []⟩) := Lib.hid (by unfold ruleW; rw [if_neg k4]; split <;> rfl)
      rw [er.out] at E
      by_cases k3 : kd = 3
      · have e3 : (kd == 3) = true := by rw [beq_iff_eq]; exact k3
        clear k3 k4
        go_wp2_with fail
        refine wp_at hT (by kernel_rfl) (rrEnd (R := ⟨name, req, kd, 0, 0, 0, []⟩) (ad := none) (c := 0) E.out G.out N.out RO.out HNE.out HS.out KR.out HBB.out L.out (fun W _ => wat_nil W) (Nat.le_refl _) (by simp) HN.out (fun s hs => by cases hs))
      · have e3 : (kd == 3) = false := by rw [beq_eq_false_iff_ne]; exact k3
        clear k3 k4
        go_wp2_with fail
        refine wp_at hT (by kernel_rfl) (rrEnd (R := ⟨name, req, kd, 0, 0, 0, []⟩) (ad := none) (c := 0) E.out G.out N.out RO.out HNE.out HS.out KR.out HBB.out L.out (fun W _ => wat_nil W) (Nat.le_refl _) (by simp) HN.out (fun s hs => by cases hs))
    | cons y l =>
      obtain ⟨b1, o1, e1, d0⟩ := (HWA.out wr KR.out).sl.one 0 (by simp)
      cases e1
      have c0 := d0.1
      simp only [List.getElem_cons_zero, Nat.add_zero] at c0
      have hB := has_of_cell c0
      have hy := HW.out y (by simp)
      clear d0
      by_cases k3 : kd = 3
      · have e3 : (kd == 3) = true := by rw [beq_iff_eq]; exact k3
        have hc1 : (Lib.cut y [46, 46]).1.length ≤ 1000000 := Nat.le_trans (cut_le1 y _) (by omega)
        have hc2 : (Lib.cut y [46, 46]).2.1.length ≤ 1000000 := Nat.le_trans (cut_le2 y _) (by omega)
        cases l with
        | nil =>
          have er : Hid (ruleW name req kd [y] = ⟨name, req, kd, numV (Lib.cut y [46, 46]).1, numV (Lib.cut y [46, 46]).2.1, 0, []⟩) := Lib.hid (by unfold ruleW; rw [if_pos k3])
          rw [er.out] at E
          clear k3 k4
          go_wp2_with (first | (go_at_call 29; refine (cut_any y [46, 46] _ (Nat.le_trans hy (by omega)) (L.out.gr (by repeat (first | with_reducible exact G.out | with_reducible refine Gr.xt _ _ ?_ | with_reducible refine Gr.setc HSN.out ?_)))).mono ?_; rintro e w' ⟨rfl, O, d, rfl⟩) | (go_at_call 77; refine (number_any _ _ (by first | exact hc1 | exact hc2 | exact ht) (L.out.gr (by repeat (first | with_reducible exact G.out | with_reducible refine Gr.xt _ _ ?_ | with_reducible refine Gr.setc HSN.out ?_)))).mono ?_; rintro e w' ⟨b, rfl, hb, O, d, rfl⟩) | (go_at_call 78; refine (trimPre_any _ [120] _).mono ?_; rintro e w' ⟨rfl, rfl⟩))
          refine wp_at hT (by kernel_rfl) (rrEnd (R := ⟨name, req, kd, numV (Lib.cut y [46, 46]).1, numV (Lib.cut y [46, 46]).2.1, 0, []⟩) (ad := none) (c := 0) E.out ((Gr.setc HSN.out (Gr.setc HSN.out G.out)).xt _ _) (((N.out.set 3 _).set 4 _).gr ((Gr.refl _).xt _ _)) (((RO.out.oth HNE.out.symm).oth HNE.out.symm).gr ((Gr.refl _).xt _ _)) HNE.out HS.out (((KR.out.oth HNB.out).oth HNB.out).gr ((Gr.refl _).xt _ _)) HBB.out L.out (fun W _ => wat_nil W) (Nat.le_refl _) (by simp) HN.out (fun s hs => by cases hs))
        | cons z l =>
          obtain ⟨b1, o1, e1, d0⟩ := (HWA.out wr KR.out).sl.one 1 (by simp)
          cases e1
          have c1 : wr.cell? ⟨B, o + 1, none⟩ = some (.string (bs z)) := d0.1
          have hz := HW.out z (by simp)
          have hne1 := HNB.out
          have hne2 := HNB.out.symm
          have ht : (Lib.trimPrefix z [120]).length ≤ 1000000 := Nat.le_trans (trim_le z _) (by omega)
          have er : Hid (ruleW name req kd (y :: z :: l) = ⟨name, req, kd, numV (Lib.cut y [46, 46]).1, numV (Lib.cut y [46, 46]).2.1, numV (Lib.trimPrefix z [120]), []⟩) := Lib.hid (by unfold ruleW; rw [if_pos k3])
          rw [er.out] at E
          clear k3 k4 d0
          go_wp2_with (first | (go_at_call 29; refine (cut_any y [46, 46] _ (Nat.le_trans hy (by omega)) (L.out.gr (by repeat (first | with_reducible exact G.out | with_reducible refine Gr.xt _ _ ?_ | with_reducible refine Gr.setc HSN.out ?_)))).mono ?_; rintro e w' ⟨rfl, O, d, rfl⟩) | (go_at_call 77; refine (number_any _ _ (by first | exact hc1 | exact hc2 | exact ht) (L.out.gr (by repeat (first | with_reducible exact G.out | with_reducible refine Gr.xt _ _ ?_ | with_reducible refine Gr.setc HSN.out ?_)))).mono ?_; rintro e w' ⟨b, rfl, hb, O, d, rfl⟩) | (go_at_call 78; refine (trimPre_any _ [120] _).mono ?_; rintro e w' ⟨rfl, rfl⟩))
          refine wp_at hT (by kernel_rfl) (rrEnd (R := ⟨name, req, kd, numV (Lib.cut y [46, 46]).1, numV (Lib.cut y [46, 46]).2.1, numV (Lib.trimPrefix z [120]), []⟩) (ad := none) (c := 0) E.out ((Gr.setc HSN.out (Gr.setc HSN.out (Gr.setc HSN.out G.out))).xt _ _) ((((N.out.set 3 _).set 4 _).set 5 _).gr ((Gr.refl _).xt _ _)) ((((RO.out.oth HNE.out.symm).oth HNE.out.symm).oth HNE.out.symm).gr ((Gr.refl _).xt _ _)) HNE.out HS.out ((((KR.out.oth HNB.out).oth HNB.out).oth HNB.out).gr ((Gr.refl _).xt _ _)) HBB.out L.out (fun W _ => wat_nil W) (Nat.le_refl _) (by simp) HN.out (fun s hs => by cases hs))
      · have e3 : (kd == 3) = false := by rw [beq_eq_false_iff_ne]; exact k3
        have ht : (Lib.trimPrefix y [120]).length ≤ 1000000 := Nat.le_trans (trim_le y _) (by omega)
        have er : Hid (ruleW name req kd (y :: l) = ⟨name, req, kd, 0, 0, numV (Lib.trimPrefix y [120]), []⟩) := Lib.hid (by unfold ruleW; rw [if_neg k3, if_neg k4])
        rw [er.out] at E
        clear k3 k4
        go_wp2_with (first | (go_at_call 29; refine (cut_any y [46, 46] _ (Nat.le_trans hy (by omega)) (L.out.gr (by repeat (first | with_reducible exact G.out | with_reducible refine Gr.xt _ _ ?_ | with_reducible refine Gr.setc HSN.out ?_)))).mono ?_; rintro e w' ⟨rfl, O, d, rfl⟩) | (go_at_call 77; refine (number_any _ _ (by first | exact hc1 | exact hc2 | exact ht) (L.out.gr (by repeat (first | with_reducible exact G.out | with_reducible refine Gr.xt _ _ ?_ | with_reducible refine Gr.setc HSN.out ?_)))).mono ?_; rintro e w' ⟨b, rfl, hb, O, d, rfl⟩) | (go_at_call 78; refine (trimPre_any _ [120] _).mono ?_; rintro e w' ⟨rfl, rfl⟩))
        refine wp_at hT (by kernel_rfl) (rrEnd (R := ⟨name, req, kd, 0, 0, numV (Lib.trimPrefix y [120]), []⟩) (ad := none) (c := 0) E.out ((Gr.setc HSN.out G.out).xt _ _) ((N.out.set 5 _).gr ((Gr.refl _).xt _ _)) ((RO.out.oth HNE.out.symm).gr ((Gr.refl _).xt _ _)) HNE.out HS.out ((KR.out.oth HNB.out).gr ((Gr.refl _).xt _ _)) HBB.out L.out (fun W _ => wat_nil W) (Nat.le_refl _) (by simp) HN.out (fun s hs => by cases hs))
end Go.Proofs.YtadldblpkgackaaGreatDoor
