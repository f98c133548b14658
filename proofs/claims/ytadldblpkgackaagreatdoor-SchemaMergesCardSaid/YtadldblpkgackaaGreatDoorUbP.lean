/- schema.readRule from region 7 on, and whole (printed by wip/tools/ubo.py). -/
import Derived.Test.YtadldblpkgackaaGreatDoorUbO
set_option linter.unusedVariables false
set_option linter.unusedSimpArgs false
namespace Go.Proofs.YtadldblpkgackaaGreatDoor
open Go.RowKit
open Classical

/-- The rule out of the words of a line. -/
def rrP (line name : St) (req hp : Bool) (l : List St) : Rul × Bool :=
  match ruleL name req l with
  | none => (default, false)
  | some r => if hp = true then (r, ruleP r && decide (9 :: Lib.join (wordsP r) [32] = line)) else (default, false)
set_option maxRecDepth 100000 in
set_option maxHeartbeats 8000000 in
theorem rrC {wr w : World} {name : St} {req hp : Bool} {l all : List St} {o B RB NB : Nat} {line : St} {s1 s3 s4 s8 s9 s10 s11 s12 s13 s14 s15 s16 s17 s18 s19 s20 s21 s22 s23 s24 s25 s26 s27 s28 s29 s30 s31 s32 s33 s34 s35 s36 s37 s38 s39 s40 s41 s42 s43 s44 s45 s46 s47 s48 s49 s50 s51 s52 s53 s54 s55 s56 s57 s58 s59 s60 s61 s62 s63 s64 s65 s66 s67 s68 s69 s70 s71 s72 s73 s74 s75 s76 s77 s78 s79 s80 s81 s82 s83 s84 s85 s86 s87 s88 s89 s90 s91 s92 s93 s94 s95 s96 s97 s98 s99 s100 s101 s102 s103 s104 s105 s106 s107 s108 s109 s110 s111 s112 s113 s114 s115 : Value}
    (e : readRuleP line = rrP line name req hp l)
    (hg0 : Gr w wr) (hbox : Row wr NB 28 [.string (bs name), .bool req, .int .i64 0, .int .i64 0, .int .i64 0, .int .i64 0, .slice none 0 0]) (hro : Row wr RB 28 [.string ⟨#[]⟩, .bool false, .int .i64 0, .int .i64 0, .int .i64 0, .int .i64 0, .slice none 0 0]) (hne : RB ≠ NB) (hs : w.heap.size ≤ RB) (hsn : w.heap.size ≤ NB) (hkr : Row wr B 9 (strV all)) (hL : Libs w) (ho : l ≠ [] → all.drop o = l)
    (hnm : name.length ≤ 20000) (hall : ∀ s ∈ all, s.length ≤ 20000) (hll : l.length ≤ 100001) :
    (tl 6 Tryz.f31).wp Tryz.prog (bodyPost Tryz.prog Tryz.f31 (GivesRu line w)) { tmps := #[.string (bs line), s1, .pointer (some ⟨RB, 0, none⟩), s3, s4, .bool hp, .slice (some ⟨B, o, none⟩) l.length l.length, .pointer (some ⟨NB, 0, none⟩), s8, s9, s10, s11, s12, s13, s14, s15, s16, s17, s18, s19, s20, s21, s22, s23, s24, s25, s26, s27, s28, s29, s30, s31, s32, s33, s34, s35, s36, s37, s38, s39, s40, s41, s42, s43, s44, s45, s46, s47, s48, s49, s50, s51, s52, s53, s54, s55, s56, s57, s58, s59, s60, s61, s62, s63, s64, s65, s66, s67, s68, s69, s70, s71, s72, s73, s74, s75, s76, s77, s78, s79, s80, s81, s82, s83, s84, s85, s86, s87, s88, s89, s90, s91, s92, s93, s94, s95, s96, s97, s98, s99, s100, s101, s102, s103, s104, s105, s106, s107, s108, s109, s110, s111, s112, s113, s114, s115], defers := [] } wr := by
  have G := Lib.hid hg0
  have N := Lib.hid hbox
  have RO := Lib.hid hro
  have KR := Lib.hid hkr
  have L := Lib.hid hL
  have HO := Lib.hid ho
  have HA := Lib.hid hall
  have HN := Lib.hid hnm
  have HNE := Lib.hid hne
  have HS := Lib.hid hs
  have HSN := Lib.hid hsn
  have HNB := Lib.hid (N.out.ty.apart KR.out.ty (by decide))
  have r0 : wr.cell? ⟨RB, 0, none⟩ = some (.string ⟨#[]⟩) := RO.out.cell 0 (by simp)
  have r1 : wr.cell? ⟨RB, 1, none⟩ = some (.bool false) := RO.out.cell 1 (by simp)
  have r2 : wr.cell? ⟨RB, 2, none⟩ = some (.int .i64 0) := RO.out.cell 2 (by simp)
  have r3 : wr.cell? ⟨RB, 3, none⟩ = some (.int .i64 0) := RO.out.cell 3 (by simp)
  have r4 : wr.cell? ⟨RB, 4, none⟩ = some (.int .i64 0) := RO.out.cell 4 (by simp)
  have r5 : wr.cell? ⟨RB, 5, none⟩ = some (.int .i64 0) := RO.out.cell 5 (by simp)
  have r6 : wr.cell? ⟨RB, 6, none⟩ = some (.slice none 0 0) := RO.out.cell 6 (by simp)
  have q0 := RO.out.free 0
  have q1 := RO.out.free 1
  have q2 := RO.out.free 2
  have q3 := RO.out.free 3
  have q4 := RO.out.free 4
  have q5 := RO.out.free 5
  have q6 := RO.out.free 6
  have hr := has_of_cell r0
  have EE := Lib.hid e
  clear e hg0 hbox hro hs hsn hkr hL hnm hne ho hall
  refine wp_cut 3 fun T hT => ?_
  simp only [tl, Tryz.f31, Option.map_some, Option.getD_some, sndN, cutAt]
  cases l with
  | nil =>
    have E : Hid ((readRuleP line).2 = false) := Lib.hid (by rw [EE.out]; rfl)
    cases hp with
    | false =>
      go_wp2_with fail
      have RR := ((((((RO.out.set 0 (.string ⟨#[]⟩)).set 1 (.bool false)).set 2 (.int .i64 0)).set 3 (.int .i64 0)).set 4 (.int .i64 0)).set 5 (.int .i64 0)).set 6 (.slice none 0 0)
      have z0 := RR.cell 0 (by simp)
      have z1 := RR.cell 1 (by simp)
      have z2 := RR.cell 2 (by simp)
      have z3 := RR.cell 3 (by simp)
      have z4 := RR.cell 4 (by simp)
      have z5 := RR.cell 5 (by simp)
      have z6 := RR.cell 6 (by simp)
      simp only [List.set_cons_zero, List.set_cons_succ, List.getElem_cons_succ, List.getElem_cons_zero] at z0 z1 z2 z3 z4 z5 z6
      refine bodyPost_ret (v := .tuple #[.agg #[.string ⟨#[]⟩, .bool false, .int .i64 0, .int .i64 0, .int .i64 0, .int .i64 0, .slice none 0 0], .bool false]) (by simp [results, Tryz.results31, go_sem, z0, z1, z2, z3, z4, z5, z6]) rfl ?_
      refine ⟨(Gr.setc HS.out (Gr.setc HS.out (Gr.setc HS.out (Gr.setc HS.out (Gr.setc HS.out (Gr.setc HS.out (Gr.setc HS.out G.out))))))), ?_⟩
      rw [if_neg (by rw [E.out]; simp)]
      exact ⟨_, _, _, _, _, _, _, _, _, rfl⟩
    | true =>
      go_wp2_with fail
      have RR := ((((((RO.out.set 0 (.string ⟨#[]⟩)).set 1 (.bool false)).set 2 (.int .i64 0)).set 3 (.int .i64 0)).set 4 (.int .i64 0)).set 5 (.int .i64 0)).set 6 (.slice none 0 0)
      have z0 := RR.cell 0 (by simp)
      have z1 := RR.cell 1 (by simp)
      have z2 := RR.cell 2 (by simp)
      have z3 := RR.cell 3 (by simp)
      have z4 := RR.cell 4 (by simp)
      have z5 := RR.cell 5 (by simp)
      have z6 := RR.cell 6 (by simp)
      simp only [List.set_cons_zero, List.set_cons_succ, List.getElem_cons_succ, List.getElem_cons_zero] at z0 z1 z2 z3 z4 z5 z6
      refine bodyPost_ret (v := .tuple #[.agg #[.string ⟨#[]⟩, .bool false, .int .i64 0, .int .i64 0, .int .i64 0, .int .i64 0, .slice none 0 0], .bool false]) (by simp [results, Tryz.results31, go_sem, z0, z1, z2, z3, z4, z5, z6]) rfl ?_
      refine ⟨(Gr.setc HS.out (Gr.setc HS.out (Gr.setc HS.out (Gr.setc HS.out (Gr.setc HS.out (Gr.setc HS.out (Gr.setc HS.out G.out))))))), ?_⟩
      rw [if_neg (by rw [E.out]; simp)]
      exact ⟨_, _, _, _, _, _, _, _, _, rfl⟩
  | cons x l =>
    have WA : Hid (∀ W, Row W B 9 (strV all) → WAt W (some ⟨B, o, none⟩) (x :: l)) := Lib.hid (fun W h => wat_row h (HO.out (by simp)) (fun s hs => Nat.le_trans (HA.out s hs) (by omega)))
    obtain ⟨b1, o1, e1, d0⟩ := (WA.out wr KR.out).sl.one 0 (by simp)
    cases e1
    have c0 : wr.cell? ⟨B, o, none⟩ = some (.string (bs x)) := d0.1
    have hB := has_of_cell c0
    clear d0
    cases hp with
    | false =>
      have E : Hid ((readRuleP line).2 = false) := Lib.hid (by
        rw [EE.out]; unfold rrP; split
        · rfl
        · rw [if_neg (by simp)])
      go_wp2_with fail
      have RR := ((((((RO.out.set 0 (.string ⟨#[]⟩)).set 1 (.bool false)).set 2 (.int .i64 0)).set 3 (.int .i64 0)).set 4 (.int .i64 0)).set 5 (.int .i64 0)).set 6 (.slice none 0 0)
      have z0 := RR.cell 0 (by simp)
      have z1 := RR.cell 1 (by simp)
      have z2 := RR.cell 2 (by simp)
      have z3 := RR.cell 3 (by simp)
      have z4 := RR.cell 4 (by simp)
      have z5 := RR.cell 5 (by simp)
      have z6 := RR.cell 6 (by simp)
      simp only [List.set_cons_zero, List.set_cons_succ, List.getElem_cons_succ, List.getElem_cons_zero] at z0 z1 z2 z3 z4 z5 z6
      refine bodyPost_ret (v := .tuple #[.agg #[.string ⟨#[]⟩, .bool false, .int .i64 0, .int .i64 0, .int .i64 0, .int .i64 0, .slice none 0 0], .bool false]) (by simp [results, Tryz.results31, go_sem, z0, z1, z2, z3, z4, z5, z6]) rfl ?_
      refine ⟨(Gr.setc HS.out (Gr.setc HS.out (Gr.setc HS.out (Gr.setc HS.out (Gr.setc HS.out (Gr.setc HS.out (Gr.setc HS.out G.out))))))), ?_⟩
      rw [if_neg (by rw [E.out]; simp)]
      exact ⟨_, _, _, _, _, _, _, _, _, rfl⟩
    | true =>
      by_cases hx : x = []
      · subst hx
        have E : Hid ((readRuleP line).2 = false) := Lib.hid (by rw [EE.out]; rfl)
        go_wp2_with fail
        have RR := ((((((RO.out.set 0 (.string ⟨#[]⟩)).set 1 (.bool false)).set 2 (.int .i64 0)).set 3 (.int .i64 0)).set 4 (.int .i64 0)).set 5 (.int .i64 0)).set 6 (.slice none 0 0)
        have z0 := RR.cell 0 (by simp)
        have z1 := RR.cell 1 (by simp)
        have z2 := RR.cell 2 (by simp)
        have z3 := RR.cell 3 (by simp)
        have z4 := RR.cell 4 (by simp)
        have z5 := RR.cell 5 (by simp)
        have z6 := RR.cell 6 (by simp)
        simp only [List.set_cons_zero, List.set_cons_succ, List.getElem_cons_succ, List.getElem_cons_zero] at z0 z1 z2 z3 z4 z5 z6
        refine bodyPost_ret (v := .tuple #[.agg #[.string ⟨#[]⟩, .bool false, .int .i64 0, .int .i64 0, .int .i64 0, .int .i64 0, .slice none 0 0], .bool false]) (by simp [results, Tryz.results31, go_sem, z0, z1, z2, z3, z4, z5, z6]) rfl ?_
        refine ⟨(Gr.setc HS.out (Gr.setc HS.out (Gr.setc HS.out (Gr.setc HS.out (Gr.setc HS.out (Gr.setc HS.out (Gr.setc HS.out G.out))))))), ?_⟩
        rw [if_neg (by rw [E.out]; simp)]
        exact ⟨_, _, _, _, _, _, _, _, _, rfl⟩
      · have ex : List.isEmpty x = false := by cases x with | nil => exact absurd rfl hx | cons a b => rfl
        have E := Lib.hid (EE.out.trans (show rrP line name req true (x :: l) = (ruleW name req (idxS x 0 kindsS) l, ruleP (ruleW name req (idxS x 0 kindsS) l) && decide (9 :: Lib.join (wordsP (ruleW name req (idxS x 0 kindsS) l)) [32] = line)) by unfold rrP; rw [ruleL_ne hx]; exact if_pos rfl))
        have KW : Hid (∀ W, Gr w W → Calls Tryz.prog 76 #[.slice (some ⟨0, 0, none⟩) 7 7, .string (bs x)] W fun e w' => e = .returned (.int .i64 (idxS x 0 kindsS)) ∧ W = w') := Lib.hid (fun W hg => index_any x W (L.out.gr hg).2.2.2.2)
        have n2 : wr.cell? ⟨NB, 2, none⟩ = some (.int .i64 0) := N.out.cell 2 (by simp)
        have f2 := N.out.free 2
        have hn2 := has_of_cell n2
        have OA : Hid (l ≠ [] → all.drop (o + 1) = l) := Lib.hid (fun _ => by rw [← List.tail_drop, HO.out (by simp)]; rfl)
        clear hx EE r0 r1 r2 r3 r4 r5 r6 q0 q1 q2 q3 q4 q5 q6 hr
        obtain ⟨kd, hkd⟩ : ∃ kd, idxS x 0 kindsS = kd := ⟨_, rfl⟩
        rw [hkd] at E KW
        clear hkd
        cases l with
        | nil =>
          go_wp2_with fail
          go_region_with (go_at_call 76; refine (KW.out _ (by repeat (first | exact G.out | refine Gr.alloc _ ?_ | refine Gr.drew ?_))).mono ?_; rintro e w' ⟨rfl, rfl⟩)
          go_wp2_with fail
          refine wp_at hT (by kernel_rfl) (rrB (o := o) (l := []) (kd := kd) (name := name) (req := req) (all := all) E.out (Gr.setc HSN.out G.out).drew (N.out.set 2 _).drew (RO.out.oth HNE.out.symm).drew HNE.out HS.out HSN.out (KR.out.oth HNB.out).drew L.out (fun q => absurd rfl q) HN.out HA.out (by simp))
        | cons y l =>
          go_wp2_with fail
          go_region_with (go_at_call 76; refine (KW.out _ (by repeat (first | exact G.out | refine Gr.alloc _ ?_ | refine Gr.drew ?_))).mono ?_; rintro e w' ⟨rfl, rfl⟩)
          go_wp2_with fail
          refine wp_at hT (by kernel_rfl) (rrB (o := o + 1) (l := y :: l) (kd := kd) (name := name) (req := req) (all := all) E.out (Gr.setc HSN.out G.out).drew (N.out.set 2 _).drew (RO.out.oth HNE.out.symm).drew HNE.out HS.out HSN.out (KR.out.oth HNB.out).drew L.out OA.out HN.out HA.out (by simp at hll ⊢; omega))
end Go.Proofs.YtadldblpkgackaaGreatDoor
