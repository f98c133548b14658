/- Contracts of the reference's changed and Apply, for right writes. -/
import Derived.Test.YtenehghpmnajpaaDoorNxA
import Derived.Test.YtenehghpmnajpaaDoorSrD
import Derived.Laws.CopyOwn
set_option linter.unusedVariables false
set_option linter.unusedSimpArgs false
namespace Go.Proofs.YtenehghpmnajpaaDoor
open Go.RowKit
open Classical

/-- A new row with these numbers. -/
def NewI (w : World) (s : List Int) (B : Nat) (w' : World) : Prop := RowS w' B 3 (nums s) ∧ w.heap.size ≤ B ∧ Gr w w'
set_option maxRecDepth 100000 in
set_option maxHeartbeats 1000000 in
theorem changed_any (s : List Int) (u : Nat) (v : Int) (aS : Option Addr) (cs : Nat) (w : World) (hs : SlOf 1 RI w aS s) (hu : u < s.length) (hl : s.length ≤ 16) :
    Calls Tryd.prog 95 #[.slice aS s.length cs, .int .i64 u, .int .i64 v] w fun e w' => ∃ B c, e = .returned (.slice (some ⟨B, 0, none⟩) s.length c) ∧ NewI w (s.set u v) B w' := by
  obtain ⟨i0, hi, hz0, hz1, hz2⟩ := info_parts infoInt
  obtain ⟨bs, os, rfl, h00⟩ := hs 0 (by omega)
  have CS := Lib.hid (slI_cells (b := bs) (o := os) (s := none) (vs := s) (w := w) hs)
  have gE : Gr w (w.alloc (.cells #[] 3)) := (Gr.refl _).alloc _
  have CS1 : Hid (∀ j u, (nums s)[j]? = some u → (w.alloc (.cells #[] 3)).cell? ((⟨bs, os, none⟩ : Addr).add j) = some u) := Lib.hid (fun j u hu => cell_gr gE (CS.out j u hu))
  clear h00 hs gE CS
  go_enter Tryd.func95, Tryd.ntmps95
  go_wp2_with (first
    | (at_builtin; refine wpList_append_fresh _ rfl _ _ 22 rfl 3 i0 (.int .i64 0) 8 Tryd.underlying22 hi hz0 hz1 hz2 ⟨w.heap.size, 0, none⟩ ⟨bs, os, none⟩ s.length cs (nums s) rfl rfl (by rw [nums_len]) CS1.out (by omega) (by omega) (by omega) (w.heap.size + 1) (by simp) ?_; intro cap Z hcap
       have R2 := Lib.hid (row_fresh' (w.alloc (.cells #[] 3)).drew (nums s) Z 3 (w.heap.size + 1) (by simp [World.drew]))
       have G2 : Hid (Gr w ((w.alloc (.cells #[] 3)).drew.alloc (.cells ((nums s).toArray ++ Z) 3))) := Lib.hid (((Gr.refl _).alloc _).drew.alloc _)
       obtain ⟨N2, hN2⟩ : ∃ N2 : Nat, Hid (w.heap.size + 1 = N2) := ⟨_, Lib.hid rfl⟩
       rw [hN2.out] at R2 ⊢
       obtain ⟨W2, hW2⟩ : ∃ W2 : World, ((w.alloc (.cells #[] 3)).drew.alloc (.cells ((nums s).toArray ++ Z) 3)) = W2 := ⟨_, rfl⟩
       rw [hW2] at R2 G2 ⊢
       clear hW2
       have hx := R2.out.has
       have hc := R2.out.cell u (by rw [nums_len]; exact hu)
       have hfz := R2.out.free u)
    | fail)
  go_ret
  exact ⟨N2, cap, rfl, by have := R2.out.iset u hu v; exact this, by have := hN2.out; omega, G2.out.setc (by have := hN2.out; omega)⟩
set_option maxRecDepth 100000 in
set_option maxHeartbeats 2000000 in
theorem refApply_any (l : List Clk) (s : List Int) (u v : Nat) (al aS : Option Addr) (cl cs : Nat) (w : World) (h : SlOf 5 RClk w al l) (hs : SlOf 1 RI w aS s) (hc : cchk l = 0) (hset : SetOk l s) (hu : u < l.length) (hv : (v : Int) < kOf l u) :
    Calls Tryd.prog 53 #[.slice al l.length cl, .slice aS s.length cs, .agg #[.int .i64 1, .int .i64 u, .int .i64 v]] w fun e w' => ∃ B c, e = .returned (.tuple #[.slice (some ⟨B, 0, none⟩) s.length c, .int .i64 0]) ∧ NewI w (s.set u v) B w' := by
  have hl := small_len (cchk_zero hc).1
  have rc := fun W (hW : Gr w W) => refCheck_any l al cl W (clks_gr h hW) (by unfold Fit; omega)
  rw [hc] at rc
  have RC := Lib.hid rc
  have ST := Lib.hid (fun W (hW : Gr w W) => refSetting_ok l s al aS cl cs W (clks_gr h hW) (hs.giI hW) hc hset)
  have CH := Lib.hid (fun W (hW : Gr w W) => changed_any s u v aS cs W (hs.giI hW) (by rw [hset.1]; exact hu) (by rw [hset.1]; exact hl))
  have H := Lib.hid h
  have NB := Lib.hid (cchk_zero hc).1
  rw [kOf_at hu] at hv
  clear h hs hc rc hset
  go_enter Tryd.func53, Tryd.ntmps53
  have RW := Lib.hid (Row.new w #[.int .i64 1, .int .i64 u, .int .i64 v] 35)
  have g0 : Hid (Gr w (w.alloc (.cells #[.int .i64 1, .int .i64 u, .int .i64 v] 35))) := Lib.hid ((Gr.refl _).alloc _)
  go_wp2_with fail
  refine (RC.out _ g0.out).mono ?_
  rintro e w1 ⟨rfl, hg1⟩
  have R1 := Lib.hid (RW.out.gr hg1)
  have G1 := Lib.hid (g0.out.trans hg1)
  obtain ⟨P, hP⟩ : ∃ P, w.heap.size = P := ⟨_, rfl⟩
  rw [hP] at R1 ⊢
  clear hg1 RW g0
  go_wp2_with fail
  refine (ST.out w1 G1.out).mono ?_
  rintro e w2 ⟨rfl, hg2⟩
  have R2 := Lib.hid (R1.out.gr hg2)
  have G2 := Lib.hid (G1.out.trans hg2)
  have c0 : w2.cell? ⟨P, 0, none⟩ = some (.int .i64 1) := R2.out.cell 0 (by simp)
  have c1 : w2.cell? ⟨P, 1, none⟩ = some (.int .i64 u) := R2.out.cell 1 (by simp)
  have c2 : w2.cell? ⟨P, 2, none⟩ = some (.int .i64 v) := R2.out.cell 2 (by simp)
  obtain ⟨fp, fc⟩ := small_at NB.out hu
  obtain ⟨b, o, rfl, ⟨d0, _⟩, ⟨ap, cp, d1, _⟩, ⟨ac, cc, d2, _, d2f, _⟩, ⟨d3, _⟩, ⟨d4, _⟩⟩ := clks_gr H.out G2.out u hu
  have hx := R2.out.has
  have k2 : (u : Int) < l.length := by omega
  have e1 : decide ((u : Int) < 0) = false := decide_eq_false (by omega)
  have e2 : decide (l.length ≤ u) = false := decide_eq_false (by omega)
  have e3 : decide ((v : Int) < 0) = false := decide_eq_false (by omega)
  have e4 : decide (l[u].choices.length ≤ v) = false := decide_eq_false (by omega)
  clear hg2 R1 G1 hP
  go_wp2_with fail
  go_quiet (fail)
  go_wp2_with fail
  refine (CH.out _ (G2.out.drewN _)).mono ?_
  rintro e w3 ⟨B, c, rfl, hr, hb, hg3⟩
  have HR := Lib.hid hr
  have G3 := Lib.hid ((G2.out.drewN _).trans hg3)
  clear hr hg3
  go_wp2_with fail

  go_ret2
  exact ⟨B, c, rfl, HR.out, by have := G2.out.size; simp at hb; omega, G3.out⟩
set_option maxRecDepth 100000 in
set_option maxHeartbeats 2000000 in
theorem proApply_any (l : List Clk) (s : List Int) (u v : Nat) (al aS : Option Addr) (cl cs : Nat) (w : World) (h : SlOf 5 RClk w al l) (hs : SlOf 1 RI w aS s) (hc : cchk l = 0) (hset : SetOk l s) (hu : u < l.length) (hv : (v : Int) < kOf l u) :
    Calls Tryd.prog 28 #[.slice al l.length cl, .slice aS s.length cs, .agg #[.int .i64 1, .int .i64 u, .int .i64 v]] w fun e w' => ∃ B c, e = .returned (.tuple #[.slice (some ⟨B, 0, none⟩) s.length c, .int .i64 0]) ∧ NewI w (s.set u v) B w' := by
  have hl := small_len (cchk_zero hc).1
  have HSL := Lib.hid hset.1
  have hs0 : 0 < s.length := by rw [hset.1]; omega
  have hs16 : s.length ≤ 16 := by rw [hset.1]; omega
  have hus : u < s.length := by rw [hset.1]; omega
  have rc := fun W (hW : Gr w W) => pCheck_any l al cl W (clks_gr h hW) (by unfold Fit; omega)
  rw [hc] at rc
  have RC := Lib.hid rc
  have ST : Hid (∀ W, Gr w W → Calls Tryd.prog 55 #[.slice al l.length cl, .slice aS s.length cs] W (Grows W (.bool true))) := Lib.hid fun W hW => by
    have := pSetting_any l s al aS cl cs W (clks_gr h hW) (hs.giI hW) (by unfold Fit; omega) (by unfold Fit; omega)
    rwa [decide_eq_true ⟨hc, hset⟩] at this
  obtain ⟨bs, os, rfl, _⟩ := hs 0 hs0
  have HS := Lib.hid hs
  have H := Lib.hid h
  have NB := Lib.hid (cchk_zero hc).1
  rw [kOf_at hu] at hv
  have hmk := run_make_row' (P := Tryd.prog) 22 3 (.int .i64 0) 8 Tryd.underlying22 infoInt rfl .i64 .i64 s.length (by omega) (by omega)
  have hsz : (Tryd.prog.info? 3).map (·.size) = some 1 := by
    obtain ⟨i0, hi, hz0, hz1, hz2⟩ := info_parts infoInt
    rw [hi]; simp [hz1]
  clear h hs hc rc hset
  go_enter Tryd.func28, Tryd.ntmps28
  have RW := Lib.hid (Row.new w #[.int .i64 1, .int .i64 u, .int .i64 v] 35)
  have g0 : Hid (Gr w (w.alloc (.cells #[.int .i64 1, .int .i64 u, .int .i64 v] 35))) := Lib.hid ((Gr.refl _).alloc _)
  go_wp2_with fail
  refine (RC.out _ g0.out).mono ?_
  rintro e w1 ⟨rfl, hg1⟩
  have R1 := Lib.hid (RW.out.gr hg1)
  have G1 := Lib.hid (g0.out.trans hg1)
  obtain ⟨P, hP⟩ : ∃ P, w.heap.size = P := ⟨_, rfl⟩
  rw [hP] at R1 ⊢
  clear hg1 RW g0
  go_wp2_with fail
  refine (ST.out w1 G1.out).mono ?_
  rintro e w2 ⟨rfl, hg2⟩
  have R2 := Lib.hid (R1.out.gr hg2)
  have G2 := Lib.hid (G1.out.trans hg2)
  have c0 : w2.cell? ⟨P, 0, none⟩ = some (.int .i64 1) := R2.out.cell 0 (by simp)
  have c1 : w2.cell? ⟨P, 1, none⟩ = some (.int .i64 u) := R2.out.cell 1 (by simp)
  have c2 : w2.cell? ⟨P, 2, none⟩ = some (.int .i64 v) := R2.out.cell 2 (by simp)
  obtain ⟨fp, fc⟩ := small_at NB.out hu
  obtain ⟨b, o, rfl, ⟨d0, _⟩, ⟨ap, cp, d1, _⟩, ⟨ac, cc, d2, _, d2f, _⟩, ⟨d3, _⟩, ⟨d4, _⟩⟩ := clks_gr H.out G2.out u hu
  have hx := R2.out.has
  have k2 : (u : Int) < l.length := by omega
  have e1 : decide ((u : Int) < 0) = false := decide_eq_false (by omega)
  have e2 : decide (l.length ≤ u) = false := decide_eq_false (by omega)
  have e3 : decide ((v : Int) < 0) = false := decide_eq_false (by omega)
  have e4 : decide (l[u].choices.length ≤ v) = false := decide_eq_false (by omega)
  have PZ : Hid (w.heap.size = P) := Lib.hid hP
  clear hg2 R1 G1 hP
  go_wp2_with fail
  go_quiet (fail)
  have G3 : Hid (Gr w (w2.drewN nq)) := Lib.hid (G2.out.drewN _)
  have R3 := Lib.hid (R2.out.gr ((Gr.refl w2).drewN nq))
  have hz3 : Hid ((w2.drewN nq).heap.size = w2.heap.size) := Lib.hid (by simp)
  obtain ⟨W3, hW3⟩ : ∃ W3 : World, w2.drewN nq = W3 := ⟨_, rfl⟩
  rw [hW3] at G3 R3 hz3
  rw [hW3]
  clear hW3 c0 c1 c2 hx R2 G2
  obtain ⟨W4, hW4⟩ : ∃ W4 : World, Hid (W4 = (W3.alloc (.cells (madeCells #[.int .i64 0] s.length) 3)).setRow W3.heap.size ((madeCells #[.int .i64 0] s.length).toList.take 0 ++ nums s ++ (madeCells #[.int .i64 0] s.length).toList.drop (0 + (nums s).length)).toArray) := ⟨_, Lib.hid rfl⟩
  have hg4 : Hid ((W3.alloc (.cells (madeCells #[.int .i64 0] s.length) 3)).heap[W3.heap.size]? = some (.cells (madeCells #[.int .i64 0] s.length) 3 (0, 0))) := Lib.hid (heap_alloc_new W3 _)
  have hmz : Hid ((madeCells #[Value.int .i64 0] s.length).size = s.length) := Lib.hid (by rw [← Array.length_toList, made_zero]; simp)
  have R4 : Hid (RowS W4 W3.heap.size 3 (nums s)) := Lib.hid (by
    rw [hW4.out]
    refine ⟨[], ?_⟩
    unfold Row
    rw [setRow_heap _ _ _ _ _ _ hg4.out]
    simp [nums_len, made_zero])
  have g34 : Gr W3 W4 := .of_below (by
    rw [hW4.out]
    refine below_setRow ((Gr.refl W3).alloc _).below (Nat.le_refl _) _)
  have G4 := Lib.hid (G3.out.trans g34)
  have Q4 := Lib.hid (R3.out.gr g34)
  have c1 : W4.cell? ⟨P, 1, none⟩ = some (.int .i64 u) := Q4.out.cell 1 (by simp)
  have c2 : W4.cell? ⟨P, 2, none⟩ = some (.int .i64 v) := Q4.out.cell 2 (by simp)
  have hsrc : Hid (∀ j x, (nums s)[j]? = some x → (W3.alloc (.cells (madeCells #[.int .i64 0] s.length) 3)).cell? ((⟨bs, os, none⟩ : Addr).add j) = some x) := Lib.hid (slI_cells (HS.out.giI (G3.out.alloc _)))
  obtain ⟨S3, hS3⟩ : ∃ S3, Hid (W3.heap.size = S3) := ⟨_, Lib.hid rfl⟩
  have hx1 := Q4.out.has
  have hS3' := hS3.out
  have hx2 := R4.out.has
  have hc := R4.out.cell u (by rw [nums_len]; exact hus)
  have hfz := R4.out.free u
  rw [hS3.out] at hx2 hc hfz
  have hne : ¬ (P = S3) := by
    have h1 := R3.out.has
    have h2 := hS3.out
    unfold Has at h1
    omega
  have hcp := run_copy_row (P := Tryd.prog) (W3.alloc (.cells (madeCells #[.int .i64 0] s.length) 3)) 22 22 3 3 W3.heap.size 0 s.length s.length ⟨bs, os, none⟩ s.length cs (madeCells #[.int .i64 0] s.length) 3 (nums s) Tryd.underlying22 hsz hg4.out (by rw [nums_len]; exact (Nat.min_self _).symm) hsrc.out (by rw [nums_len, hmz.out]; omega) (nums_one s)
  rw [← hW4.out] at hcp
  rw [hS3.out] at hcp
  clear hW4 hg4 hmz hsrc
  go_wp2_with fail
  go_ret2
  refine ⟨_, s.length, rfl, ?_, ?_, ?_⟩
  · have := R4.out.iset u hus v
    rw [hS3.out] at this
    exact this
  · have h1 := G3.out.size
    have h2 := hS3.out
    omega
  · exact G4.out.setc (by have h1 := G3.out.size; have h2 := hS3.out; omega)
end Go.Proofs.YtenehghpmnajpaaDoor
