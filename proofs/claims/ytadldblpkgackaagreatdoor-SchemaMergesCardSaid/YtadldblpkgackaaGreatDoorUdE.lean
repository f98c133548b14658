/- schema.Parse (printed by wip/tools/udd.py). -/
import Derived.Test.YtadldblpkgackaaGreatDoorUdD
import Derived.Test.YtadldblpkgackaaGreatDoorUdF
import Derived.Test.YtadldblpkgackaaGreatDoorUdG
set_option linter.unusedVariables false
set_option linter.unusedSimpArgs false
namespace Go.Proofs.YtadldblpkgackaaGreatDoor
open Go.RowKit
open Classical

theorem infoSch : (Tryz.prog.info? 24).map (fun i => (i.zero, i.size, i.bytes)) = some (some (.agg #[.string (bs []), .bool false, .slice none 0 0]), 3, 48) := by kernel_rfl
theorem SM.enc_one (x : SM) {a : Option Addr} {n c : Nat} (h : x.v = .slice a n c) : ∀ u ∈ x.enc, u.oneCell' = true := by
  intro u hu
  simp only [SM.enc, List.mem_cons, List.not_mem_nil, or_false] at hu
  rcases hu with q | q | q <;> subst q
  · rfl
  · rfl
  · rw [h]; rfl
/-- What Parse gives. -/
def GivesPs (w : World) (r : List Sch × Int × Int) (e : Ending) (w' : World) : Prop :=
  Gr w w' ∧ ∃ v out, e = .returned (.tuple #[v, .int .i64 r.2.1, .int .i64 r.2.2]) ∧ OutAt w.heap.size w' v out ∧ out.map SM.sch = r.1
theorem GivesPs.err {w w' : World} {n er : Int} (hg : Gr w w') : GivesPs w ([], n, er) (.returned (.tuple #[.slice none 0 0, .int .i64 n, .int .i64 er])) w' := ⟨hg, _, [], rfl, OutAt.nil _ _, rfl⟩
def strLen : Value → Nat
  | .string s => s.size
  | _ => 0
theorem owns_row {w : World} {base e size n c : Nat} {a : Option Addr} {xs : List Value} (h : w.ownsRow base e size (.slice a n c) n xs) (hn : 0 < n) : ∃ g us, a = some ⟨g, 0, none⟩ ∧ Row w g e us ∧ (∀ j, j < n * size → us[j]? = xs[j]?) ∧ base ≤ g := by
  rcases h.2 with ⟨_, z⟩ | ⟨g, cap, cur, e1, hb, hg, _, _, _, ht⟩
  · omega
  · cases e1
    refine ⟨g, cur.toList, rfl, hg, fun j hj => ?_, hb⟩
    rw [← ht, List.getElem?_take, if_pos hj]
theorem lastD (o : List SM) (s : SM) : ((o ++ [s]).map SM.sch).getLastD default = s.sch := by
  rw [List.map_append, List.map_cons, List.map_nil, List.getLastD_eq_getLast?, List.getLast?_append]; simp
theorem lastR (o : List RM) (s : RM) : ((o ++ [s]).map RM.r).getLastD default = s.r := by
  rw [List.map_append, List.map_cons, List.map_nil, List.getLastD_eq_getLast?, List.getLast?_append]; simp
theorem snoc_of {α : Type} {l : List α} (h : l ≠ []) : ∃ o s, l = o ++ [s] := ⟨l.dropLast, l.getLast h, (List.dropLast_concat_getLast h).symm⟩
theorem push_sch (o : List SM) (s : SM) (x : RM) (v' : Value) : (o ++ [(⟨s.comp, s.closed, s.rs ++ [x], v'⟩ : SM)]).map SM.sch = ((o ++ [s]).map SM.sch).dropLast ++ [⟨s.sch.comp, s.sch.closed, s.sch.rules ++ [x.r]⟩] := by
  rw [List.map_append, List.map_append, List.map_cons, List.map_cons, List.map_nil, List.dropLast_concat]
  simp [SM.sch]
set_option maxRecDepth 100000 in
set_option maxHeartbeats 16000000 in
theorem parse_any (text : St) (w : World) (h : Libs w) :
    Calls Tryz.prog 9 #[.string (bs text)] w (GivesPs w (parseP text)) := by
  have H := Lib.hid h
  clear h
  go_enter Tryz.func9, Tryz.ntmps9
  by_cases h16 : 16000 < text.length
  · have R : Hid (parseP text = ([], 0, 3)) := Lib.hid (by unfold parseP; rw [if_pos h16])
    have hi : (16000 : Int) < text.length := by omega
    clear h16
    go_wp2_with fail
    refine bodyPost_ret (v := .tuple #[.slice none 0 0, .int .i64 0, .int .i64 3]) (by simp [results, Tryz.results9, go_sem]) rfl ?_
    rw [R.out]
    exact GivesPs.err (Gr.refl _)
  · have R : Hid (parseP text = parseF (text.length + 1) text 1 []) := Lib.hid (by unfold parseP; rw [if_neg h16])
    have hi : ¬ (16000 : Int) < text.length := by omega
    have HT := Lib.hid (show text.length ≤ 16000 by omega)
    clear h16
    go_wp2_with fail
    go_loopw [0, 5, 6] (fun tx v n wr => ∃ (cur : St) (k f : Nat) (out : List SM), tx = .string (bs cur) ∧ n = .int .i64 k ∧ OutAt w.heap.size wr v out ∧ cur.length < f ∧ parseP text = parseF f cur k (out.map SM.sch) ∧ k + cur.length ≤ 16001 ∧ 1 ≤ k ∧ Gr w wr) (fun tx _ _ _ => strLen tx)
    case atStart => exact ⟨text, 1, text.length + 1, [], rfl, rfl, OutAt.nil _ _, by omega, R.out, by have := HT.out; omega, Nat.le_refl _, Gr.refl _⟩
    case round =>
      clear R HT hi
      obtain ⟨cur, k, f, out, rfl, rfl, hoa, hcf, hps, hkc, hk1, hg⟩ := hrel
      obtain ⟨va, vc, rfl⟩ := owns_slice hoa.own
      have OA := Lib.hid hoa
      have PS := Lib.hid hps
      have HG := Lib.hid hg
      clear hoa hps hg
      by_cases hc : cur = []
      · subst hc
        have R : Hid (parseP text = (out.map SM.sch, 0, 0)) := Lib.hid (by rw [PS.out, parseF_nil])
        go_wp2_with fail
        refine bodyPost_ret (v := .tuple #[.slice va out.length vc, .int .i64 0, .int .i64 0]) (by simp [results, Tryz.results9, go_sem]) rfl ?_
        rw [R.out]
        exact ⟨HG.out, _, out, rfl, OA.out, rfl⟩
      · obtain ⟨f, rfl⟩ : ∃ f2, f = f2 + 1 := ⟨f - 1, by omega⟩
        have hce : List.isEmpty cur = false := by cases cur with | nil => exact absurd rfl hc | cons a b => rfl
        have HNE := Lib.hid hc
        have hct := cut_lt cur hc
        have hcl := cut_le1 cur [10]
        clear hc
        go_wp2_with fail
        refine (cut_any cur [10] wr (by omega) (H.out.gr HG.out)).mono ?_
        rintro e w2 ⟨rfl, hg2⟩
        obtain ⟨⟨ln, rs, en⟩, hcut⟩ : ∃ c, Lib.cut cur [10] = c := ⟨_, rfl⟩
        rw [hcut] at hct hcl ⊢
        simp only at hct hcl ⊢
        have CE := Lib.hid hcut
        have RSL := Lib.hid hct
        have LNL := Lib.hid (show ln.length ≤ 16000 by omega)
        have OA2 := Lib.hid (OA.out.gr hg2)
        have HG2 := Lib.hid (HG.out.trans hg2)
        clear hcut hct hcl hg2 OA HG hce
        go_wp2_with fail
        refine (readHead_all ln w2 (by have := LNL.out; omega) (H.out.gr HG2.out)).mono ?_
        rintro e w3 ⟨xs, xb, xa, xn, xc, rfl, hsame, hg3⟩
        obtain ⟨⟨hd, hk⟩, hhd⟩ : ∃ c, readHeadP ln = c := ⟨_, rfl⟩
        rw [hhd] at hsame ⊢
        simp only at hsame ⊢
        have HD := Lib.hid hhd
        have HOK0 := Lib.hid (fun q => readHead_ok (line := ln) q)
        rw [hhd] at HOK0
        have OA3 := Lib.hid (OA2.out.gr hg3)
        have HG3 := Lib.hid (HG2.out.trans hg3)
        clear hhd hg3 OA2 HG2
        by_cases hA : en = true ∧ hk = true
        · obtain ⟨rfl, rfl⟩ := hA
          obtain ⟨rfl, rfl, rfl, rfl, rfl⟩ := hsame rfl
          have HOK := Lib.hid (HOK0.out rfl)
          clear hsame HOK0
          have BX := Lib.hid (Row.new w3 #[.string (bs hd.comp), .bool hd.closed, .slice none 0 0] 24)
          by_cases ho : out = []
          · subst ho
            go_wp2_with fail
            obtain ⟨W4, hW4⟩ : ∃ W : World, Hid (W = w3.alloc (.cells #[.string (bs hd.comp), .bool hd.closed, .slice none 0 0] 24)) := ⟨_, Lib.hid rfl⟩
            have G4 : Hid (Gr w3 W4) := Lib.hid (by rw [hW4.out]; exact (Gr.refl _).alloc _)
            rw [← hW4.out] at BX ⊢
            obtain ⟨PX, hPX⟩ : ∃ N : Nat, Hid (w3.heap.size = N) := ⟨_, Lib.hid rfl⟩
            rw [hPX.out] at BX ⊢
            have OA4 := Lib.hid (OA3.out.gr G4.out)
            have HG4 := Lib.hid (HG3.out.trans G4.out)
            clear hW4 hPX G4 OA3 HG3
            refine wp_code_eq (c := Code.region 11 (regIn 11 Tryz.f9) true) (by kernel_rfl) (pa11 (wr := W4) (va := va) (c := vc) ?_)
            intro t39 t40 t41 t42 t43 t44 t45 t46 t47 t48 t49 t50 t51 t52 t53 t54 WX e5 hgx
            subst e5
            have OX := Lib.hid (OA4.out.gr hgx)
            have GX := Lib.hid (HG4.out.trans hgx)
            have BX2 := BX.out.gr hgx
            have x0 : WX.cell? ⟨PX, 0, none⟩ = some (.string (bs hd.comp)) := BX2.cell 0 (by simp)
            have x1 : WX.cell? ⟨PX, 1, none⟩ = some (.bool hd.closed) := BX2.cell 1 (by simp)
            have x2 : WX.cell? ⟨PX, 2, none⟩ = some (.slice none 0 0) := BX2.cell 2 (by simp)
            have hh := has_of_cell x0
            have L24 : Hid (([] : List SM).length < 24) := Lib.hid (by simp)
            clear hgx BX2 BX OA4 HG4
            unfold pa11A
            obtain ⟨j0, hj, hy0, hy1, hy2⟩ := info_parts infoSch
            have NR := Lib.hid (row_cells (Row.new WX #[.string (bs hd.comp), .bool hd.closed, .slice none 0 0] 24))
            have OWX := Lib.hid (OX.out.own.alloc (.cells #[.string (bs hd.comp), .bool hd.closed, .slice none 0 0] 24))
            go_wp2_with (at_builtin; refine wpList_append_own _ rfl _ _ 29 rfl w.heap.size 24 j0 (.agg #[.string (bs []), .bool false, .slice none 0 0]) 3 48 Tryz.underlying29 hj hy0 hy1 hy2 rfl (by decide) _ 0 (([] : List SM).flatMap SM.enc) rfl OWX.out ⟨WX.heap.size, 0, none⟩ 1 1 [.string (bs hd.comp), .bool hd.closed, .slice none 0 0] rfl rfl NR.out (SM.enc_one ⟨hd.comp, hd.closed, [], .slice none 0 0⟩ rfl) (by unfold maxLen; have := OX.out.len; omega) (by have := OX.out.len; omega) (by have := GX.out.size; simp; omega) ?_; intro v' wz hown' hgrow hnil; have HOz := Lib.hid hown'; have HGz := Lib.hid hgrow; clear hown' hgrow hnil)
            go_roundw
            case rel =>
              have ga : Gr WX (WX.alloc (.cells #[.string (bs hd.comp), .bool hd.closed, .slice none 0 0] 24)) := (Gr.refl WX).alloc _
              have OAX := OX.out.gr ga
              have GAX := GX.out.trans ga
              refine ⟨rs, k + 1, f, [] ++ [⟨hd.comp, hd.closed, [], .slice none 0 0⟩], rfl, by go_num, OAX.snoc (s := ⟨hd.comp, hd.closed, [], .slice none 0 0⟩) L24.out HGz.out HOz.out rfl rfl (Nat.le_trans (vis_len HOK.out.1) (by omega)), by have := RSL.out; omega, ?_, by have := RSL.out; omega, by omega, GAX.grown HGz.out (fun j e => (OAX.own.lt j e).1)⟩
              have e : (⟨hd.comp, hd.closed, []⟩ : Sch) = hd := by rw [← HOK.out.2]
              rw [PS.out, pf_go HNE.out CE.out HD.out (by simp) (by rw [List.length_map]; have := L24.out; omega)]
              simp only [List.map_append, List.map_cons, List.map_nil, SM.sch, e]
            case measure => have := RSL.out; simp [strLen]; omega
          · obtain ⟨o, s, hos⟩ := snoc_of ho
            clear ho
            subst hos
            have hm : (o ++ [s]).length = o.length + 1 := by simp
            obtain ⟨m, hom⟩ : ∃ m, o.length = m := ⟨_, rfl⟩
            obtain ⟨g, cap, eg, hcap, hbg, hcell⟩ := owns_cell OA3.out.own (by rw [hm]; omega)
            cases eg
            have hf := flat_at SM.enc 3 (fun _ => rfl) (o ++ [s]) o.length 0 (by rw [hm]; omega) (by omega)
            have g0 : w3.cell? ⟨g, m * 3, none⟩ = some (.string (bs s.comp)) := by
              rw [← hom]
              have := (hcell (o.length * 3) (by rw [hm]; omega)).trans hf
              rw [List.getElem_append_right (Nat.le_refl _)] at this
              simpa [SM.enc] using this
            have OL := Lib.hid hom
            rw [hm, hom]
            have hh := has_of_cell g0
            have m24 : m + 1 ≤ 24 := by have := OA3.out.len; rw [hm, hom] at this; exact this
            have b0 : (w3.alloc (.cells #[.string (bs hd.comp), .bool hd.closed, .slice none 0 0] 24)).cell? ⟨w3.heap.size, 0, none⟩ = some (.string (bs hd.comp)) := (Row.new w3 _ _).cell 0 (by simp)
            clear hcell hf hcap hbg hm hom
            by_cases hv : ltS s.comp hd.comp = true
            · have hv' : Op.bytesLess s.comp hd.comp = true := hv
              have V := Lib.hid hv
              clear hv
              by_cases h24 : m + 1 = 24
              · have hb24 : ((m : Int) + 1 == 24) = true := by rw [beq_iff_eq]; omega
                have M24 := Lib.hid h24
                clear h24
                go_wp2_with fail
                obtain ⟨W4, hW4⟩ : ∃ W : World, Hid (W = w3.alloc (.cells #[.string (bs hd.comp), .bool hd.closed, .slice none 0 0] 24)) := ⟨_, Lib.hid rfl⟩
                have G4 : Hid (Gr w3 W4) := Lib.hid (by rw [hW4.out]; exact (Gr.refl _).alloc _)
                rw [← hW4.out] at BX b0 ⊢
                obtain ⟨PX, hPX⟩ : ∃ N : Nat, Hid (w3.heap.size = N) := ⟨_, Lib.hid rfl⟩
                rw [hPX.out] at BX b0 ⊢
                have OA4 := Lib.hid (OA3.out.gr G4.out)
                have HG4 := Lib.hid (HG3.out.trans G4.out)
                have g0' := cell_gr G4.out g0
                clear hW4 hPX G4 OA3 HG3
                refine wp_code_eq (c := Code.region 11 (regIn 11 Tryz.f9) true) (by kernel_rfl) (pa11T (wr := W4) (g := g) (m := m) (vc := vc) (PX := PX) (c1 := s.comp) (c2 := hd.comp) (lt := true) m24 g0' b0 hv' ?_)
                intro t39 t40 t41 t42 t43 t44 t45 t46 t47 t48 t49 t50 t51 t52 t53 t54 WX e5 hgx
                subst e5
                have OX := Lib.hid (OA4.out.gr hgx)
                have GX := Lib.hid (HG4.out.trans hgx)
                have BX2 := BX.out.gr hgx
                have x0 : WX.cell? ⟨PX, 0, none⟩ = some (.string (bs hd.comp)) := BX2.cell 0 (by simp)
                have x1 : WX.cell? ⟨PX, 1, none⟩ = some (.bool hd.closed) := BX2.cell 1 (by simp)
                have x2 : WX.cell? ⟨PX, 2, none⟩ = some (.slice none 0 0) := BX2.cell 2 (by simp)
                have hx := has_of_cell x0
                clear hgx BX2 BX OA4 HG4 g0 g0' b0
                unfold pa11TA
                have RR : Hid (parseP text = ([], (k : Int), 3)) := Lib.hid (by rw [PS.out]; exact pf_lim HNE.out CE.out HD.out (by rw [lastD]; simp only [SM.sch]; rw [V.out]; simp) (by rw [List.length_map, List.length_append, OL.out]; exact M24.out))
                go_wp2_with fail
                refine bodyPost_ret (v := .tuple #[.slice none 0 0, .int .i64 k, .int .i64 3]) (by simp [results, Tryz.results9, go_sem]) rfl ?_
                rw [RR.out]
                exact GivesPs.err GX.out
              · have hb24 : ((m : Int) + 1 == 24) = false := by rw [beq_eq_false_iff_ne]; omega
                have L24 : Hid ((o ++ [s]).length < 24) := Lib.hid (by rw [List.length_append, OL.out]; simp; omega)
                clear h24
                go_wp2_with fail
                obtain ⟨W4, hW4⟩ : ∃ W : World, Hid (W = w3.alloc (.cells #[.string (bs hd.comp), .bool hd.closed, .slice none 0 0] 24)) := ⟨_, Lib.hid rfl⟩
                have G4 : Hid (Gr w3 W4) := Lib.hid (by rw [hW4.out]; exact (Gr.refl _).alloc _)
                rw [← hW4.out] at BX b0 ⊢
                obtain ⟨PX, hPX⟩ : ∃ N : Nat, Hid (w3.heap.size = N) := ⟨_, Lib.hid rfl⟩
                rw [hPX.out] at BX b0 ⊢
                have OA4 := Lib.hid (OA3.out.gr G4.out)
                have HG4 := Lib.hid (HG3.out.trans G4.out)
                have g0' := cell_gr G4.out g0
                clear hW4 hPX G4 OA3 HG3
                refine wp_code_eq (c := Code.region 11 (regIn 11 Tryz.f9) true) (by kernel_rfl) (pa11T (wr := W4) (g := g) (m := m) (vc := vc) (PX := PX) (c1 := s.comp) (c2 := hd.comp) (lt := true) m24 g0' b0 hv' ?_)
                intro t39 t40 t41 t42 t43 t44 t45 t46 t47 t48 t49 t50 t51 t52 t53 t54 WX e5 hgx
                subst e5
                have OX := Lib.hid (OA4.out.gr hgx)
                have GX := Lib.hid (HG4.out.trans hgx)
                have BX2 := BX.out.gr hgx
                have x0 : WX.cell? ⟨PX, 0, none⟩ = some (.string (bs hd.comp)) := BX2.cell 0 (by simp)
                have x1 : WX.cell? ⟨PX, 1, none⟩ = some (.bool hd.closed) := BX2.cell 1 (by simp)
                have x2 : WX.cell? ⟨PX, 2, none⟩ = some (.slice none 0 0) := BX2.cell 2 (by simp)
                have hx := has_of_cell x0
                clear hgx BX2 BX OA4 HG4 g0 g0' b0
                unfold pa11TA
                obtain ⟨j0, hj, hy0, hy1, hy2⟩ := info_parts infoSch
                have NR := Lib.hid (row_cells (Row.new WX #[.string (bs hd.comp), .bool hd.closed, .slice none 0 0] 24))
                have OWX := Lib.hid (OX.out.own.alloc (.cells #[.string (bs hd.comp), .bool hd.closed, .slice none 0 0] 24))
                go_wp2_with (at_builtin; refine wpList_append_own _ rfl _ _ 29 rfl w.heap.size 24 j0 (.agg #[.string (bs []), .bool false, .slice none 0 0]) 3 48 Tryz.underlying29 hj hy0 hy1 hy2 rfl (by decide) _ (m + 1) ((o ++ [s]).flatMap SM.enc) rfl (by have q := OWX.out; rw [List.length_append, OL.out] at q; exact q) ⟨WX.heap.size, 0, none⟩ 1 1 [.string (bs hd.comp), .bool hd.closed, .slice none 0 0] rfl rfl NR.out (SM.enc_one ⟨hd.comp, hd.closed, [], .slice none 0 0⟩ rfl) (by unfold maxLen; omega) (by omega) (by have := GX.out.size; simp; omega) ?_; intro v' wz hown' hgrow hnil; have HOz := Lib.hid hown'; have HGz := Lib.hid hgrow; clear hown' hgrow hnil)
                go_roundw
                case rel =>
                  have ga : Gr WX (WX.alloc (.cells #[.string (bs hd.comp), .bool hd.closed, .slice none 0 0] 24)) := (Gr.refl WX).alloc _
                  have OAX := OX.out.gr ga
                  have GAX := GX.out.trans ga
                  refine ⟨rs, k + 1, f, (o ++ [s]) ++ [⟨hd.comp, hd.closed, [], .slice none 0 0⟩], rfl, by go_num, OAX.snoc (s := ⟨hd.comp, hd.closed, [], .slice none 0 0⟩) L24.out HGz.out (by have q := HOz.out; rw [List.length_append, OL.out]; exact q) rfl rfl (Nat.le_trans (vis_len HOK.out.1) (by omega)), by have := RSL.out; omega, ?_, by have := RSL.out; omega, by omega, GAX.grown HGz.out (fun j e => (OAX.own.lt j e).1)⟩
                  have e : (⟨hd.comp, hd.closed, []⟩ : Sch) = hd := by rw [← HOK.out.2]
                  rw [PS.out, pf_go HNE.out CE.out HD.out (by rw [lastD]; simp only [SM.sch]; rw [V.out]; simp) (by rw [List.length_map]; have := L24.out; omega)]
                  simp only [List.map_append, List.map_cons, List.map_nil, SM.sch, e]
                case measure => have := RSL.out; simp [strLen]; omega
            · rw [Bool.not_eq_true] at hv
              have hv' : Op.bytesLess s.comp hd.comp = false := hv
              have V := Lib.hid hv
              clear hv
              go_wp2_with fail
              obtain ⟨W4, hW4⟩ : ∃ W : World, Hid (W = w3.alloc (.cells #[.string (bs hd.comp), .bool hd.closed, .slice none 0 0] 24)) := ⟨_, Lib.hid rfl⟩
              have G4 : Hid (Gr w3 W4) := Lib.hid (by rw [hW4.out]; exact (Gr.refl _).alloc _)
              rw [← hW4.out] at BX b0 ⊢
              obtain ⟨PX, hPX⟩ : ∃ N : Nat, Hid (w3.heap.size = N) := ⟨_, Lib.hid rfl⟩
              rw [hPX.out] at BX b0 ⊢
              have OA4 := Lib.hid (OA3.out.gr G4.out)
              have HG4 := Lib.hid (HG3.out.trans G4.out)
              have g0' := cell_gr G4.out g0
              clear hW4 hPX G4 OA3 HG3
              refine wp_code_eq (c := Code.region 11 (regIn 11 Tryz.f9) true) (by kernel_rfl) (pa11T (wr := W4) (g := g) (m := m) (vc := vc) (PX := PX) (c1 := s.comp) (c2 := hd.comp) (lt := false) m24 g0' b0 hv' ?_)
              intro t39 t40 t41 t42 t43 t44 t45 t46 t47 t48 t49 t50 t51 t52 t53 t54 WX e5 hgx
              subst e5
              have OX := Lib.hid (OA4.out.gr hgx)
              have GX := Lib.hid (HG4.out.trans hgx)
              have BX2 := BX.out.gr hgx
              have x0 : WX.cell? ⟨PX, 0, none⟩ = some (.string (bs hd.comp)) := BX2.cell 0 (by simp)
              have x1 : WX.cell? ⟨PX, 1, none⟩ = some (.bool hd.closed) := BX2.cell 1 (by simp)
              have x2 : WX.cell? ⟨PX, 2, none⟩ = some (.slice none 0 0) := BX2.cell 2 (by simp)
              have hx := has_of_cell x0
              clear hgx BX2 BX OA4 HG4 g0 g0' b0
              unfold pa11TA
              have RR : Hid (parseP text = ([], (k : Int), 12)) := Lib.hid (by rw [PS.out]; exact pf_ord HNE.out CE.out HD.out ⟨by simp, by rw [lastD]; exact V.out⟩)
              go_wp2_with fail
              refine bodyPost_ret (v := .tuple #[.slice none 0 0, .int .i64 k, .int .i64 12]) (by simp [results, Tryz.results9, go_sem]) rfl ?_
              rw [RR.out]
              exact GivesPs.err GX.out
        · have HA := Lib.hid hA
          clear hA HOK0
          cases en with
          | false =>
            clear hsame
            go_wp2_with fail
            obtain ⟨W4, hW4⟩ : ∃ W : World, Hid (W = w3.alloc (.cells #[.string xs, .bool xb, .slice xa xn xc] 24)) := ⟨_, Lib.hid rfl⟩
            have G4 : Hid (Gr w3 W4) := Lib.hid (by rw [hW4.out]; exact (Gr.refl _).alloc _)
            rw [← hW4.out]
            have OA4 := Lib.hid (OA3.out.gr G4.out)
            have HG4 := Lib.hid (HG3.out.trans G4.out)
            clear hW4 G4 OA3 HG3
            refine (readRule_all ln W4 (by have := LNL.out; omega) (H.out.gr HG4.out)).mono ?_
            rintro e w5 ⟨ys, yb, yk, yl, yh, yc, ya, yn, ycap, rfl, hsm, hg5⟩
            have OA5 := Lib.hid (OA4.out.gr hg5)
            have HG5 := Lib.hid (HG4.out.trans hg5)
            clear hg5 OA4 HG4
            have RR : Hid (parseP text = ([], (k : Int), 6)) := Lib.hid (by rw [PS.out]; exact pr_syn HNE.out CE.out (by simp) (.inl rfl))
            go_wp2_with fail
            refine bodyPost_ret (v := .tuple #[.slice none 0 0, .int .i64 k, .int .i64 6]) (by simp [results, Tryz.results9, go_sem]) rfl ?_
            rw [RR.out]
            exact GivesPs.err (HG5.out.alloc _)
          | true =>
            obtain rfl : hk = false := by cases hk with | false => rfl | true => exact absurd ⟨rfl, rfl⟩ HA.out
            clear hsame HA
            go_wp2_with fail
            obtain ⟨W4, hW4⟩ : ∃ W : World, Hid (W = w3.alloc (.cells #[.string xs, .bool xb, .slice xa xn xc] 24)) := ⟨_, Lib.hid rfl⟩
            have G4 : Hid (Gr w3 W4) := Lib.hid (by rw [hW4.out]; exact (Gr.refl _).alloc _)
            rw [← hW4.out]
            have OA4 := Lib.hid (OA3.out.gr G4.out)
            have HG4 := Lib.hid (HG3.out.trans G4.out)
            clear hW4 G4 OA3 HG3
            refine (readRule_all ln W4 (by have := LNL.out; omega) (H.out.gr HG4.out)).mono ?_
            rintro e w5 ⟨ys, yb, yk, yl, yh, yc, ya, yn, ycap, rfl, hsm, hg5⟩
            have OA5 := Lib.hid (OA4.out.gr hg5)
            have HG5 := Lib.hid (HG4.out.trans hg5)
            clear hg5 OA4 HG4
            obtain ⟨⟨ru, rk⟩, hru⟩ : ∃ c, readRuleP ln = c := ⟨_, rfl⟩
            rw [hru] at hsm ⊢
            simp only at hsm ⊢
            have RU := Lib.hid hru
            have RUK0 := Lib.hid (fun q => readRule_ok (line := ln) q)
            rw [hru] at RUK0
            clear hru
            cases rk with
            | false =>
              clear hsm
              have RR : Hid (parseP text = ([], (k : Int), 6)) := Lib.hid (by rw [PS.out]; exact pr_syn HNE.out CE.out (by rw [HD.out]; simp) (.inr (.inl (by rw [RU.out]))))
              go_wp2_with fail
              refine bodyPost_ret (v := .tuple #[.slice none 0 0, .int .i64 k, .int .i64 6]) (by simp [results, Tryz.results9, go_sem]) rfl ?_
              rw [RR.out]
              exact GivesPs.err (HG5.out.alloc _)
            | true =>
              obtain ⟨rfl, rfl, rfl, rfl, rfl, rfl, rfl, hwc, hwat⟩ := hsm rfl
              have RUK := Lib.hid (RUK0.out rfl)
              have HWC := Lib.hid hwc
              have HWA := Lib.hid hwat
              clear RUK0 hwc hwat hsm
              by_cases ho : out = []
              · subst ho
                have RR : Hid (parseP text = ([], (k : Int), 6)) := Lib.hid (by rw [PS.out]; exact pr_syn HNE.out CE.out (by rw [HD.out]; simp) (.inr (.inr (by simp))))
                go_wp2_with fail
                refine bodyPost_ret (v := .tuple #[.slice none 0 0, .int .i64 k, .int .i64 6]) (by simp [results, Tryz.results9, go_sem]) rfl ?_
                rw [RR.out]
                exact GivesPs.err (HG5.out.alloc _)
              · obtain ⟨o, s, hos⟩ := snoc_of ho
                clear ho
                subst hos
                have hm : (o ++ [s]).length = o.length + 1 := by simp
                obtain ⟨m, hom⟩ : ∃ m, o.length = m := ⟨_, rfl⟩
                have OL := Lib.hid hom
                have m24 : m + 1 ≤ 24 := by have := OA5.out.len; rw [hm, hom] at this; exact this
                have hrl := OA5.out.rls s (by simp)
                obtain ⟨ra, rc, hsv⟩ := owns_slice hrl.own
                have hrown := hrl.own
                rw [hsv] at hrown
                have HSV := Lib.hid hsv
                have HOWN := Lib.hid hrown
                have OB5 : Hid (OutAt w.heap.size w5 (.slice va (m + 1) vc) (o ++ [s])) := Lib.hid (by have q := OA5.out; rwa [hm, hom] at q)
                have how5 := OB5.out.own
                rw [hm, hom] at how5
                obtain ⟨g, us, eg, hus, husx, hgb⟩ := owns_row how5 (by omega)
                cases eg
                have US := Lib.hid hus
                have GB := Lib.hid hgb
                have hf0 := flat_at SM.enc 3 (fun _ => rfl) (o ++ [s]) o.length 0 (by rw [hm]; omega) (by omega)
                have hf2 := flat_at SM.enc 3 (fun _ => rfl) (o ++ [s]) o.length 2 (by rw [hm]; omega) (by omega)
                rw [List.getElem_append_right (Nat.le_refl _)] at hf0 hf2
                simp only [Nat.sub_self, List.getElem_cons_zero, hom] at hf0 hf2
                have hvi : us[m * 3 + 2]? = some (.slice ra s.rs.length rc) := by
                  rw [husx _ (by omega), hf2]; simp only [SM.enc]; rw [hsv]; rfl
                have HVI := Lib.hid hvi
                have g2 : w5.cell? ⟨g, m * 3 + 2, none⟩ = some (.slice ra s.rs.length rc) := by
                  obtain ⟨hj, e⟩ := List.getElem?_eq_some_iff.1 hvi
                  rw [US.out.cell _ hj, e]
                have hh := has_of_cell g2
                have kw : IntKind.i64.wrap (m : Int) = m := Go.IntWalk.i64_in _ (by omega)
                have kx : (m : Int) < (m : Int) + 1 := by omega
                have hb0 : ((m : Int) + 1 == 0) = false := by rw [beq_eq_false_iff_ne]; omega
                have rle := hrl.len
                clear hf0 hf2 hvi how5 hus husx hgb hrown hsv OA5
                rw [hm, hom]
                clear hm hom
                obtain ⟨q, hq⟩ : ∃ q, s.rs.length = q := ⟨_, rfl⟩
                have RQ := Lib.hid hq
                cases q with
                | zero =>
                  rw [hq] at g2
                  clear hrl hq rle
                  go_wp2_with fail
                  obtain ⟨W6, hW6⟩ : ∃ W : World, Hid (W = w5.alloc (.cells #[.string (bs ru.name), .bool ru.req, .int .i64 ru.kind, .int .i64 ru.low, .int .i64 ru.high, .int .i64 ru.count, .slice ya ru.words.length ycap] 28)) := ⟨_, Lib.hid rfl⟩
                  have G6 : Hid (Gr w5 W6) := Lib.hid (by rw [hW6.out]; exact (Gr.refl _).alloc _)
                  have BY : Hid (Row W6 w5.heap.size 28 (⟨ru, ya, ycap⟩ : RM).enc) := Lib.hid (by rw [hW6.out]; exact Row.new w5 #[.string (bs ru.name), .bool ru.req, .int .i64 ru.kind, .int .i64 ru.low, .int .i64 ru.high, .int .i64 ru.count, .slice ya ru.words.length ycap] 28)
                  rw [← hW6.out]
                  obtain ⟨RX, hRX⟩ : ∃ N : Nat, Hid (w5.heap.size = N) := ⟨_, Lib.hid rfl⟩
                  have RNE : Hid (some RX ≠ (Value.slice ra s.rs.length rc).ownBlock) := Lib.hid (by rw [← hRX.out]; intro e; have := (HOWN.out.lt _ e.symm).2; omega)
                  rw [hRX.out] at BY ⊢
                  have OA6 := Lib.hid (OB5.out.gr G6.out)
                  have HG6 := Lib.hid (HG5.out.trans G6.out)
                  have US6 := Lib.hid (US.out.gr G6.out)
                  have HO6 := Lib.hid (Gr.owns HOWN.out G6.out)
                  have WA6 := Lib.hid (HWA.out.gr G6.out)
                  clear hW6 hRX G6 OB5 HG5 US HOWN HWA
                  refine wp_code_eq (c := Code.region 21 (regIn 21 Tryz.f9) true) (by kernel_rfl) (pa21 (wr := W6) ?_)
                  intro t92 t93 t94 t95 t96 t97 t98 t99 t100 t101 t102 t103 t104 t105 t106 t107 t108 WX e5 hgx
                  subst e5
                  unfold pa21A
                  have OX := Lib.hid (OA6.out.gr hgx)
                  have GX := Lib.hid (HG6.out.trans hgx)
                  have USX := Lib.hid (US6.out.gr hgx)
                  have HOX := Lib.hid (Gr.owns HO6.out hgx)
                  have WAX := Lib.hid (WA6.out.gr hgx)
                  have BYX := Lib.hid (BY.out.gr hgx)
                  clear hgx OA6 HG6 US6 HO6 WA6 BY
                  go_wp2_with fail
                  refine wp_code_eq (c := Code.region 25 (regIn 25 Tryz.f9) true) (by kernel_rfl) (pa25 (wr := WX) (wb := w) (g := g) (RX := RX) (us := us) (va := ra) (vc := rc) (rs := s.rs) (x := (⟨ru, ya, ycap⟩ : RM)) (p := m * 3) USX.out HVI.out HOX.out BYX.out RNE.out (by have := RQ.out; omega) GX.out.size ?_)
                  intro t114 t115 t116 t117 t118 t119 t120 t121 t122 t123 wz hfin
                  have FN := Lib.hid hfin
                  clear hfin
                  unfold pa25A
                  go_wp2_with fail
                  go_roundw
                  case rel =>
                    obtain ⟨t5, w1, rfl, hgr, hown, hloc⟩ := FN.out
                    obtain rfl := OL.out
                    have HP := OX.out.push (x := (⟨ru, ya, ycap⟩ : RM)) (v' := t5) rfl (by have := RQ.out; omega) (by rw [HSV.out]; exact hgr) hown (by rw [HSV.out]; exact hloc) WAX.out ⟨RUK.out.1, Nat.le_trans (rule_name RUK.out.1) (by omega), HWC.out⟩
                    refine ⟨rs, k + 1, f, o ++ [⟨s.comp, s.closed, s.rs ++ [(⟨ru, ya, ycap⟩ : RM)], t5⟩], rfl, by go_num, HP, by have := RSL.out; omega, ?_, by have := RSL.out; omega, by omega, (GX.out.grown hgr (fun j e => (HOX.out.lt j e).1)).setc GB.out⟩
                    rw [PS.out, pr_go HNE.out CE.out (by rw [HD.out]) RU.out (by simp) (by rw [lastD]; rintro ⟨z, _⟩; simp only [SM.sch, List.length_map] at z; have := RQ.out; omega) (by rw [lastD]; simp only [SM.sch, List.length_map]; have := RQ.out; omega), push_sch, lastD]
                  case measure => have := RSL.out; simp [strLen]; omega
                | succ q =>
                  obtain ⟨rs1, lr, hrs⟩ := snoc_of (l := s.rs) (by intro e; rw [e] at hq; simp at hq)
                  have HRS := Lib.hid hrs
                  have hq1 : rs1.length = q := by rw [hrs] at hq; simpa using hq
                  obtain ⟨rg, rcap, er, _, _, hcell⟩ := owns_cell HOWN.out (by omega)
                  cases er
                  have hf := flat_at RM.enc 7 (fun _ => rfl) s.rs q 0 (by omega) (by omega)
                  have r0 : w5.cell? ⟨rg, q * 7, none⟩ = some (.string (bs lr.r.name)) := by
                    have := (hcell (q * 7) (by omega)).trans hf
                    rw [this]
                    have e : s.rs[q]'(by omega) = lr := by simp only [hrs]; rw [List.getElem_append_right (by omega)]; simp [hq1]
                    rw [e]; rfl
                  rw [hq] at g2 rle
                  clear hf hcell hrl hrs hq1 hq
                  have hr := has_of_cell r0
                  by_cases hv : ltS lr.r.name ru.name = true
                  · have hv' : Op.bytesLess lr.r.name ru.name = true := hv
                    have V := Lib.hid hv
                    clear hv
                    by_cases h16 : q + 1 = 16
                    · have hb16 : ((q : Int) + 1 == 16) = true := by rw [beq_iff_eq]; omega
                      have Q16 := Lib.hid h16
                      clear h16
                      go_wp2_with fail
                      obtain ⟨W6, hW6⟩ : ∃ W : World, Hid (W = w5.alloc (.cells #[.string (bs ru.name), .bool ru.req, .int .i64 ru.kind, .int .i64 ru.low, .int .i64 ru.high, .int .i64 ru.count, .slice ya ru.words.length ycap] 28)) := ⟨_, Lib.hid rfl⟩
                      have G6 : Hid (Gr w5 W6) := Lib.hid (by rw [hW6.out]; exact (Gr.refl _).alloc _)
                      have BY : Hid (Row W6 w5.heap.size 28 (⟨ru, ya, ycap⟩ : RM).enc) := Lib.hid (by rw [hW6.out]; exact Row.new w5 #[.string (bs ru.name), .bool ru.req, .int .i64 ru.kind, .int .i64 ru.low, .int .i64 ru.high, .int .i64 ru.count, .slice ya ru.words.length ycap] 28)
                      rw [← hW6.out]
                      obtain ⟨RX, hRX⟩ : ∃ N : Nat, Hid (w5.heap.size = N) := ⟨_, Lib.hid rfl⟩
                      have RNE : Hid (some RX ≠ (Value.slice (some ⟨rg, 0, none⟩) s.rs.length rc).ownBlock) := Lib.hid (by rw [← hRX.out]; intro e; have := (HOWN.out.lt _ e.symm).2; omega)
                      rw [hRX.out] at BY ⊢
                      have OA6 := Lib.hid (OB5.out.gr G6.out)
                      have HG6 := Lib.hid (HG5.out.trans G6.out)
                      have US6 := Lib.hid (US.out.gr G6.out)
                      have HO6 := Lib.hid (Gr.owns HOWN.out G6.out)
                      have WA6 := Lib.hid (HWA.out.gr G6.out)
                      have l0 := cell_gr G6.out r0
                      have l1 := cell_gr G6.out g2
                      clear hW6 hRX G6 OB5 HG5 US HOWN HWA
                      have k0 : W6.cell? ⟨RX, 0, none⟩ = some (.string (bs ru.name)) := BY.out.cell 0 (by simp [RM.enc])
                      refine wp_code_eq (c := Code.region 21 (regIn 21 Tryz.f9) true) (by kernel_rfl) (pa21T (wr := W6) (g := g) (p := m * 3) (rg := rg) (q := q) (rc := rc) (RX := RX) (c1 := lr.r.name) (c2 := ru.name) (lt := true) (by omega) l1 l0 k0 hv' ?_)
                      intro t92 t93 t94 t95 t96 t97 t98 t99 t100 t101 t102 t103 t104 t105 t106 t107 t108 WX e5 hgx
                      subst e5
                      unfold pa21TA
                      clear l0 l1 k0
                      have OX := Lib.hid (OA6.out.gr hgx)
                      have GX := Lib.hid (HG6.out.trans hgx)
                      have USX := Lib.hid (US6.out.gr hgx)
                      have HOX := Lib.hid (Gr.owns HO6.out hgx)
                      have WAX := Lib.hid (WA6.out.gr hgx)
                      have BYX := Lib.hid (BY.out.gr hgx)
                      clear hgx OA6 HG6 US6 HO6 WA6 BY
                      have RR : Hid (parseP text = ([], (k : Int), 3)) := Lib.hid (by rw [PS.out]; exact pr_lim HNE.out CE.out (by rw [HD.out]) RU.out (by simp) (by rw [lastD]; rintro ⟨_, z⟩; simp only [SM.sch, HRS.out] at z; rw [lastR, V.out] at z; cases z) (by rw [lastD]; simp only [SM.sch, List.length_map]; have := RQ.out; have := Q16.out; omega))
                      go_wp2_with fail
                      refine bodyPost_ret (v := .tuple #[.slice none 0 0, .int .i64 k, .int .i64 3]) (by simp [results, Tryz.results9, go_sem]) rfl ?_
                      rw [RR.out]
                      exact GivesPs.err GX.out
                    · have hb16 : ((q : Int) + 1 == 16) = false := by rw [beq_eq_false_iff_ne]; omega
                      have Q16 : Hid (s.rs.length < 16) := Lib.hid (by have := RQ.out; omega)
                      clear h16
                      go_wp2_with fail
                      obtain ⟨W6, hW6⟩ : ∃ W : World, Hid (W = w5.alloc (.cells #[.string (bs ru.name), .bool ru.req, .int .i64 ru.kind, .int .i64 ru.low, .int .i64 ru.high, .int .i64 ru.count, .slice ya ru.words.length ycap] 28)) := ⟨_, Lib.hid rfl⟩
                      have G6 : Hid (Gr w5 W6) := Lib.hid (by rw [hW6.out]; exact (Gr.refl _).alloc _)
                      have BY : Hid (Row W6 w5.heap.size 28 (⟨ru, ya, ycap⟩ : RM).enc) := Lib.hid (by rw [hW6.out]; exact Row.new w5 #[.string (bs ru.name), .bool ru.req, .int .i64 ru.kind, .int .i64 ru.low, .int .i64 ru.high, .int .i64 ru.count, .slice ya ru.words.length ycap] 28)
                      rw [← hW6.out]
                      obtain ⟨RX, hRX⟩ : ∃ N : Nat, Hid (w5.heap.size = N) := ⟨_, Lib.hid rfl⟩
                      have RNE : Hid (some RX ≠ (Value.slice (some ⟨rg, 0, none⟩) s.rs.length rc).ownBlock) := Lib.hid (by rw [← hRX.out]; intro e; have := (HOWN.out.lt _ e.symm).2; omega)
                      rw [hRX.out] at BY ⊢
                      have OA6 := Lib.hid (OB5.out.gr G6.out)
                      have HG6 := Lib.hid (HG5.out.trans G6.out)
                      have US6 := Lib.hid (US.out.gr G6.out)
                      have HO6 := Lib.hid (Gr.owns HOWN.out G6.out)
                      have WA6 := Lib.hid (HWA.out.gr G6.out)
                      have l0 := cell_gr G6.out r0
                      have l1 := cell_gr G6.out g2
                      clear hW6 hRX G6 OB5 HG5 US HOWN HWA
                      have k0 : W6.cell? ⟨RX, 0, none⟩ = some (.string (bs ru.name)) := BY.out.cell 0 (by simp [RM.enc])
                      refine wp_code_eq (c := Code.region 21 (regIn 21 Tryz.f9) true) (by kernel_rfl) (pa21T (wr := W6) (g := g) (p := m * 3) (rg := rg) (q := q) (rc := rc) (RX := RX) (c1 := lr.r.name) (c2 := ru.name) (lt := true) (by omega) l1 l0 k0 hv' ?_)
                      intro t92 t93 t94 t95 t96 t97 t98 t99 t100 t101 t102 t103 t104 t105 t106 t107 t108 WX e5 hgx
                      subst e5
                      unfold pa21TA
                      clear l0 l1 k0
                      have OX := Lib.hid (OA6.out.gr hgx)
                      have GX := Lib.hid (HG6.out.trans hgx)
                      have USX := Lib.hid (US6.out.gr hgx)
                      have HOX := Lib.hid (Gr.owns HO6.out hgx)
                      have WAX := Lib.hid (WA6.out.gr hgx)
                      have BYX := Lib.hid (BY.out.gr hgx)
                      clear hgx OA6 HG6 US6 HO6 WA6 BY
                      go_wp2_with fail
                      refine wp_code_eq (c := Code.region 25 (regIn 25 Tryz.f9) true) (by kernel_rfl) (pa25 (wr := WX) (wb := w) (g := g) (RX := RX) (us := us) (va := (some ⟨rg, 0, none⟩)) (vc := rc) (rs := s.rs) (x := (⟨ru, ya, ycap⟩ : RM)) (p := m * 3) USX.out HVI.out HOX.out BYX.out RNE.out (by have := Q16.out; omega) GX.out.size ?_)
                      intro t114 t115 t116 t117 t118 t119 t120 t121 t122 t123 wz hfin
                      have FN := Lib.hid hfin
                      clear hfin
                      unfold pa25A
                      go_wp2_with fail
                      go_roundw
                      case rel =>
                        obtain ⟨t5, w1, rfl, hgr, hown, hloc⟩ := FN.out
                        obtain rfl := OL.out
                        have HP := OX.out.push (x := (⟨ru, ya, ycap⟩ : RM)) (v' := t5) rfl (by have := Q16.out; omega) (by rw [HSV.out]; exact hgr) hown (by rw [HSV.out]; exact hloc) WAX.out ⟨RUK.out.1, Nat.le_trans (rule_name RUK.out.1) (by omega), HWC.out⟩
                        refine ⟨rs, k + 1, f, o ++ [⟨s.comp, s.closed, s.rs ++ [(⟨ru, ya, ycap⟩ : RM)], t5⟩], rfl, by go_num, HP, by have := RSL.out; omega, ?_, by have := RSL.out; omega, by omega, (GX.out.grown hgr (fun j e => (HOX.out.lt j e).1)).setc GB.out⟩
                        rw [PS.out, pr_go HNE.out CE.out (by rw [HD.out]) RU.out (by simp) (by rw [lastD]; rintro ⟨_, z⟩; simp only [SM.sch, HRS.out] at z; rw [lastR, V.out] at z; cases z) (by rw [lastD]; simp only [SM.sch, List.length_map]; have := Q16.out; omega), push_sch, lastD]
                      case measure => have := RSL.out; simp [strLen]; omega
                  · rw [Bool.not_eq_true] at hv
                    have hv' : Op.bytesLess lr.r.name ru.name = false := hv
                    have V := Lib.hid hv
                    clear hv
                    go_wp2_with fail
                    obtain ⟨W6, hW6⟩ : ∃ W : World, Hid (W = w5.alloc (.cells #[.string (bs ru.name), .bool ru.req, .int .i64 ru.kind, .int .i64 ru.low, .int .i64 ru.high, .int .i64 ru.count, .slice ya ru.words.length ycap] 28)) := ⟨_, Lib.hid rfl⟩
                    have G6 : Hid (Gr w5 W6) := Lib.hid (by rw [hW6.out]; exact (Gr.refl _).alloc _)
                    have BY : Hid (Row W6 w5.heap.size 28 (⟨ru, ya, ycap⟩ : RM).enc) := Lib.hid (by rw [hW6.out]; exact Row.new w5 #[.string (bs ru.name), .bool ru.req, .int .i64 ru.kind, .int .i64 ru.low, .int .i64 ru.high, .int .i64 ru.count, .slice ya ru.words.length ycap] 28)
                    rw [← hW6.out]
                    obtain ⟨RX, hRX⟩ : ∃ N : Nat, Hid (w5.heap.size = N) := ⟨_, Lib.hid rfl⟩
                    have RNE : Hid (some RX ≠ (Value.slice (some ⟨rg, 0, none⟩) s.rs.length rc).ownBlock) := Lib.hid (by rw [← hRX.out]; intro e; have := (HOWN.out.lt _ e.symm).2; omega)
                    rw [hRX.out] at BY ⊢
                    have OA6 := Lib.hid (OB5.out.gr G6.out)
                    have HG6 := Lib.hid (HG5.out.trans G6.out)
                    have US6 := Lib.hid (US.out.gr G6.out)
                    have HO6 := Lib.hid (Gr.owns HOWN.out G6.out)
                    have WA6 := Lib.hid (HWA.out.gr G6.out)
                    have l0 := cell_gr G6.out r0
                    have l1 := cell_gr G6.out g2
                    clear hW6 hRX G6 OB5 HG5 US HOWN HWA
                    have k0 : W6.cell? ⟨RX, 0, none⟩ = some (.string (bs ru.name)) := BY.out.cell 0 (by simp [RM.enc])
                    refine wp_code_eq (c := Code.region 21 (regIn 21 Tryz.f9) true) (by kernel_rfl) (pa21T (wr := W6) (g := g) (p := m * 3) (rg := rg) (q := q) (rc := rc) (RX := RX) (c1 := lr.r.name) (c2 := ru.name) (lt := false) (by omega) l1 l0 k0 hv' ?_)
                    intro t92 t93 t94 t95 t96 t97 t98 t99 t100 t101 t102 t103 t104 t105 t106 t107 t108 WX e5 hgx
                    subst e5
                    unfold pa21TA
                    clear l0 l1 k0
                    have OX := Lib.hid (OA6.out.gr hgx)
                    have GX := Lib.hid (HG6.out.trans hgx)
                    have USX := Lib.hid (US6.out.gr hgx)
                    have HOX := Lib.hid (Gr.owns HO6.out hgx)
                    have WAX := Lib.hid (WA6.out.gr hgx)
                    have BYX := Lib.hid (BY.out.gr hgx)
                    clear hgx OA6 HG6 US6 HO6 WA6 BY
                    have RR : Hid (parseP text = ([], (k : Int), 12)) := Lib.hid (by rw [PS.out]; exact pr_ord HNE.out CE.out (by rw [HD.out]) RU.out (by simp) ⟨by rw [lastD]; simp only [SM.sch, List.length_map]; have := RQ.out; omega, by rw [lastD]; simp only [SM.sch, HRS.out]; rw [lastR]; exact V.out⟩)
                    go_wp2_with fail
                    refine bodyPost_ret (v := .tuple #[.slice none 0 0, .int .i64 k, .int .i64 12]) (by simp [results, Tryz.results9, go_sem]) rfl ?_
                    rw [RR.out]
                    exact GivesPs.err GX.out
end Go.Proofs.YtadldblpkgackaaGreatDoor
