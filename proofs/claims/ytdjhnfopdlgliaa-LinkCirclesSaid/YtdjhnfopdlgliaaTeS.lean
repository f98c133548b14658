/- link.graph. -/
import Derived.Test.YtdjhnfopdlgliaaTeR
set_option linter.unusedVariables false
set_option linter.unusedSimpArgs false
namespace Go.Proofs.Ytdjhnfopdlgliaa
open Go.RowKit
open Classical

theorem infoSl : (Try.prog.info? 38).map (fun i => (i.zero, i.size, i.bytes)) = some (some (.slice none 0 0), 1, 24) := by kernel_rfl
/-- What link.graph gives. -/
def GivesG (w : World) (r : Except Int (List (List Int))) (e : Ending) (w' : World) : Prop :=
  match r with
  | .error k => e = .returned (.tuple #[.slice none 0 0, .int .i64 k]) ∧ Gr w w'
  | .ok gs => ∃ GB vs, e = .returned (.tuple #[.slice (some ⟨GB, 0, none⟩) gs.length gs.length, .int .i64 0]) ∧ GAt w.heap.size w' GB vs gs ∧ w.heap.size ≤ GB ∧ Gr w w'
theorem set_same' {α : Type} {l : List α} {i : Nat} (h : i < l.length) (x : α) (e : l[i] = x) : l.set i x = l := by
  subst e; simp
/-- The first k rows normal. -/
def normK (g : List (List Int)) (k : Nat) : List (List Int) := (g.take k).map normG ++ g.drop k
theorem normK_len (g : List (List Int)) (k : Nat) : (normK g k).length = g.length := by
  unfold normK; rw [List.length_append, List.length_map, List.length_take, List.length_drop]; omega
theorem normK_at (g : List (List Int)) (k : Nat) (h : k < g.length) : (normK g k)[k]'(by rw [normK_len]; exact h) = g[k] := by
  have e : ((g.take k).map normG).length = k := by rw [List.length_map, List.length_take]; omega
  simp only [normK]
  rw [List.getElem_append_right (by rw [e]; exact Nat.le_refl _), List.getElem_drop]
  congr 1
  omega
theorem normK_step (g : List (List Int)) (k : Nat) (h : k < g.length) : (normK g k).set k (normG g[k]) = normK g (k + 1) := by
  have e0 : ((g.take k).map normG).length = k := by rw [List.length_map, List.length_take]; omega
  unfold normK
  rw [List.set_append_right _ _ (by rw [e0]; exact Nat.le_refl _), List.drop_eq_getElem_cons h]
  have e : k - ((g.take k).map normG).length = 0 := by rw [e0]; omega
  rw [e, List.set_cons_zero, List.take_succ_eq_append_getElem h, List.map_append]
  simp
theorem normK_end (g : List (List Int)) : normK g g.length = g.map normG := by simp [normK]
theorem allT_len {ts : Tr} (hg : GoodT ts) {pn cn : St} : ∀ (k : Nat), k ≤ ts.length → ∀ ls, allT ts pn cn k = .ok ls → ls.length ≤ k * 64 := by
  intro k
  induction k with
  | zero => intro _ ls h; injection h with h; subst h; simp
  | succ k ih =>
    intro hk ls h
    rw [allT] at h
    split at h
    · cases h
    · rename_i out ho
      split at h
      · cases h
      · rename_i l hl
        injection h with h
        subst h
        have h1 := ih (by omega) out ho
        have h2 := ofT_len hg (show k < ts.length by omega) hl
        rw [List.length_append]
        omega
theorem lnk_at {w : World} {base c : Nat} {a : Option Addr} {ts : List LT} (h : w.ownsRow base 40 5 (.slice a ts.length c) ts.length (encLks ts)) {k : Nat} (hk : k < ts.length) :
    ∃ g, a = some ⟨g, 0, none⟩ ∧ w.cell? ⟨g, k * 5, none⟩ = some (.int .i64 ts[k].l.node) ∧ w.cell? ⟨g, k * 5 + 1, none⟩ = some (.int .i64 ts[k].l.prov) ∧ w.cell? ⟨g, k * 5 + 2, none⟩ = some (.string (bs ts[k].l.prop)) ∧ w.cell? ⟨g, k * 5 + 3, none⟩ = some (.int .i64 ts[k].l.idx) ∧ w.cell? ⟨g, k * 5 + 4, none⟩ = some (.slice ts[k].a ts[k].l.args.length ts[k].c) := by
  obtain ⟨g, cap, e1, h1, _, hc⟩ := owns_cell h (by omega)
  cases e1
  have hf := fun j (hj : j < 5) => flat_at encLk 5 (fun _ => rfl) ts k j hk hj
  have h2 : ∀ j, j < 5 → w.cell? ⟨g, k * 5 + j, none⟩ = (encLk ts[k])[j]? := fun j hj => by
    rw [hc (k * 5 + j) (by omega)]; exact hf j hj
  exact ⟨g, rfl, h2 0 (by omega), h2 1 (by omega), h2 2 (by omega), h2 3 (by omega), h2 4 (by omega)⟩
set_option maxRecDepth 100000 in
set_option maxHeartbeats 8000000 in
theorem graph_any (ts : Tr) (a : Option Addr) (cap : Nat) (pn cn : St) (w : World) (h : SlOf 3 RNod w a ts) (hc : chkT ts = 0) :
    Calls Try.prog 13 #[.agg #[.slice a ts.length cap], .string (bs pn), .string (bs cn)] w (GivesG w (graphT ts pn cn)) := by
  have H := Lib.hid h
  have C := Lib.hid hc
  have G := Lib.hid (good_of hc)
  have h120 := (good_of hc).len.2
  have hmk := run_make_row' (P := Try.prog) 49 38 (.slice none 0 0) 24 Try.underlying49 infoSl rfl .i64 .i64 ts.length (by omega) (by omega)
  clear h hc
  go_enter Try.func13, Try.ntmps13
  go_wp2_with fail
  have RB := Lib.hid (Row.new w #[.slice a ts.length cap] 32)
  obtain ⟨W1, hW1⟩ : ∃ W : World, Hid (W = w.alloc (.cells #[.slice a ts.length cap] 32)) := ⟨_, Lib.hid rfl⟩
  rw [← hW1.out] at RB ⊢
  have G1 : Hid (Gr w W1) := Lib.hid (by rw [hW1.out]; exact (Gr.refl _).alloc _)
  obtain ⟨P0, hP0⟩ : ∃ N : Nat, Hid (w.heap.size = N) := ⟨_, Lib.hid rfl⟩
  rw [hP0.out] at RB ⊢
  clear hW1 hP0
  refine (all_any ts a cap pn cn W1 (H.out.gr RNod.mono G1.out) C.out).mono ?_
  intro e w1 hgv
  cases hz : allT ts pn cn ts.length with
  | error er =>
    rw [hz] at hgv
    have er2 : Hid (graphT ts pn cn = .error er) := Lib.hid (by unfold graphT; rw [hz])
    have eb : (er != 0) = true := by
      rw [bne_iff_ne]
      have : ∀ k, allT ts pn cn k = .error er → er = 25 ∨ er = 26 := by
        intro k
        induction k with
        | zero => intro q; cases q
        | succ k ih =>
          intro q
          rw [allT] at q
          split at q
          · rename_i e' he'
            injection q with q; subst q
            exact ih he'
          · split at q
            · rename_i e' he'
              injection q with q; subst q
              exact ofT_err he'
            · cases q
      have := this _ hz
      omega
    obtain ⟨rfl, hg⟩ := hgv
    have G2 := Lib.hid (G1.out.trans hg)
    clear hg hz
    go_wp2_with fail
    refine bodyPost_ret (v := .tuple #[.slice none 0 0, .int .i64 er]) (by simp [results, Try.results13, go_sem]) rfl ?_
    rw [er2.out]
    exact ⟨rfl, G2.out⟩
  | ok ls =>
    rw [hz] at hgv
    have GE : Hid (graphT ts pn cn = .ok ((rawG ts.length ls).map normG)) := Lib.hid (by unfold graphT; rw [hz])
    have IN := Lib.hid (allT_in ts.length (Nat.le_refl _) ls hz)
    have LL : Hid (ls.length ≤ 7680) := Lib.hid (by have := allT_len G.out ts.length (Nat.le_refl _) ls hz; omega)
    obtain ⟨v, lts, rfl, h1, h2, h3, hg⟩ := hgv
    obtain ⟨va, vc, rfl⟩ := owns_slice h2
    have HLEN : Hid (lts.length = ls.length) := Lib.hid (by rw [← h1]; simp [lks])
    have hll2 : lts.length ≤ 7680 := by rw [HLEN.out]; exact LL.out
    have G2 := Lib.hid (G1.out.trans hg)
    have OW := Lib.hid h2
    have H1 := Lib.hid h1
    have b0 : w1.cell? ⟨P0, 0, none⟩ = some (.slice a ts.length cap) := (RB.out.gr hg).cell 0 (by simp)
    have hh := has_of_cell b0
    clear hg hz h1 h2 h3 RB G1
    go_wp2_with fail
    have RG := Lib.hid (Row.new w1 (madeCells #[.slice none 0 0] ts.length) 38)
    obtain ⟨W2, hW2⟩ : ∃ W : World, Hid (W = w1.alloc (.cells (madeCells #[.slice none 0 0] ts.length) 38)) := ⟨_, Lib.hid rfl⟩
    rw [← hW2.out] at RG ⊢
    rw [made_one] at RG
    have G12 : Hid (Gr w1 W2) := Lib.hid (by rw [hW2.out]; exact (Gr.refl _).alloc _)
    have G3 := Lib.hid (G2.out.trans G12.out)
    have OW3 := Lib.hid (Gr.owns OW.out G12.out)
    have gb := Lib.hid G2.out.size
    obtain ⟨GB, hGB⟩ : ∃ N : Nat, Hid (w1.heap.size = N) := ⟨_, Lib.hid rfl⟩
    rw [hGB.out] at RG gb ⊢
    have GA := Lib.hid (GAt.new (base := w.heap.size) RG.out)
    clear hW2 hGB RG G12 OW b0 hh G2 hmk
    go_loopw [30] (fun i wr => ∃ (k : Nat) (vs : List Value), k ≤ lts.length ∧ i = .int .i64 k ∧ GAt w.heap.size wr GB vs (rawG ts.length (ls.take k)) ∧ wr.ownsRow W1.heap.size 40 5 (.slice va lts.length vc) lts.length (encLks lts) ∧ Gr w wr) (fun i _ => lts.length - (intOf i).toNat)
    case atStart => exact ⟨0, _, Nat.zero_le _, rfl, GA.out, OW3.out, G3.out⟩
    case round =>
      clear GA OW3 G3
      obtain ⟨k, vs, hk, rfl, hga, how, hg⟩ := hrel
      have GA := Lib.hid hga
      have OW := Lib.hid how
      have HG := Lib.hid hg
      clear hga how hg
      by_cases hlt : k < lts.length
      · obtain ⟨gv, hvv, d0, d1, d2, d3, d4⟩ := lnk_at OW.out hlt
        obtain ⟨i, j, hni, hin, hpj, hjn⟩ := IN.out lts[k].l (by rw [← H1.out]; exact List.mem_map_of_mem (List.getElem_mem hlt))
        subst hvv
        have hh := has_of_cell d0
        obtain ⟨t, ht⟩ : ∃ t, t = lts[k] := ⟨_, rfl⟩
        have HT := Lib.hid ht
        rw [← ht] at d0 d1 d2 d3 d4 hni hpj
        have HNI := Lib.hid hni
        clear ht
        have RX := Lib.hid (Row.new wr #[.int .i64 t.l.node, .int .i64 t.l.prov, .string (bs t.l.prop), .int .i64 t.l.idx, .slice t.a t.l.args.length t.c] 40)
        clear hni hpj hjn
        go_wp2_with fail
        obtain ⟨W5, hW5⟩ : ∃ W : World, Hid (W = wr.alloc (.cells #[.int .i64 t.l.node, .int .i64 t.l.prov, .string (bs t.l.prop), .int .i64 t.l.idx, .slice t.a t.l.args.length t.c] 40)) := ⟨_, Lib.hid rfl⟩
        have G5 : Hid (Gr wr W5) := Lib.hid (by rw [hW5.out]; exact (Gr.refl _).alloc _)
        rw [← hW5.out] at RX ⊢
        obtain ⟨LB, hLB⟩ : ∃ N : Nat, Hid (wr.heap.size = N) := ⟨_, Lib.hid rfl⟩
        rw [hLB.out] at RX ⊢
        have GA5 := Lib.hid (GA.out.gr G5.out)
        have OW5 := Lib.hid (Gr.owns OW.out G5.out)
        have HG5 := Lib.hid (HG.out.trans G5.out)
        clear hW5 hLB d0 d1 d2 d3 d4 hh G5 GA OW HG
        have hig : i < (rawG ts.length (ls.take k)).length := by rw [rawG_len]; exact hin
        obtain ⟨ra, rc, hvi, hro⟩ := GA5.out.at hig
        have hgl : (rawG ts.length (ls.take k))[i].length ≤ 100000 := by
          have := rawG_row ts.length (ls.take k) i hig
          rw [List.length_take] at this
          have := HLEN.out
          omega
        refine wp_code_eq (c := Code.region 8 (regIn 8 Try.f13) true) (by kernel_rfl) (gr8 (wb := w) GA5.out hvi hro ⟨by rw [← HNI.out]; rfl, rfl⟩ RX.out hin hgl HG5.out.size ?_)
        intro t34 t35 t36 t37 t38 t39 t40 t41 t42 t43 t44 t45 t46 wx hfin
        have FN := Lib.hid hfin
        have HRO := Lib.hid hro
        have HVI := Lib.hid hvi
        unfold gr8A
        clear hfin hro hvi
        go_wp2_with fail
        go_roundw
        case rel =>
          obtain ⟨t5, w5, rfl, hbx, hrw, hgr, hot, hloc⟩ := FN.out
          have hput := GA5.out.put hig HVI.out hot hgr hloc
          refine ⟨k + 1, vs.set i t5, by omega, by go_num, ?_, ?_, ?_⟩
          · have e : rawG ts.length (ls.take (k + 1)) = (rawG ts.length (ls.take k)).set i ((rawG ts.length (ls.take k))[i] ++ [t.l.prov]) := by
              have hk2 : k < ls.length := by rw [← HLEN.out]; exact hlt
              have e1 : ls[k] = t.l := by
                have := H1.out
                subst this
                rw [HT.out]; simp [lks]
              rw [List.take_succ_eq_append_getElem hk2, rawG_snoc, addE, e1, HNI.out, Int.toNat_natCast, List.getD_eq_getElem?_getD, List.getElem?_eq_getElem hig]
              rfl
            rw [e]
            exact hput
          · have o := OW5.out.kept hgr (owns_ne OW5.out HRO.out (by decide))
            exact owns_stc o (owns_ne_ty o hrw.ty (by decide))
          · exact (HG5.out.grown hgr (fun j e => (HRO.out.lt j e).1)).setc gb.out
        case measure => simp [intOf]; omega
      · obtain rfl : k = lts.length := by omega
        have e0 : ls.take lts.length = ls := List.take_of_length_le (by rw [HLEN.out]; exact Nat.le_refl _)
        rw [e0] at GA
        obtain ⟨w6, hw6⟩ : ∃ W, W = wr := ⟨_, rfl⟩
        rw [← hw6] at GA HG
        obtain ⟨R, hR⟩ : ∃ R, Hid (rawG ts.length ls = R) := ⟨_, Lib.hid rfl⟩
        have RL : Hid (R.length = ts.length) := Lib.hid (by rw [← hR.out, rawG_len])
        have RR : Hid (∀ i (h : i < R.length), R[i].length ≤ 7680) := Lib.hid (by rw [← hR.out]; intro i h; exact Nat.le_trans (rawG_row _ _ i h) LL.out)
        rw [hR.out] at GA GE
        clear OW IN e0 hlt hll2 hk
        go_wp2_with fail
        go_loopw [50] (fun i wr => ∃ (k : Nat) (vs : List Value), k ≤ ts.length ∧ i = .int .i64 k ∧ GAt w.heap.size wr GB vs (normK R k) ∧ Gr w wr) (fun i _ => ts.length - (intOf i).toNat)
        case atStart => rw [← hw6]; exact ⟨0, vs, Nat.zero_le _, rfl, by simpa [normK] using GA.out, HG.out⟩
        case round =>
          clear hw6 GA HG
          obtain ⟨k, vs, hk, rfl, hga, hg⟩ := hrel
          have GA := Lib.hid hga
          have HG := Lib.hid hg
          clear hga hg
          by_cases hlt : k < ts.length
          · have hkR : k < R.length := by rw [RL.out]; exact hlt
            have hkn : k < (normK R k).length := by rw [normK_len]; exact hkR
            obtain ⟨ra, rc, hvi, hro⟩ := GA.out.at hkn
            rw [normK_at R k hkR] at hvi hro
            obtain ⟨g, hg⟩ : ∃ g, g = R[k] := ⟨_, rfl⟩
            have hgl : g.length ≤ 7680 := by rw [hg]; exact RR.out k hkR
            rw [← hg] at hvi hro
            have NS : Hid ((normK R k).set k (normG g) = normK R (k + 1)) := Lib.hid (by rw [hg]; exact normK_step R k hkR)
            have hil : k < vs.length := (List.getElem?_eq_some_iff.1 hvi).1
            have c9 : wr.cell? ⟨GB, k, none⟩ = some (.slice ra g.length rc) := by rw [GA.out.row.cell k hil]; exact congrArg some (List.getElem?_eq_some_iff.1 hvi).2
            have ch := has_of_cell c9
            have k2 : (k : Int) < ts.length := by omega
            have HVI := Lib.hid hvi
            have HRO := Lib.hid hro
            have HIL := Lib.hid hil
            clear hg hvi hro hil
            go_wp2_with fail
            refine (sortI_all g _ w.heap.size wr HRO.out (by omega)).mono ?_
            rintro e w5 ⟨rfl, hso, hgr⟩
            have GA5 := Lib.hid (GA.out.turn hkn HVI.out (g' := srt g) (by rw [srt_len]; exact hso) hgr)
            have HSO : Hid (w5.ownsRow w.heap.size 3 1 (.slice ra g.length rc) (srt g).length (nums (srt g))) := Lib.hid (by rw [srt_len]; exact hso)
            have HG5 := Lib.hid (HG.out.grown hgr (fun j e => (HRO.out.lt j e).1))
            have c10 : w5.cell? ⟨GB, k, none⟩ = some (.slice ra g.length rc) := by rw [GA5.out.row.cell k HIL.out]; exact congrArg some (List.getElem?_eq_some_iff.1 HVI.out).2
            have ch2 := has_of_cell c10
            clear c9 ch hso hgr
            go_wp2_with fail
            refine (compI_any (srt g) _ w.heap.size w5 HSO.out (by rw [srt_len]; omega)).mono ?_
            rintro e w7 ⟨v', rfl, hco, hgr, hbl⟩
            obtain ⟨a7, c7, rfl⟩ := owns_slice hco
            have hrw : Row w7 GB 38 vs := GA5.out.row.kept hgr (GA5.out.row.ty.ne HSO.out (by decide))
            have HCO := Lib.hid hco
            have HGR := Lib.hid hgr
            have HBL := Lib.hid hbl
            have c11 : w7.cell? ⟨GB, k, none⟩ = some (.slice ra g.length rc) := by rw [hrw.cell k HIL.out]; exact congrArg some (List.getElem?_eq_some_iff.1 HVI.out).2
            have cf := hrw.free k
            have ch3 := has_of_cell c11
            have GBW : Hid (w.heap.size ≤ GB) := gb
            clear hco hgr hbl c10 ch2 hrw
            go_wp2_with fail
            go_roundw
            case rel =>
              have hput := GA5.out.put (i := k) (by rw [List.length_set]; exact hkn) HVI.out HCO.out HGR.out (.inl HBL.out)
              rw [List.set_set] at hput
              refine ⟨k + 1, vs.set k (.slice a7 (Lib.compact (srt g)).length c7), by omega, by go_num, ?_, ?_⟩
              · rw [← NS.out]; exact hput
              · exact (HG5.out.grown HGR.out (fun j e => (HSO.out.lt j e).1)).setc gb.out
            case measure => simp [intOf]; omega
          · obtain rfl : k = ts.length := by omega
            have e1 : normK R ts.length = R.map normG := by rw [← RL.out, normK_end]
            rw [e1] at GA
            go_wp2_with fail
            refine bodyPost_ret (v := .tuple #[.slice (some ⟨GB, 0, none⟩) ts.length ts.length, .int .i64 0]) (by simp [results, Try.results13, go_sem]) rfl ?_
            rw [GE.out]
            exact ⟨GB, vs, by rw [List.length_map, RL.out], GA.out, gb.out, HG.out⟩
end Go.Proofs.Ytdjhnfopdlgliaa
