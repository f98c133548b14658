/- Lemmas and contracts for the proof of LinkOrders (several texts in one, printed by wip/tools/pack.py): LpC LpD LoD. -/
import Derived.Test.YtdjhnfopdlgliaaGreatLo1ps
import Derived.WalkMore
import Derived.Deep.LoopGhost
import Derived.Test.YtdjhnfopdlgliaaGreatLo1pr
set_option maxRecDepth 100000
set_option maxHeartbeats 16000000
set_option linter.unusedVariables false
set_option linter.unusedSimpArgs false
namespace Go.Proofs.YtdjhnfopdlgliaaGreat
open Go.RowKit
open Classical
theorem VL.smN {ts : Tr} (h : VL ts) {k : Nat} (hk : k < ts.length) : SmN (nd ts k) := by
  obtain ⟨q1, q2, q3⟩ := h.sm hk
  obtain ⟨q4, q5⟩ := h.asc hk
  exact ⟨q1, q2, q3, by omega, fun p hp => ⟨by have := q5 p hp; omega, by have := h.vals hk p hp; omega⟩⟩
structure LI (base b len P3 g m c : Nat) (w wr : World) (ms : List NM) : Prop where
  tr : TrAt base wr (.slice (some ⟨g, 0, none⟩) m c) ms
  vl : VL (ms.map NM.n)
  ml : ms.length = m
  r3 : Row wr P3 31 [.slice (some ⟨g, 0, none⟩) m c]
  r2 : Row wr base 31 [.slice none 0 0]
  mv : Mv b len w wr
  bb : b < base ∧ base < P3 ∧ base = w.heap.size
theorem LI.move {base b len P3 g m c : Nat} {w wr w' : World} {ms : List NM} (h : LI base b len P3 g m c w wr ms) (hm : Mv b len wr w') : LI base b len P3 g m c w w' ms := by
  obtain ⟨h1, h2, h3⟩ := h.bb
  exact ⟨h.tr.mv h1 hm, h.vl, h.ml, hm.row h.r3 (by omega), hm.row h.r2 (by omega), h.mv.trans (by omega) hm, h.bb⟩
theorem LI.gr {base b len P3 g m c : Nat} {w wr w' : World} {ms : List NM} (h : LI base b len P3 g m c w wr ms) (hg : Gr wr w') : LI base b len P3 g m c w w' ms :=
  ⟨h.tr.gr hg, h.vl, h.ml, h.r3.gr hg, h.r2.gr hg, h.mv.gr hg, h.bb⟩
theorem LI.at {base b len P3 g m c : Nat} {w wr : World} {ms : List NM} (h : LI base b len P3 g m c w wr ms) {k : Nat} (hk : k < ms.length) :
    wr.cell? ⟨g, k * 3, none⟩ = some (.int .i64 ms[k].n.parent) ∧ wr.cell? ⟨g, k * 3 + 1, none⟩ = some (.string (bs ms[k].n.name)) ∧
    wr.cell? ⟨g, k * 3 + 2, none⟩ = some (.slice ms[k].a ms[k].n.props.length ms[k].c) ∧ SlOf 2 RPrp wr ms[k].a ms[k].n.props ∧ (∀ W, Gr wr W → W.frozen? ⟨g, k * 3 + 2, none⟩ = false) ∧ (∀ W, Mv b len wr W → W.frozen? ⟨g, k * 3 + 2, none⟩ = false) ∧ (∀ W, Mv b len wr W → SlOf 2 RPrp W ms[k].a ms[k].n.props) ∧
    (ms[k].n.props.length ≤ 1000 ∧ (∀ q ∈ ms[k].n.props, q.name.length ≤ 1000 ∧ q.val.length ≤ 100000) ∧ ms[k].n.props.length ≤ ms[k].c) := by
  have hk2 : k < (ms.map NM.n).length := by rw [List.length_map]; exact hk
  obtain ⟨g', cap, e1, _, _, hc⟩ := owns_cell h.tr.own (by omega)
  cases e1
  have hf := fun j (hj : j < 3) => flat_at NM.enc 3 (fun _ => rfl) ms k j hk hj
  have h2 : ∀ j, j < 3 → wr.cell? ⟨g, k * 3 + j, none⟩ = (NM.enc ms[k])[j]? := fun j hj => by rw [hc (k * 3 + j) (by omega)]; exact hf j hj
  have hn := h.tr.nds ms[k] (List.getElem_mem hk)
  have hsm := hn.sm
  have sl : ∀ W, Mv b len wr W → SlOf 2 RPrp W ms[k].a ms[k].n.props := fun W hm => prps_sl ((h.move hm).tr.nds ms[k] (List.getElem_mem hk)).own hsm.prp
  refine ⟨by have := h2 0 (by omega); exact this, by have := h2 1 (by omega); exact this, by have := h2 2 (by omega); exact this, prps_sl hn.own hsm.prp, fun W hg => ?_, fun W hm => ?_, sl, hsm.len, hsm.prp, owns_cap2 hn.own⟩
  · have q := (h.tr.gr hg).own
    rw [h.ml] at q
    exact q.frozenAt _
  · have q := (h.move hm).tr.own
    rw [h.ml] at q
    exact q.frozenAt _
theorem LI.gne {base b len P3 g m c : Nat} {w wr : World} {ms : List NM} (h : LI base b len P3 g m c w wr ms) : g ≠ P3 ∧ g ≠ base ∧ base ≤ g ∧ g ≠ b := by
  have hb := owns_block h.tr.own g rfl
  have h1 := h.bb
  refine ⟨?_, ?_, hb.1, by omega⟩
  · rcases h.tr.ne_ty h.r3.ty (by decide) with q | q
    · cases q
    · exact fun e => q (by rw [e]; rfl)
  · rcases h.tr.ne_ty h.r2.ty (by decide) with q | q
    · cases q
    · exact fun e => q (by rw [e]; rfl)
theorem LI.put {base b len P3 g m c : Nat} {w wr w1 : World} {ms : List NM} (h : LI base b len P3 g m c w wr ms) {k : Nat} (hk : k < ms.length) {x : Option Addr} {c2 : Nat} {ps : List Prp} (hm : Mv b len wr w1)
    (ho : w1.ownsRow wr.heap.size 89 2 (.slice x ps.length c2) ps.length (ps.flatMap encP)) (hv : VL (setN (ms.map NM.n) k ps)) :
    LI base b len P3 g m c w (w1.setCell ⟨g, k * 3 + 2, none⟩ (.slice x ps.length c2)) (ms.set k ⟨{ (ms[k]'hk).n with props := ps }, x, c2⟩) := by
  obtain ⟨n1, n2, n3, n4⟩ := h.gne
  have bb := h.bb
  have h1 := h.move hm
  have hk2 : k < (ms.map NM.n).length := by rw [List.length_map]; exact hk
  have e : nd (ms.map NM.n) k = (ms[k]'hk).n := by rw [nd_get hk2, List.getElem_map]
  have sm : SmN { (ms[k]'hk).n with props := ps } := by
    have q := hv.smN (k := k) (by unfold setN; rw [List.length_set]; exact hk2)
    rw [nd_set_same hk2, e] at q
    exact q
  refine ⟨h1.tr.put hk (owns_low ho (by have := h.mv.size; omega)) sm, by rw [map_putN]; exact hv, by rw [List.length_set]; exact h.ml, h1.r3.oth (b := g) (o := k * 3 + 2) n1, h1.r2.oth (b := g) (o := k * 3 + 2) n2, h1.mv.setc (by omega), h.bb⟩
def GivesLT (base b len : Nat) (w : World) (e : Ending) (w' : World) : Prop := ∃ (v : Value) (ms : List NM), e = .returned (.agg #[v]) ∧ TrAt base w' v ms ∧ VL (ms.map NM.n) ∧ ms.length ≤ 9 ∧ Mv b len w w'
theorem cells_in : ([35, 99, 101, 108, 108, 115] : St) ∈ namesV := by
  have q : namesV.contains ([35, 99, 101, 108, 108, 115] : St) = true := by kernel_rfl
  simpa using q
theorem clocks_in : ([99, 108, 111, 99, 107, 115] : St) ∈ namesV := by
  have q : namesV.contains ([99, 108, 111, 99, 107, 115] : St) = true := by kernel_rfl
  simpa using q
theorem handle_in : ([112, 104, 97, 110, 100, 108, 101] : St) ∈ namesV := by
  have q : namesV.contains ([112, 104, 97, 110, 100, 108, 101] : St) = true := by kernel_rfl
  simpa using q
theorem nd_ms {ms : List NM} {k : Nat} (hk : k < ms.length) : nd (ms.map NM.n) k = (ms[k]'hk).n := by rw [nd_get (by rw [List.length_map]; exact hk), List.getElem_map]
theorem VL.putM {ms : List NM} (h : VL (ms.map NM.n)) {k : Nat} (hk : k < ms.length) {nm val : St} (hn : nm ∈ namesV) (hv : val.length ≤ 4096) : VL (setN (ms.map NM.n) k (putP (ms[k]'hk).n.props ⟨nm, val⟩)) := by
  have q := h.put (k := k) (by rw [List.length_map]; exact hk) hn hv
  rw [nd_ms hk] at q
  exact q
theorem VL.woM {ms : List NM} (h : VL (ms.map NM.n)) {k : Nat} (hk : k < ms.length) (s : St) : VL (setN (ms.map NM.n) k (woP (ms[k]'hk).n.props s)) := by
  have q := h.fil (k := k) (by rw [List.length_map]; exact hk) (fun x => x != s)
  rw [nd_ms hk] at q
  exact q
theorem FinC.li {base b len P3 g m c k : Nat} {w wr w' : World} {ms : List NM} (h : LI base b len P3 g m c w wr ms) (hk : k < ms.length) (hf : FinC wr b len g k (ms[k]'hk).n.props w') : ∃ m2, LI base b len P3 g m c w w' m2 := by
  obtain ⟨w1, n, x, c2, rfl, h9, hm, ho⟩ := hf
  exact ⟨_, h.put hk hm ho (h.vl.putM hk cells_in (by rw [cellsS_length]; simp))⟩
theorem Fin7.li {base b len P3 g m c k : Nat} {w wr w' : World} {ms : List NM} {ps : List Prp} (h : LI base b len P3 g m c w wr ms) (ht : Tp wr b len) (hk : k < ms.length) (hf : Fin7 wr g k ps w') (hv : VL (setN (ms.map NM.n) k ps)) : ∃ m2, LI base b len P3 g m c w w' m2 := by
  obtain ⟨w1, x, c2, rfl, hg, ho⟩ := hf
  exact ⟨_, h.put hk (Mv.of_gr ht hg) ho hv⟩
theorem links_any (b len : Nat) (w : World) (ht : Tp w b len) :
    Calls Tryz.prog 12 #[.pointer (some ⟨b, 0, none⟩)] w (GivesLT w.heap.size b len w) := by
  have H := Lib.hid ht
  have hb := ht.has
  clear ht
  obtain ⟨P0, hP0⟩ : ∃ P : Ending → World → Prop, P = GivesLT w.heap.size b len w := ⟨_, rfl⟩
  rw [← hP0]
  have HP0 := Lib.hid hP0
  clear hP0
  go_enter Tryz.func12, Tryz.ntmps12
  go_upto_region 1 with (fail)
  have R2 := Lib.hid (Row.new w #[.slice none 0 0] 31)
  obtain ⟨W1, hW1⟩ : ∃ W : World, Hid (W = w.alloc (.cells #[.slice none 0 0] 31)) := ⟨_, Lib.hid rfl⟩
  have G1 : Hid (Gr w W1) := Lib.hid (by rw [hW1.out]; exact (Gr.refl _).alloc _)
  have Z1 : Hid (W1.heap.size = w.heap.size + 1) := Lib.hid (by rw [hW1.out]; simp)
  rw [← hW1.out] at R2 ⊢
  obtain ⟨P2, hP2⟩ : ∃ N : Nat, Hid (w.heap.size = N) := ⟨_, Lib.hid rfl⟩
  have HP2 := Lib.hid hP2.out
  rw [hP2.out] at R2 HP0 hb Z1 ⊢
  clear hW1 hP2
  have M1 := Lib.hid (Mv.of_gr H.out G1.out)
  have T1 := Lib.hid (H.out.gr G1.out)
  have hbw : b < w.heap.size := H.out.has
  go_wp2_with fail
  refine (tree_any 8 b len W1 T1.out (by omega)).mono ?_
  rintro e w2 ⟨v, ms, rfl, htr, hvb, hml, hmv⟩
  have hpos : 0 < ms.length := by have := hvb.v.pos; rwa [List.length_map] at this
  obtain ⟨g, c, e1, _, hg, _⟩ := owns_cell htr.own hpos
  subst e1
  have S2 := Lib.hid (hmv.row R2.out (by omega))
  have M2 := Lib.hid (M1.out.trans hbw hmv)
  have TR2 := Lib.hid (htr.low (base' := P2) (by have := Z1.out; omega))
  have VL2 := Lib.hid (VL.of hvb.v)
  have M9 : Hid (ms.length ≤ 9 ∧ 0 < ms.length) := Lib.hid ⟨by omega, hpos⟩
  clear htr hvb hml hmv hg R2 M1 hpos
  obtain ⟨m, hm⟩ : ∃ N : Nat, Hid (ms.length = N) := ⟨_, Lib.hid rfl⟩
  rw [hm.out] at TR2 M9 ⊢
  go_upto_region 2 with (fail)
  have R3 := Lib.hid (Row.new w2 #[.slice (some ⟨g, 0, none⟩) m c] 31)
  obtain ⟨W3, hW3⟩ : ∃ W : World, Hid (W = w2.alloc (.cells #[.slice (some ⟨g, 0, none⟩) m c] 31)) := ⟨_, Lib.hid rfl⟩
  have g3 : Gr w2 W3 := by rw [hW3.out]; exact (Gr.refl _).alloc _
  rw [← hW3.out] at R3 ⊢
  obtain ⟨P3, hP3⟩ : ∃ N : Nat, Hid (w2.heap.size = N) := ⟨_, Lib.hid rfl⟩
  have PB : Hid (P2 < P3) := Lib.hid (by have := M2.out.size; have := S2.out.has; have := hP3.out; unfold Has at *; omega)
  rw [hP3.out] at R3 ⊢
  have L3 : Hid (LI P2 b len P3 g m c w W3 ms) := Lib.hid ⟨TR2.out.gr g3, VL2.out, hm.out, R3.out, S2.out.gr g3, M2.out.gr g3, hb, PB.out, HP2.out.symm⟩
  have T3 := Lib.hid (L3.out.mv.tp H.out)
  clear hW3 hP3 g3 R3 S2 M2 TR2 VL2 hm
  go_wp2_with fail
  refine (nM_any W3 b len 4 T3.out (by omega) (by omega)).mono ?_
  rintro e w4 ⟨c4, rfl, ⟨_, _⟩, hm4⟩
  have L4 := Lib.hid (L3.out.move hm4)
  clear hm4 L3 T3
  have x0 := L4.out.r3.cell 0 (by simp)
  simp only [List.getElem_cons_zero] at x0
  have hx := has_of_cell x0
  go_wp2_with fail
  clear x0 hx
  obtain ⟨cir, hcir⟩ : ∃ B, (c4 == 0) = B := ⟨_, rfl⟩
  rw [hcir]
  clear hcir
  go_loopw [22] (fun i wr => ∃ (k : Nat) (ms : List NM), k ≤ m ∧ i = .int .i64 k ∧ LI P2 b len P3 g m c w wr ms) (fun i _ => m - (intOf i).toNat)
  case atStart => exact ⟨0, ms, Nat.zero_le _, rfl, L4.out⟩
  case round =>
    obtain ⟨k, ms, hk, rfl, hl⟩ := hrel
    have LL := Lib.hid hl
    clear hl
    have TP := Lib.hid (LL.out.mv.tp H.out)
    have m9 := M9.out
    have x0 := LL.out.r3.cell 0 (by simp)
    simp only [List.getElem_cons_zero] at x0
    have hx := has_of_cell x0
    by_cases hlt : k < m
    · have hkm : k < ms.length := by rw [LL.out.ml]; exact hlt
      have kn : (k : Int) < (m : Int) := by omega
      have HLT := Lib.hid hlt
      clear hlt
      go_wp2_with fail
      refine (nM_any wr b len 8 TP.out (by omega) (by omega)).mono ?_
      rintro e w5 ⟨x, rfl, ⟨x1, x2⟩, hm5⟩
      have L5 := Lib.hid (LL.out.move hm5)
      have T5 := Lib.hid (L5.out.mv.tp H.out)
      clear hm5 x0 hx
      by_cases hx1 : 0 < x
      · obtain ⟨_, _, c2, hsl, hfr, hfm, hsm, hbb⟩ := L5.out.at hkm
        go_upto_region 8 with (fail)
        refine wp_code_eq (c := Code.region 8 (regIn 8 Tryz.f12) true) (by kernel_rfl) (lk8 (wr := w5) (g := g) (k := k) (by omega) c2 hfr hsl hbb ?_)
        intro t32 t33 t34 t35 t36 t37 t38 t39 t40 t41 t42 t43 w6 hfin
        obtain ⟨m6, h2⟩ := hfin.li L5.out T5.out hkm (L5.out.vl.putM hkm handle_in (by rw [cellsS_length]; simp))
        have L6 := Lib.hid h2
        have T6 := Lib.hid (L6.out.mv.tp H.out)
        clear h2 hfin c2 hsl hfr hfm hsm hbb
        unfold lk8A
        go_wp2_with fail
        refine (nM_any w6 b len 3 T6.out (by omega) (by omega)).mono ?_
        rintro e w7 ⟨y, rfl, ⟨y1, y2⟩, hm7⟩
        have L7 := Lib.hid (L6.out.move hm7)
        have T7 := Lib.hid (L7.out.mv.tp H.out)
        clear hm7
        by_cases hy : y = 0
        · subst hy
          have hkm7 : k < m6.length := by rw [L7.out.ml]; exact HLT.out
          obtain ⟨_, _, c2, hsl, hfr, hfm, hsm, hbb⟩ := L7.out.at hkm7
          go_upto_region 10 with (fail)
          refine wp_code_eq (c := Code.region 10 (regIn 10 Tryz.f12) true) (by kernel_rfl) (lk10 (wr := w7) (b := b) (len := len) (g := g) (k := k) T7.out L7.out.gne.2.2.2 c2 hfm hsm hbb ?_)
          intro t47 t48 t49 t50 t51 t52 t53 t54 t55 t56 t57 t58 t59 wx hfin
          obtain ⟨m2, h2⟩ := hfin.li L7.out hkm7
          have L8 := Lib.hid h2
          clear h2 hfin c2 hsl hfr hfm hsm hbb
          unfold lk10A
          go_wp2_with fail
          go_roundw
          case rel => exact ⟨k + 1, m2, by have := HLT.out; omega, by go_num, L8.out⟩
          case measure => simp [intOf]; have := HLT.out; omega
        · have hyb : (y == 0) = false := by rw [beq_eq_false_iff_ne]; exact hy
          clear hy
          go_wp2_with fail
          go_roundw
          case rel => exact ⟨k + 1, m6, by have := HLT.out; omega, by go_num, L7.out⟩
          case measure => simp [intOf]; have := HLT.out; omega
      · have hx2 : x = 0 := by omega
        subst hx2
        clear hx1 x1 x2
        go_wp2_with fail
        refine (nM_any w5 b len 3 T5.out (by omega) (by omega)).mono ?_
        rintro e w7 ⟨y, rfl, ⟨y1, y2⟩, hm7⟩
        have L7 := Lib.hid (L5.out.move hm7)
        have T7 := Lib.hid (L7.out.mv.tp H.out)
        clear hm7
        by_cases hy : y = 0
        · subst hy
          have hkm7 : k < ms.length := by rw [L7.out.ml]; exact HLT.out
          obtain ⟨_, _, c2, hsl, hfr, hfm, hsm, hbb⟩ := L7.out.at hkm7
          go_upto_region 10 with (fail)
          refine wp_code_eq (c := Code.region 10 (regIn 10 Tryz.f12) true) (by kernel_rfl) (lk10 (wr := w7) (b := b) (len := len) (g := g) (k := k) T7.out L7.out.gne.2.2.2 c2 hfm hsm hbb ?_)
          intro t47 t48 t49 t50 t51 t52 t53 t54 t55 t56 t57 t58 t59 wx hfin
          obtain ⟨m2, h2⟩ := hfin.li L7.out hkm7
          have L8 := Lib.hid h2
          clear h2 hfin c2 hsl hfr hfm hsm hbb
          unfold lk10A
          go_wp2_with fail
          go_roundw
          case rel => exact ⟨k + 1, m2, by have := HLT.out; omega, by go_num, L8.out⟩
          case measure => simp [intOf]; have := HLT.out; omega
        · have hyb : (y == 0) = false := by rw [beq_eq_false_iff_ne]; exact hy
          clear hy
          go_wp2_with fail
          go_roundw
          case rel => exact ⟨k + 1, ms, by have := HLT.out; omega, by go_num, L7.out⟩
          case measure => simp [intOf]; have := HLT.out; omega
    · obtain rfl : m = k := by omega
      clear hlt hk
      go_wp2_with fail
      clear x0 hx
      obtain ⟨w8, rfl⟩ : ∃ wo, wo = wr := ⟨_, rfl⟩
      go_loopw [64] (fun i wr => ∃ (k : Nat) (ms : List NM), k ≤ m ∧ i = .int .i64 k ∧ LI P2 b len P3 g m c w wr ms) (fun i _ => m - (intOf i).toNat)
      case atStart => exact ⟨0, ms, Nat.zero_le _, rfl, LL.out⟩
      case round =>
        clear LL TP
        obtain ⟨k, ms, hk, rfl, hl⟩ := hrel
        have LL := Lib.hid hl
        clear hl
        have TP := Lib.hid (LL.out.mv.tp H.out)
        have x0 := LL.out.r3.cell 0 (by simp)
        simp only [List.getElem_cons_zero] at x0
        have hx := has_of_cell x0
        by_cases hlt : k < m
        · have kn : (k : Int) < (m : Int) := by omega
          have HLT := Lib.hid hlt
          clear hlt hk
          go_wp2_with fail
          refine (nM_any wr b len 3 TP.out (by omega) (by omega)).mono ?_
          rintro e w5 ⟨y, rfl, ⟨y1, y2⟩, hm5⟩
          obtain ⟨y, rfl⟩ := Int.eq_ofNat_of_zero_le y1
          have L5 := Lib.hid (LL.out.move hm5)
          have Y2 : Hid (y ≤ 2) := Lib.hid (by omega)
          clear hm5 x0 hx y1 y2
          go_wp2_with fail
          obtain ⟨w9, rfl⟩ : ∃ wo, wo = wr := ⟨_, rfl⟩
          go_loopw [8, 9] (fun v j wr => ∃ (val : St) (n : Nat), v = .string (bs val) ∧ j = .int .i64 (n : Int) ∧ n ≤ 2 ∧ val.length + n * 1100 ≤ 2200 ∧ LI P2 b len P3 g m c w wr ms) (fun _ j _ => (intOf j).toNat)
          case atStart => exact ⟨[], y, rfl, rfl, Y2.out, by have := Y2.out; simp; omega, L5.out⟩
          case round =>
            clear L5 LL TP
            obtain ⟨val, n, rfl, rfl, hn, hv, hl⟩ := hrel
            have LL := Lib.hid hl
            clear hl
            have TP := Lib.hid (LL.out.mv.tp H.out)
            have VB : Hid (val.length + n * 1100 ≤ 2200) := Lib.hid hv
            have vb2 : val.length ≤ 2200 := by omega
            have x0 := LL.out.r3.cell 0 (by simp)
            simp only [List.getElem_cons_zero] at x0
            have hx := has_of_cell x0
            clear hv
            by_cases h0 : 0 < n
            · obtain ⟨n, rfl⟩ : ∃ q, n = q + 1 := ⟨n - 1, by omega⟩
              have VB3 : Hid (val.length + 1100 ≤ 2200 ∧ n ≤ 1) := Lib.hid (by have := VB.out; omega)
              have vb3 : val.length ≤ 1100 := by have := VB3.out; omega
              clear h0
              have m9 := M9.out
              go_wp2_with fail
              refine (nM_any wr b len (m : Int) TP.out (by omega) (by omega)).mono ?_
              rintro e w6 ⟨z, rfl, ⟨z1, z2⟩, hm6⟩
              obtain ⟨z, rfl⟩ := Int.eq_ofNat_of_zero_le z1
              have L6 := Lib.hid (LL.out.move hm6)
              have ZM : Hid (z < m) := Lib.hid (by omega)
              clear hm6 x0 hx z1 z2
              cases cir with
              | false =>
                by_cases hzk : k ≤ z
                · have zb : (k : Int) ≤ (z : Int) := by omega
                  have zb2 : decide (k ≤ z) = true := by simpa using hzk
                  go_wp2_with fail
                  go_roundw
                  case rel => exact ⟨val, n, rfl, by go_num, by have := VB3.out; omega, by have := VB3.out; omega, L6.out⟩
                  case measure => simp [intOf] <;> omega
                · have zb2 : decide (k ≤ z) = false := by rw [decide_eq_false_iff_not]; omega
                  clear hzk
                  have T6 := Lib.hid (L6.out.mv.tp H.out)
                  have z9 : z ≤ 9 := by have := ZM.out; omega
                  go_wp2_with fail
                  obtain ⟨q, hq⟩ : ∃ q : Nat, Hid (10 + z = q) := ⟨_, Lib.hid rfl⟩
                  rw [show (10 : Int) + (z : Int) = (q : Int) by have := hq.out; omega]
                  have QL : Hid (q ≤ 19) := Lib.hid (by have := hq.out; omega)
                  have RB := Lib.hid (Row.new w6 #[.int .i64 (q : Int)] 3)
                  obtain ⟨W7, hW7⟩ : ∃ W : World, Hid (W = w6.alloc (.cells #[.int .i64 (q : Int)] 3)) := ⟨_, Lib.hid rfl⟩
                  have g7 : Gr w6 W7 := by rw [hW7.out]; exact (Gr.refl _).alloc _
                  rw [← hW7.out] at RB ⊢
                  obtain ⟨PQ, hPQ⟩ : ∃ N : Nat, Hid (w6.heap.size = N) := ⟨_, Lib.hid rfl⟩
                  rw [hPQ.out] at RB ⊢
                  have L7 := Lib.hid (L6.out.gr g7)
                  clear hW7 hPQ g7 hq z9
                  refine (growCells_any [q] (some ⟨PQ, 0, none⟩) 1 W7 (sl_one RB.out (by have := QL.out; omega)) (by have := QL.out; simp; omega) (by simp) (by simp)).mono ?_
                  rintro e w10 ⟨rfl, hg10⟩
                  have L8 := Lib.hid (L7.out.gr hg10)
                  obtain ⟨cs, hcs⟩ : ∃ cs, cellsS [q] = cs := ⟨_, rfl⟩
                  have CL : Hid (cs.length = 4) := Lib.hid (by rw [← hcs, cellsS_length]; rfl)
                  have cl : cs.length ≤ 4 := by have := CL.out; omega
                  rw [hcs]
                  clear hcs hg10 L7 RB
                  have hzm : z < ms.length := by rw [L8.out.ml]; exact ZM.out
                  obtain ⟨c0, c1, c2, hsl, _, _, _, hbb⟩ := L8.out.at hzm
                  obtain ⟨nz, hnz⟩ : ∃ t, ms[z] = t := ⟨_, rfl⟩
                  rw [hnz] at c0 c1 c2 hsl hbb
                  have SLZ := Lib.hid hsl
                  have NB := Lib.hid hbb.1
                  have x0 := L8.out.r3.cell 0 (by simp)
                  simp only [List.getElem_cons_zero] at x0
                  have hx := has_of_cell x0
                  have hg0 := has_of_cell c0
                  have zn : (z : Int) < (m : Int) := by have := ZM.out; omega
                  clear hsl hbb hnz
                  go_wp2_with fail
                  refine (rOf_any nz.n nz.a nz.c [35, 99, 101, 108, 108, 115] w10 SLZ.out (by have := NB.out; omega)).mono ?_
                  intro e w11 hgv
                  obtain ⟨val1, hval1⟩ : ∃ v, val ++ cs = v := ⟨_, rfl⟩
                  have V1 : Hid (val1.length = val.length + 4) := Lib.hid (by rw [← hval1, List.length_append, CL.out])
                  have v1 : val1.length ≤ 1104 := by have := V1.out; omega
                  (try rw [hval1])
                  clear hval1 x0 hx hg0 c0 c1 c2 cl
                  cases hz : valP nz.n.props [35, 99, 101, 108, 108, 115] with
                  | none =>
                    rw [hz] at hgv
                    obtain ⟨hg11, rfl⟩ := hgv
                    have L9 := Lib.hid (L8.out.gr hg11)
                    clear hg11 hz
                    go_wp2_with fail
                    go_roundw
                    case rel => exact ⟨val1, n, rfl, by go_num, by have := VB3.out; omega, by have := VB3.out; have := VB.out; have := V1.out; omega, L9.out⟩
                    case measure => simp [intOf] <;> omega
                  | some v =>
                    rw [hz] at hgv
                    obtain ⟨hg11, rfl⟩ := hgv
                    have L9 := Lib.hid (L8.out.gr hg11)
                    clear hg11 hz
                    by_cases h4 : v.length = 4
                    · obtain ⟨va, vb, vc, vd, hvl⟩ : ∃ a b c d, v = [a, b, c, d] := by
                        match v, h4 with
                        | [a, b, c, d], _ => exact ⟨a, b, c, d, rfl⟩
                      subst hvl
                      clear h4
                      have d256 : vd.toNat < 256 := vd.toNat_lt
                      go_wp2_with fail
                      obtain ⟨w12, rfl⟩ : ∃ wo, wo = wr := ⟨_, rfl⟩
                      go_loopw [8, 13] (fun v j wr => ∃ (val2 : St) (n2 : Nat), v = .string (bs val2) ∧ j = .int .i64 (n2 : Int) ∧ n2 ≤ vd.toNat ∧ val2.length ≤ val1.length + 4 * n2 ∧ LI P2 b len P3 g m c w wr ms) (fun _ j _ => vd.toNat - (intOf j).toNat)
                      case atStart => exact ⟨val1, 0, rfl, rfl, Nat.zero_le _, by omega, L9.out⟩
                      case round =>
                        clear L6 L8 L9 LL TP T6 SLZ NB
                        obtain ⟨val2, n2, rfl, rfl, hn2, hv2, hl⟩ := hrel
                        have LL2 := Lib.hid hl
                        have TP2 := Lib.hid (LL2.out.mv.tp H.out)
                        have V2 : Hid (val2.length ≤ val1.length + 4 * n2) := Lib.hid hv2
                        have v2 : val2.length ≤ 2200 := by omega
                        clear hl hv2
                        by_cases hlt2 : n2 < vd.toNat
                        · have kn2 : (n2 : Int) < (vd.toNat : Int) := by omega
                          have HLT2 := Lib.hid hlt2
                          clear hlt2
                          go_wp2_with fail
                          refine (nM_any wr b len 50 TP2.out (by omega) (by omega)).mono ?_
                          rintro e w13 ⟨r, rfl, ⟨r1, r2⟩, hm13⟩
                          obtain ⟨r, rfl⟩ := Int.eq_ofNat_of_zero_le r1
                          have L10 := Lib.hid (LL2.out.move hm13)
                          have R49 : Hid (r ≤ 49) := Lib.hid (by omega)
                          clear hm13 r1 r2
                          go_wp2_with fail
                          have RB := Lib.hid (Row.new w13 #[.int .i64 (r : Int)] 3)
                          obtain ⟨W14, hW14⟩ : ∃ W : World, Hid (W = w13.alloc (.cells #[.int .i64 (r : Int)] 3)) := ⟨_, Lib.hid rfl⟩
                          have g14 : Gr w13 W14 := by rw [hW14.out]; exact (Gr.refl _).alloc _
                          rw [← hW14.out] at RB ⊢
                          obtain ⟨PR, hPR⟩ : ∃ N : Nat, Hid (w13.heap.size = N) := ⟨_, Lib.hid rfl⟩
                          rw [hPR.out] at RB ⊢
                          have L11 := Lib.hid (L10.out.gr g14)
                          clear hW14 hPR g14
                          refine (growCells_any [r] (some ⟨PR, 0, none⟩) 1 W14 (sl_one RB.out (by have := R49.out; omega)) (by have := R49.out; simp; omega) (by simp) (by simp)).mono ?_
                          rintro e w15 ⟨rfl, hg15⟩
                          have L12 := Lib.hid (L11.out.gr hg15)
                          obtain ⟨cr, hcr⟩ : ∃ cs, cellsS [r] = cs := ⟨_, rfl⟩
                          have CR : Hid (cr.length = 4) := Lib.hid (by rw [← hcr, cellsS_length]; rfl)
                          have cl : cr.length ≤ 4 := by have := CR.out; omega
                          rw [hcr]
                          clear hcr hg15 RB
                          go_wp2_with fail
                          go_roundw
                          case rel => exact ⟨val2 ++ cr, n2 + 1, rfl, by go_num, by have := HLT2.out; omega, by have := V2.out; have := CR.out; rw [List.length_append]; omega, L12.out⟩
                          case measure => simp [intOf]; have := HLT2.out; omega
                        · have kn2 : ¬ (n2 : Int) < (vd.toNat : Int) := by omega
                          clear hlt2
                          go_wp2_with fail
                          go_roundw
                          case rel => exact ⟨val2, n, rfl, by go_num, by have := VB3.out; omega, by have := VB3.out; have := VB.out; have := V1.out; have := V2.out; omega, LL2.out⟩
                          case measure => simp [intOf] <;> omega
                    · have h4b : ((v.length : Int) == 4) = false := by rw [beq_eq_false_iff_ne]; omega
                      clear h4
                      go_wp2_with fail
                      go_roundw
                      case rel => exact ⟨val1, n, rfl, by go_num, by have := VB3.out; omega, by have := VB3.out; have := VB.out; have := V1.out; omega, L9.out⟩
                      case measure => simp [intOf] <;> omega
              | true =>
                have T6 := Lib.hid (L6.out.mv.tp H.out)
                have z9 : z ≤ 9 := by have := ZM.out; omega
                go_wp2_with fail
                obtain ⟨q, hq⟩ : ∃ q : Nat, Hid (10 + z = q) := ⟨_, Lib.hid rfl⟩
                rw [show (10 : Int) + (z : Int) = (q : Int) by have := hq.out; omega]
                have QL : Hid (q ≤ 19) := Lib.hid (by have := hq.out; omega)
                have RB := Lib.hid (Row.new w6 #[.int .i64 (q : Int)] 3)
                obtain ⟨W7, hW7⟩ : ∃ W : World, Hid (W = w6.alloc (.cells #[.int .i64 (q : Int)] 3)) := ⟨_, Lib.hid rfl⟩
                have g7 : Gr w6 W7 := by rw [hW7.out]; exact (Gr.refl _).alloc _
                rw [← hW7.out] at RB ⊢
                obtain ⟨PQ, hPQ⟩ : ∃ N : Nat, Hid (w6.heap.size = N) := ⟨_, Lib.hid rfl⟩
                rw [hPQ.out] at RB ⊢
                have L7 := Lib.hid (L6.out.gr g7)
                clear hW7 hPQ g7 hq z9
                refine (growCells_any [q] (some ⟨PQ, 0, none⟩) 1 W7 (sl_one RB.out (by have := QL.out; omega)) (by have := QL.out; simp; omega) (by simp) (by simp)).mono ?_
                rintro e w10 ⟨rfl, hg10⟩
                have L8 := Lib.hid (L7.out.gr hg10)
                obtain ⟨cs, hcs⟩ : ∃ cs, cellsS [q] = cs := ⟨_, rfl⟩
                have CL : Hid (cs.length = 4) := Lib.hid (by rw [← hcs, cellsS_length]; rfl)
                have cl : cs.length ≤ 4 := by have := CL.out; omega
                rw [hcs]
                clear hcs hg10 L7 RB
                have hzm : z < ms.length := by rw [L8.out.ml]; exact ZM.out
                obtain ⟨c0, c1, c2, hsl, _, _, _, hbb⟩ := L8.out.at hzm
                obtain ⟨nz, hnz⟩ : ∃ t, ms[z] = t := ⟨_, rfl⟩
                rw [hnz] at c0 c1 c2 hsl hbb
                have SLZ := Lib.hid hsl
                have NB := Lib.hid hbb.1
                have x0 := L8.out.r3.cell 0 (by simp)
                simp only [List.getElem_cons_zero] at x0
                have hx := has_of_cell x0
                have hg0 := has_of_cell c0
                have zn : (z : Int) < (m : Int) := by have := ZM.out; omega
                clear hsl hbb hnz
                go_wp2_with fail
                refine (rOf_any nz.n nz.a nz.c [35, 99, 101, 108, 108, 115] w10 SLZ.out (by have := NB.out; omega)).mono ?_
                intro e w11 hgv
                obtain ⟨val1, hval1⟩ : ∃ v, val ++ cs = v := ⟨_, rfl⟩
                have V1 : Hid (val1.length = val.length + 4) := Lib.hid (by rw [← hval1, List.length_append, CL.out])
                have v1 : val1.length ≤ 1104 := by have := V1.out; omega
                (try rw [hval1])
                clear hval1 x0 hx hg0 c0 c1 c2 cl
                cases hz : valP nz.n.props [35, 99, 101, 108, 108, 115] with
                | none =>
                  rw [hz] at hgv
                  obtain ⟨hg11, rfl⟩ := hgv
                  have L9 := Lib.hid (L8.out.gr hg11)
                  clear hg11 hz
                  go_wp2_with fail
                  go_roundw
                  case rel => exact ⟨val1, n, rfl, by go_num, by have := VB3.out; omega, by have := VB3.out; have := VB.out; have := V1.out; omega, L9.out⟩
                  case measure => simp [intOf] <;> omega
                | some v =>
                  rw [hz] at hgv
                  obtain ⟨hg11, rfl⟩ := hgv
                  have L9 := Lib.hid (L8.out.gr hg11)
                  clear hg11 hz
                  by_cases h4 : v.length = 4
                  · obtain ⟨va, vb, vc, vd, hvl⟩ : ∃ a b c d, v = [a, b, c, d] := by
                      match v, h4 with
                      | [a, b, c, d], _ => exact ⟨a, b, c, d, rfl⟩
                    subst hvl
                    clear h4
                    have d256 : vd.toNat < 256 := vd.toNat_lt
                    go_wp2_with fail
                    obtain ⟨w12, rfl⟩ : ∃ wo, wo = wr := ⟨_, rfl⟩
                    go_loopw [8, 13] (fun v j wr => ∃ (val2 : St) (n2 : Nat), v = .string (bs val2) ∧ j = .int .i64 (n2 : Int) ∧ n2 ≤ vd.toNat ∧ val2.length ≤ val1.length + 4 * n2 ∧ LI P2 b len P3 g m c w wr ms) (fun _ j _ => vd.toNat - (intOf j).toNat)
                    case atStart => exact ⟨val1, 0, rfl, rfl, Nat.zero_le _, by omega, L9.out⟩
                    case round =>
                      clear L6 L8 L9 LL TP T6 SLZ NB
                      obtain ⟨val2, n2, rfl, rfl, hn2, hv2, hl⟩ := hrel
                      have LL2 := Lib.hid hl
                      have TP2 := Lib.hid (LL2.out.mv.tp H.out)
                      have V2 : Hid (val2.length ≤ val1.length + 4 * n2) := Lib.hid hv2
                      have v2 : val2.length ≤ 2200 := by omega
                      clear hl hv2
                      by_cases hlt2 : n2 < vd.toNat
                      · have kn2 : (n2 : Int) < (vd.toNat : Int) := by omega
                        have HLT2 := Lib.hid hlt2
                        clear hlt2
                        go_wp2_with fail
                        refine (nM_any wr b len 50 TP2.out (by omega) (by omega)).mono ?_
                        rintro e w13 ⟨r, rfl, ⟨r1, r2⟩, hm13⟩
                        obtain ⟨r, rfl⟩ := Int.eq_ofNat_of_zero_le r1
                        have L10 := Lib.hid (LL2.out.move hm13)
                        have R49 : Hid (r ≤ 49) := Lib.hid (by omega)
                        clear hm13 r1 r2
                        go_wp2_with fail
                        have RB := Lib.hid (Row.new w13 #[.int .i64 (r : Int)] 3)
                        obtain ⟨W14, hW14⟩ : ∃ W : World, Hid (W = w13.alloc (.cells #[.int .i64 (r : Int)] 3)) := ⟨_, Lib.hid rfl⟩
                        have g14 : Gr w13 W14 := by rw [hW14.out]; exact (Gr.refl _).alloc _
                        rw [← hW14.out] at RB ⊢
                        obtain ⟨PR, hPR⟩ : ∃ N : Nat, Hid (w13.heap.size = N) := ⟨_, Lib.hid rfl⟩
                        rw [hPR.out] at RB ⊢
                        have L11 := Lib.hid (L10.out.gr g14)
                        clear hW14 hPR g14
                        refine (growCells_any [r] (some ⟨PR, 0, none⟩) 1 W14 (sl_one RB.out (by have := R49.out; omega)) (by have := R49.out; simp; omega) (by simp) (by simp)).mono ?_
                        rintro e w15 ⟨rfl, hg15⟩
                        have L12 := Lib.hid (L11.out.gr hg15)
                        obtain ⟨cr, hcr⟩ : ∃ cs, cellsS [r] = cs := ⟨_, rfl⟩
                        have CR : Hid (cr.length = 4) := Lib.hid (by rw [← hcr, cellsS_length]; rfl)
                        have cl : cr.length ≤ 4 := by have := CR.out; omega
                        rw [hcr]
                        clear hcr hg15 RB
                        go_wp2_with fail
                        go_roundw
                        case rel => exact ⟨val2 ++ cr, n2 + 1, rfl, by go_num, by have := HLT2.out; omega, by have := V2.out; have := CR.out; rw [List.length_append]; omega, L12.out⟩
                        case measure => simp [intOf]; have := HLT2.out; omega
                      · have kn2 : ¬ (n2 : Int) < (vd.toNat : Int) := by omega
                        clear hlt2
                        go_wp2_with fail
                        go_roundw
                        case rel => exact ⟨val2, n, rfl, by go_num, by have := VB3.out; omega, by have := VB3.out; have := VB.out; have := V1.out; have := V2.out; omega, LL2.out⟩
                        case measure => simp [intOf] <;> omega
                  · have h4b : ((v.length : Int) == 4) = false := by rw [beq_eq_false_iff_ne]; omega
                    clear h4
                    go_wp2_with fail
                    go_roundw
                    case rel => exact ⟨val1, n, rfl, by go_num, by have := VB3.out; omega, by have := VB3.out; have := VB.out; have := V1.out; omega, L9.out⟩
                    case measure => simp [intOf] <;> omega
            · obtain rfl : n = 0 := by omega
              clear h0
              have hkm : k < ms.length := by rw [LL.out.ml]; exact HLT.out
              by_cases hval : val = []
              · subst hval
                go_upto_region 30 with (fail)
                clear x0 hx
                obtain ⟨_, _, c2, hsl, hfr, hfm, hsm, hbb⟩ := LL.out.at hkm
                refine wp_code_eq (c := Code.region 30 (regIn 30 Tryz.f12) true) (by kernel_rfl) (lk30 (wr := wr) (g := g) (k := k) (PX := P3) (n := m) (vc := c) LL.out.r3 HLT.out c2 hfr hsl hbb ?_)
                intro t134 t135 t136 t137 t138 t139 t140 t141 t142 t143 t144 t145 w6 hfin
                obtain ⟨m6, h2⟩ := hfin.li LL.out TP.out hkm (LL.out.vl.woM hkm _)
                have L6 := Lib.hid h2
                clear h2 hfin c2 hsl hfr hfm hsm hbb
                unfold lk30A
                go_wp2_with fail
                go_roundw
                case rel => exact ⟨k + 1, m6, by have := HLT.out; omega, by go_num, L6.out⟩
                case measure => simp [intOf]; have := HLT.out; omega
              · have hb1 : (val == []) = false := by rw [beq_eq_false_iff_ne]; exact hval
                have hb2 : (val != []) = true := by simp [bne, hb1]
                clear hval
                go_upto_region 29 with (fail)
                clear x0 hx
                obtain ⟨_, _, c2, hsl, hfr, hfm, hsm, hbb⟩ := LL.out.at hkm
                refine wp_code_eq (c := Code.region 29 (regIn 29 Tryz.f12) true) (by kernel_rfl) (lk29 (wr := wr) (g := g) (k := k) (PX := P3) (n := m) (vc := c) (val := val) LL.out.r3 HLT.out c2 hfr hsl hbb ?_)
                intro t121 t122 t123 t124 t125 t126 t127 t128 t129 t130 t131 t132 t133 w6 hfin
                obtain ⟨m6, h2⟩ := hfin.li LL.out TP.out hkm (LL.out.vl.putM hkm clocks_in (by have := VB.out; omega))
                have L6 := Lib.hid h2
                clear h2 hfin c2 hsl hfr hfm hsm hbb
                unfold lk29A
                go_wp2_with fail
                go_roundw
                case rel => exact ⟨k + 1, m6, by have := HLT.out; omega, by go_num, L6.out⟩
                case measure => simp [intOf]; have := HLT.out; omega
        · obtain rfl : m = k := by omega
          clear hlt hk
          have m9 := M9.out.1
          have z0 := LL.out.r2.cell 0 (by simp)
          have zf := LL.out.r2.free 0
          have hz := has_of_cell z0
          have PB2 := Lib.hid LL.out.bb
          go_wp2_with fail
          have RF := Lib.hid (LL.out.r2.set 0 (.slice (some ⟨g, 0, none⟩) m c))
          have TF := Lib.hid (LL.out.tr.box (o := 0) (u := .slice (some ⟨g, 0, none⟩) m c) LL.out.r2.ty (by decide) (LL.out.tr.ne_ty LL.out.r2.ty (by decide)))
          have GF : Hid (Mv b len w (wr.setCell ⟨P2, 0, none⟩ (.slice (some ⟨g, 0, none⟩) m c))) := Lib.hid (LL.out.mv.setc (by have := PB2.out; omega))
          obtain ⟨W3, hW3⟩ : ∃ W : World, Hid (W = wr.setCell ⟨P2, 0, none⟩ (.slice (some ⟨g, 0, none⟩) m c)) := ⟨_, Lib.hid rfl⟩
          rw [← hW3.out] at RF TF GF ⊢
          have e0 : W3.cell? ⟨P2, 0, none⟩ = some (.slice (some ⟨g, 0, none⟩) m c) := RF.out.cell 0 (by simp)
          clear hW3 x0 hx z0 zf hz
          refine bodyPost_ret (v := .agg #[.slice (some ⟨g, 0, none⟩) m c]) (by simp [results, Tryz.results12, e0, go_sem]) rfl ?_
          rw [HP0.out]
          exact ⟨_, ms, rfl, TF.out, LL.out.vl, by rw [LL.out.ml]; exact m9, GF.out⟩
theorem way_at {gs : List (List Int)} {t : Nat} : ∀ (l : List Nat) (a : Nat), WayP gs a l t → ∀ i (h : i < (a :: l).length), (((a :: l).getD (i + 1) t : Nat) : Int) ∈ gs.getD ((a :: l)[i]) []
  | [], a, hw, i, h => by
    have e : i = 0 := by simp at h; omega
    subst e
    exact hw
  | b :: l, a, hw, 0, h => hw.1
  | b :: l, a, hw, i + 1, h => way_at l b hw.2 i (by simpa using h)
theorem way_next {gs : List (List Int)} {t : Nat} {ns : List Nat} (hw : WayP gs t ns t) {i : Nat} (h : i < (t :: ns).length) (h2 : (i + 1) % (t :: ns).length < (t :: ns).length) : (((t :: ns)[(i + 1) % (t :: ns).length] : Nat) : Int) ∈ gs.getD ((t :: ns)[i]) [] := by
  have q := way_at ns t hw i h
  have e : (t :: ns).getD (i + 1) t = (t :: ns)[(i + 1) % (t :: ns).length] := by
    by_cases hl : i + 1 < (t :: ns).length
    · rw [List.getD_eq_getElem?_getD, List.getElem?_eq_getElem hl]
      simp only [Option.getD_some, Nat.mod_eq_of_lt hl]
    · have e1 : i + 1 = (t :: ns).length := by omega
      rw [List.getD_eq_getElem?_getD, List.getElem?_eq_none (by omega)]
      have e2 : (i + 1) % (t :: ns).length = 0 := by rw [e1]; exact Nat.mod_self _
      simp only [Option.getD_none, e2, List.getElem_cons_zero]
  rw [e] at q
  exact q
theorem lk_at {w : World} {base n c : Nat} {a : Option Addr} {lts : List LT} (h : w.ownsRow base 40 5 (.slice a n c) lts.length (encLks lts)) {j : Nat} (hj : j < lts.length) :
    ∃ g, a = some ⟨g, 0, none⟩ ∧ n = lts.length ∧ w.cell? ⟨g, j * 5, none⟩ = some (.int .i64 lts[j].l.node) ∧ w.cell? ⟨g, j * 5 + 1, none⟩ = some (.int .i64 lts[j].l.prov) ∧ w.cell? ⟨g, j * 5 + 2, none⟩ = some (.string (bs lts[j].l.prop)) ∧ w.cell? ⟨g, j * 5 + 3, none⟩ = some (.int .i64 lts[j].l.idx) ∧ w.cell? ⟨g, j * 5 + 4, none⟩ = some (.slice lts[j].a lts[j].l.args.length lts[j].c) := by
  obtain ⟨g, cap, e1, _, _, hc⟩ := owns_cell h (by omega)
  cases e1
  have hf := fun i (hi : i < 5) => flat_at encLk 5 (fun _ => rfl) lts j i hj hi
  have h2 : ∀ i, i < 5 → w.cell? ⟨g, j * 5 + i, none⟩ = (encLk lts[j])[i]? := fun i hi => by rw [hc (j * 5 + i) (by omega)]; exact hf i hi
  exact ⟨g, rfl, rfl, by have := h2 0 (by omega); exact this, by have := h2 1 (by omega); exact this, by have := h2 2 (by omega); exact this, by have := h2 3 (by omega); exact this, by have := h2 4 (by omega); exact this⟩
theorem nm_at {w : World} {base n c : Nat} {a : Option Addr} {zs : List Int} (h : w.ownsRow base 3 1 (.slice a n c) zs.length (nums zs)) {j : Nat} (hj : j < zs.length) : ∃ g, a = some ⟨g, 0, none⟩ ∧ w.cell? ⟨g, j, none⟩ = some (.int .i64 zs[j]) := by
  obtain ⟨g, cap, e1, _, _, hc⟩ := owns_cell h (by omega)
  cases e1
  refine ⟨g, rfl, ?_⟩
  rw [hc j (by omega)]
  simp [nums, hj]
theorem graph_of {ts : Tr} {pn cn : St} {ls : List Lnk} (h : allT ts pn cn ts.length = .ok ls) : graphT ts pn cn = .ok ((rawG ts.length ls).map normG) ∧ ((rawG ts.length ls).map normG).length = ts.length ∧ EdgB ((rawG ts.length ls).map normG) ∧
    ∀ (i : Nat) (y : Int), y ∈ ((rawG ts.length ls).map normG).getD i [] ↔ ∃ l ∈ ls, l.node = i ∧ l.prov = y := by
  have hm := allT_mem _ _ h
  obtain ⟨g1, g2⟩ := graph_mem (n := ts.length) (ls := ls) (fun l hl => (hm l hl).1)
  refine ⟨by unfold graphT; rw [h], g1, fun i y hy => ?_, g2⟩
  obtain ⟨l, hl, _, e⟩ := (g2 i y).1 hy
  obtain ⟨k, hk, hk2⟩ := (hm l hl).2
  exact ⟨k, by rw [← e, hk], by rw [g1]; exact hk2⟩
theorem circF_len2 (gs : List (List Int)) (d : List Nat) (first : Nat) : ∀ (f at' : Nat) (out : List Int), (circF gs d first f at' out).length ≤ out.length + f
  | 0, at', out => by rw [circF]; omega
  | f + 1, at', out => by
    rw [circF]
    split
    · split
      · rename_i y _
        have := circF_len2 gs d first f y.toNat (out ++ [y])
        rw [List.length_append] at this
        simp only [List.length_cons, List.length_nil] at this
        omega
      · omega
    · omega
theorem circ_len (gs : List (List Int)) : (bestT gs).length ≤ gs.length + 1 := by
  rcases (best_fold (gs := gs) (List.range gs.length) []).2 with q | ⟨i, _, q, _⟩
  · have e : bestT gs = [] := q
    rw [e]; simp
  · have e : bestT gs = circT gs i := q
    rw [e]
    unfold circT
    split
    · simp
    · have := circF_len2 gs (distT gs i) i gs.length i [(i : Int)]
      simp only [List.length_cons, List.length_nil] at this
      omega
theorem order_ways {ts : Tr} {pn cn : St} {ls : List Lnk} (h : allT ts pn cn ts.length = .ok ls) :
    (circleT ts pn cn = .ok [] ∧ ∃ o, orderT ts pn cn = .ok o ∧ o.length = ts.length ∧ o.Nodup ∧ (∀ z ∈ o, ∃ j : Nat, z = j ∧ j < ts.length) ∧ ∀ x ∈ ls, ∃ (i j : Nat) (hi : i < o.length) (hj : j < o.length), j < i ∧ o[i] = x.node ∧ o[j] = x.prov) ∨
    (∃ co : List Int, orderT ts pn cn = .error 10 ∧ circleT ts pn cn = .ok co ∧ 0 < co.length ∧ co.length ≤ ts.length + 1 ∧ ∀ i (hi : i < co.length) (h2 : (i + 1) % co.length < co.length) (h3 : 0 < co.length), (∃ x ∈ ls, x.node = co[i] ∧ x.prov = co[(i + 1) % co.length]) ∧ co[0] ≤ co[i]) := by
  obtain ⟨h1, h2, h3, h4⟩ := graph_of h
  obtain ⟨gs, hgs⟩ : ∃ gs, (rawG ts.length ls).map normG = gs := ⟨_, rfl⟩
  rw [hgs] at h1 h2 h3 h4
  rcases order_circ h3 with ⟨q1, o, q2, q3⟩ | ⟨tt, ns, q1, q2, q3, q4, q5⟩
  · left
    refine ⟨by unfold circleT; rw [h1, ← q1], o, by unfold orderT; rw [h1]; exact q2, by rw [q3.len, h2], q3.nd, fun z hz => ?_, fun x hx => ?_⟩
    · obtain ⟨j, e, hj⟩ := q3.nat z hz
      exact ⟨j, e, by rw [← h2]; exact hj⟩
    · obtain ⟨⟨n, en, hn⟩, ⟨p, ep, hp⟩⟩ := allT_mem _ _ h x hx
      obtain ⟨i, hi, ei⟩ := List.getElem_of_mem (q3.all n (by rw [h2]; exact hn))
      obtain ⟨j, hj, j1, j2⟩ := q3.aft i hi x.prov (by rw [ei, Int.toNat_natCast]; exact (h4 n x.prov).2 ⟨x, hx, en, rfl⟩)
      exact ⟨i, j, hi, hj, j1, by rw [ei, en], j2⟩
  · right
    have hlen : ((tt :: ns).map (fun n : Nat => (n : Int))).length = (tt :: ns).length := List.length_map _
    have hnd : (tt :: ns).length ≤ ts.length + 1 := by
      have := circ_len gs
      rw [q2] at this
      rw [hlen] at this
      rw [← h2]
      exact this
    refine ⟨(tt :: ns).map (fun n : Nat => (n : Int)), by unfold orderT; rw [h1]; exact q1, by unfold circleT; rw [h1, ← q2], by simp, by rw [hlen]; exact hnd, fun i hi h2' h3' => ?_⟩
    have hi2 : i < (tt :: ns).length := by rw [hlen] at hi; exact hi
    have h22 : (i + 1) % (tt :: ns).length < (tt :: ns).length := by rw [hlen] at h2'; exact h2'
    constructor
    · have q := way_next q5 hi2 h22
      obtain ⟨x, hx, e1, e2⟩ := (h4 _ _).1 q
      refine ⟨x, hx, by rw [e1, List.getElem_map], ?_⟩
      rw [e2, List.getElem_map]
      congr 1
      congr 1
      simp only [hlen]
    · rw [List.getElem_map, List.getElem_map]
      simp only [List.getElem_cons_zero]
      cases i with
      | zero => simp
      | succ i =>
        simp only [List.getElem_cons_succ]
        have hin : i < ns.length := by simpa using hi2
        have := (q4 (ns[i]'hin) (List.getElem_mem hin)).1
        omega
end Go.Proofs.YtdjhnfopdlgliaaGreat
