/- Lemmas and contracts for the proof of LinkConsumers (several texts in one, printed by wip/tools/pack.py): LpC LpD LoD LqG LrA LqI LqJ LqH LoE. -/
import Derived.Test.YtdjhnfopdlgliaaGreatLc1pr
import Derived.WalkMore
import Derived.Deep.LoopGhost
import Derived.Test.YtdjhnfopdlgliaaGreatLc1pq
set_option maxRecDepth 100000
set_option maxHeartbeats 16000000
set_option linter.unusedVariables false
set_option linter.unusedSimpArgs false
namespace Go.Proofs.YtdjhnfopdlgliaaGreat
open Go.RowKit
open Classical
theorem VL.smN {ts : Tr} (h : VL ts) {k : Nat} (hk : k < ts.length) : SmN (nd ts k) := by
  obtain ⟨q1, q2, q3⟩ := h.sm hk
  obtain ⟨q4, q5⟩ := h.asc hk
  exact ⟨q1, q2, q3, by omega, fun p hp => ⟨by have := q5 p hp; omega, by have := h.vals hk p hp; omega⟩⟩
structure LI (base b len P3 g m c : Nat) (w wr : World) (ms : List NM) : Prop where
  tr : TrAt base wr (.slice (some ⟨g, 0, none⟩) m c) ms
  vl : VL (ms.map NM.n)
  ml : ms.length = m
  r3 : Row wr P3 31 [.slice (some ⟨g, 0, none⟩) m c]
  r2 : Row wr base 31 [.slice none 0 0]
  mv : Mv b len w wr
  bb : b < base ∧ base < P3 ∧ base = w.heap.size
theorem LI.move {base b len P3 g m c : Nat} {w wr w' : World} {ms : List NM} (h : LI base b len P3 g m c w wr ms) (hm : Mv b len wr w') : LI base b len P3 g m c w w' ms := by
  obtain ⟨h1, h2, h3⟩ := h.bb
  exact ⟨h.tr.mv h1 hm, h.vl, h.ml, hm.row h.r3 (by omega), hm.row h.r2 (by omega), h.mv.trans (by omega) hm, h.bb⟩
theorem LI.gr {base b len P3 g m c : Nat} {w wr w' : World} {ms : List NM} (h : LI base b len P3 g m c w wr ms) (hg : Gr wr w') : LI base b len P3 g m c w w' ms :=
  ⟨h.tr.gr hg, h.vl, h.ml, h.r3.gr hg, h.r2.gr hg, h.mv.gr hg, h.bb⟩
theorem LI.at {base b len P3 g m c : Nat} {w wr : World} {ms : List NM} (h : LI base b len P3 g m c w wr ms) {k : Nat} (hk : k < ms.length) :
    wr.cell? ⟨g, k * 3, none⟩ = some (.int .i64 ms[k].n.parent) ∧ wr.cell? ⟨g, k * 3 + 1, none⟩ = some (.string (bs ms[k].n.name)) ∧
    wr.cell? ⟨g, k * 3 + 2, none⟩ = some (.slice ms[k].a ms[k].n.props.length ms[k].c) ∧ SlOf 2 RPrp wr ms[k].a ms[k].n.props ∧ (∀ W, Gr wr W → W.frozen? ⟨g, k * 3 + 2, none⟩ = false) ∧ (∀ W, Mv b len wr W → W.frozen? ⟨g, k * 3 + 2, none⟩ = false) ∧ (∀ W, Mv b len wr W → SlOf 2 RPrp W ms[k].a ms[k].n.props) ∧
    (ms[k].n.props.length ≤ 1000 ∧ (∀ q ∈ ms[k].n.props, q.name.length ≤ 1000 ∧ q.val.length ≤ 100000) ∧ ms[k].n.props.length ≤ ms[k].c) := by
  have hk2 : k < (ms.map NM.n).length := by rw [List.length_map]; exact hk
  obtain ⟨g', cap, e1, _, _, hc⟩ := owns_cell h.tr.own (by omega)
  cases e1
  have hf := fun j (hj : j < 3) => flat_at NM.enc 3 (fun _ => rfl) ms k j hk hj
  have h2 : ∀ j, j < 3 → wr.cell? ⟨g, k * 3 + j, none⟩ = (NM.enc ms[k])[j]? := fun j hj => by rw [hc (k * 3 + j) (by omega)]; exact hf j hj
  have hn := h.tr.nds ms[k] (List.getElem_mem hk)
  have hsm := hn.sm
  have sl : ∀ W, Mv b len wr W → SlOf 2 RPrp W ms[k].a ms[k].n.props := fun W hm => prps_sl ((h.move hm).tr.nds ms[k] (List.getElem_mem hk)).own hsm.prp
  refine ⟨by have := h2 0 (by omega); exact this, by have := h2 1 (by omega); exact this, by have := h2 2 (by omega); exact this, prps_sl hn.own hsm.prp, fun W hg => ?_, fun W hm => ?_, sl, hsm.len, hsm.prp, owns_cap2 hn.own⟩
  · have q := (h.tr.gr hg).own
    rw [h.ml] at q
    exact q.frozenAt _
  · have q := (h.move hm).tr.own
    rw [h.ml] at q
    exact q.frozenAt _
theorem LI.gne {base b len P3 g m c : Nat} {w wr : World} {ms : List NM} (h : LI base b len P3 g m c w wr ms) : g ≠ P3 ∧ g ≠ base ∧ base ≤ g ∧ g ≠ b := by
  have hb := owns_block h.tr.own g rfl
  have h1 := h.bb
  refine ⟨?_, ?_, hb.1, by omega⟩
  · rcases h.tr.ne_ty h.r3.ty (by decide) with q | q
    · cases q
    · exact fun e => q (by rw [e]; rfl)
  · rcases h.tr.ne_ty h.r2.ty (by decide) with q | q
    · cases q
    · exact fun e => q (by rw [e]; rfl)
theorem LI.put {base b len P3 g m c : Nat} {w wr w1 : World} {ms : List NM} (h : LI base b len P3 g m c w wr ms) {k : Nat} (hk : k < ms.length) {x : Option Addr} {c2 : Nat} {ps : List Prp} (hm : Mv b len wr w1)
    (ho : w1.ownsRow wr.heap.size 89 2 (.slice x ps.length c2) ps.length (ps.flatMap encP)) (hv : VL (setN (ms.map NM.n) k ps)) :
    LI base b len P3 g m c w (w1.setCell ⟨g, k * 3 + 2, none⟩ (.slice x ps.length c2)) (ms.set k ⟨{ (ms[k]'hk).n with props := ps }, x, c2⟩) := by
  obtain ⟨n1, n2, n3, n4⟩ := h.gne
  have bb := h.bb
  have h1 := h.move hm
  have hk2 : k < (ms.map NM.n).length := by rw [List.length_map]; exact hk
  have e : nd (ms.map NM.n) k = (ms[k]'hk).n := by rw [nd_get hk2, List.getElem_map]
  have sm : SmN { (ms[k]'hk).n with props := ps } := by
    have q := hv.smN (k := k) (by unfold setN; rw [List.length_set]; exact hk2)
    rw [nd_set_same hk2, e] at q
    exact q
  refine ⟨h1.tr.put hk (owns_low ho (by have := h.mv.size; omega)) sm, by rw [map_putN]; exact hv, by rw [List.length_set]; exact h.ml, h1.r3.oth (b := g) (o := k * 3 + 2) n1, h1.r2.oth (b := g) (o := k * 3 + 2) n2, h1.mv.setc (by omega), h.bb⟩
def GivesLT (base b len : Nat) (w : World) (e : Ending) (w' : World) : Prop := ∃ (v : Value) (ms : List NM), e = .returned (.agg #[v]) ∧ TrAt base w' v ms ∧ VL (ms.map NM.n) ∧ ms.length ≤ 9 ∧ Mv b len w w'
theorem cells_in : ([35, 99, 101, 108, 108, 115] : St) ∈ namesV := by
  have q : namesV.contains ([35, 99, 101, 108, 108, 115] : St) = true := by kernel_rfl
  simpa using q
theorem clocks_in : ([99, 108, 111, 99, 107, 115] : St) ∈ namesV := by
  have q : namesV.contains ([99, 108, 111, 99, 107, 115] : St) = true := by kernel_rfl
  simpa using q
theorem handle_in : ([112, 104, 97, 110, 100, 108, 101] : St) ∈ namesV := by
  have q : namesV.contains ([112, 104, 97, 110, 100, 108, 101] : St) = true := by kernel_rfl
  simpa using q
theorem nd_ms {ms : List NM} {k : Nat} (hk : k < ms.length) : nd (ms.map NM.n) k = (ms[k]'hk).n := by rw [nd_get (by rw [List.length_map]; exact hk), List.getElem_map]
theorem VL.putM {ms : List NM} (h : VL (ms.map NM.n)) {k : Nat} (hk : k < ms.length) {nm val : St} (hn : nm ∈ namesV) (hv : val.length ≤ 4096) : VL (setN (ms.map NM.n) k (putP (ms[k]'hk).n.props ⟨nm, val⟩)) := by
  have q := h.put (k := k) (by rw [List.length_map]; exact hk) hn hv
  rw [nd_ms hk] at q
  exact q
theorem VL.woM {ms : List NM} (h : VL (ms.map NM.n)) {k : Nat} (hk : k < ms.length) (s : St) : VL (setN (ms.map NM.n) k (woP (ms[k]'hk).n.props s)) := by
  have q := h.fil (k := k) (by rw [List.length_map]; exact hk) (fun x => x != s)
  rw [nd_ms hk] at q
  exact q
theorem FinC.li {base b len P3 g m c k : Nat} {w wr w' : World} {ms : List NM} (h : LI base b len P3 g m c w wr ms) (hk : k < ms.length) (hf : FinC wr b len g k (ms[k]'hk).n.props w') : ∃ m2, LI base b len P3 g m c w w' m2 := by
  obtain ⟨w1, n, x, c2, rfl, h9, hm, ho⟩ := hf
  exact ⟨_, h.put hk hm ho (h.vl.putM hk cells_in (by rw [cellsS_length]; simp))⟩
theorem Fin7.li {base b len P3 g m c k : Nat} {w wr w' : World} {ms : List NM} {ps : List Prp} (h : LI base b len P3 g m c w wr ms) (ht : Tp wr b len) (hk : k < ms.length) (hf : Fin7 wr g k ps w') (hv : VL (setN (ms.map NM.n) k ps)) : ∃ m2, LI base b len P3 g m c w w' m2 := by
  obtain ⟨w1, x, c2, rfl, hg, ho⟩ := hf
  exact ⟨_, h.put hk (Mv.of_gr ht hg) ho hv⟩
theorem links_any (b len : Nat) (w : World) (ht : Tp w b len) :
    Calls Tryz.prog 12 #[.pointer (some ⟨b, 0, none⟩)] w (GivesLT w.heap.size b len w) := by
  have H := Lib.hid ht
  have hb := ht.has
  clear ht
  obtain ⟨P0, hP0⟩ : ∃ P : Ending → World → Prop, P = GivesLT w.heap.size b len w := ⟨_, rfl⟩
  rw [← hP0]
  have HP0 := Lib.hid hP0
  clear hP0
  go_enter Tryz.func12, Tryz.ntmps12
  go_upto_region 1 with (fail)
  have R2 := Lib.hid (Row.new w #[.slice none 0 0] 31)
  obtain ⟨W1, hW1⟩ : ∃ W : World, Hid (W = w.alloc (.cells #[.slice none 0 0] 31)) := ⟨_, Lib.hid rfl⟩
  have G1 : Hid (Gr w W1) := Lib.hid (by rw [hW1.out]; exact (Gr.refl _).alloc _)
  have Z1 : Hid (W1.heap.size = w.heap.size + 1) := Lib.hid (by rw [hW1.out]; simp)
  rw [← hW1.out] at R2 ⊢
  obtain ⟨P2, hP2⟩ : ∃ N : Nat, Hid (w.heap.size = N) := ⟨_, Lib.hid rfl⟩
  have HP2 := Lib.hid hP2.out
  rw [hP2.out] at R2 HP0 hb Z1 ⊢
  clear hW1 hP2
  have M1 := Lib.hid (Mv.of_gr H.out G1.out)
  have T1 := Lib.hid (H.out.gr G1.out)
  have hbw : b < w.heap.size := H.out.has
  go_wp2_with fail
  refine (tree_any 8 b len W1 T1.out (by omega)).mono ?_
  rintro e w2 ⟨v, ms, rfl, htr, hvb, hml, hmv⟩
  have hpos : 0 < ms.length := by have := hvb.v.pos; rwa [List.length_map] at this
  obtain ⟨g, c, e1, _, hg, _⟩ := owns_cell htr.own hpos
  subst e1
  have S2 := Lib.hid (hmv.row R2.out (by omega))
  have M2 := Lib.hid (M1.out.trans hbw hmv)
  have TR2 := Lib.hid (htr.low (base' := P2) (by have := Z1.out; omega))
  have VL2 := Lib.hid (VL.of hvb.v)
  have M9 : Hid (ms.length ≤ 9 ∧ 0 < ms.length) := Lib.hid ⟨by omega, hpos⟩
  clear htr hvb hml hmv hg R2 M1 hpos
  obtain ⟨m, hm⟩ : ∃ N : Nat, Hid (ms.length = N) := ⟨_, Lib.hid rfl⟩
  rw [hm.out] at TR2 M9 ⊢
  go_upto_region 2 with (fail)
  have R3 := Lib.hid (Row.new w2 #[.slice (some ⟨g, 0, none⟩) m c] 31)
  obtain ⟨W3, hW3⟩ : ∃ W : World, Hid (W = w2.alloc (.cells #[.slice (some ⟨g, 0, none⟩) m c] 31)) := ⟨_, Lib.hid rfl⟩
  have g3 : Gr w2 W3 := by rw [hW3.out]; exact (Gr.refl _).alloc _
  rw [← hW3.out] at R3 ⊢
  obtain ⟨P3, hP3⟩ : ∃ N : Nat, Hid (w2.heap.size = N) := ⟨_, Lib.hid rfl⟩
  have PB : Hid (P2 < P3) := Lib.hid (by have := M2.out.size; have := S2.out.has; have := hP3.out; unfold Has at *; omega)
  rw [hP3.out] at R3 ⊢
  have L3 : Hid (LI P2 b len P3 g m c w W3 ms) := Lib.hid ⟨TR2.out.gr g3, VL2.out, hm.out, R3.out, S2.out.gr g3, M2.out.gr g3, hb, PB.out, HP2.out.symm⟩
  have T3 := Lib.hid (L3.out.mv.tp H.out)
  clear hW3 hP3 g3 R3 S2 M2 TR2 VL2 hm
  go_wp2_with fail
  refine (nM_any W3 b len 4 T3.out (by omega) (by omega)).mono ?_
  rintro e w4 ⟨c4, rfl, ⟨_, _⟩, hm4⟩
  have L4 := Lib.hid (L3.out.move hm4)
  clear hm4 L3 T3
  have x0 := L4.out.r3.cell 0 (by simp)
  simp only [List.getElem_cons_zero] at x0
  have hx := has_of_cell x0
  go_wp2_with fail
  clear x0 hx
  obtain ⟨cir, hcir⟩ : ∃ B, (c4 == 0) = B := ⟨_, rfl⟩
  rw [hcir]
  clear hcir
  go_loopw [22] (fun i wr => ∃ (k : Nat) (ms : List NM), k ≤ m ∧ i = .int .i64 k ∧ LI P2 b len P3 g m c w wr ms) (fun i _ => m - (intOf i).toNat)
  case atStart => exact ⟨0, ms, Nat.zero_le _, rfl, L4.out⟩
  case round =>
    obtain ⟨k, ms, hk, rfl, hl⟩ := hrel
    have LL := Lib.hid hl
    clear hl
    have TP := Lib.hid (LL.out.mv.tp H.out)
    have m9 := M9.out
    have x0 := LL.out.r3.cell 0 (by simp)
    simp only [List.getElem_cons_zero] at x0
    have hx := has_of_cell x0
    by_cases hlt : k < m
    · have hkm : k < ms.length := by rw [LL.out.ml]; exact hlt
      have kn : (k : Int) < (m : Int) := by omega
      have HLT := Lib.hid hlt
      clear hlt
      go_wp2_with fail
      refine (nM_any wr b len 8 TP.out (by omega) (by omega)).mono ?_
      rintro e w5 ⟨x, rfl, ⟨x1, x2⟩, hm5⟩
      have L5 := Lib.hid (LL.out.move hm5)
      have T5 := Lib.hid (L5.out.mv.tp H.out)
      clear hm5 x0 hx
      by_cases hx1 : 0 < x
      · obtain ⟨_, _, c2, hsl, hfr, hfm, hsm, hbb⟩ := L5.out.at hkm
        go_upto_region 8 with (fail)
        refine wp_code_eq (c := Code.region 8 (regIn 8 Tryz.f12) true) (by kernel_rfl) (lk8 (wr := w5) (g := g) (k := k) (by omega) c2 hfr hsl hbb ?_)
        intro t32 t33 t34 t35 t36 t37 t38 t39 t40 t41 t42 t43 w6 hfin
        obtain ⟨m6, h2⟩ := hfin.li L5.out T5.out hkm (L5.out.vl.putM hkm handle_in (by rw [cellsS_length]; simp))
        have L6 := Lib.hid h2
        have T6 := Lib.hid (L6.out.mv.tp H.out)
        clear h2 hfin c2 hsl hfr hfm hsm hbb
        unfold lk8A
        go_wp2_with fail
        refine (nM_any w6 b len 3 T6.out (by omega) (by omega)).mono ?_
        rintro e w7 ⟨y, rfl, ⟨y1, y2⟩, hm7⟩
        have L7 := Lib.hid (L6.out.move hm7)
        have T7 := Lib.hid (L7.out.mv.tp H.out)
        clear hm7
        by_cases hy : y = 0
        · subst hy
          have hkm7 : k < m6.length := by rw [L7.out.ml]; exact HLT.out
          obtain ⟨_, _, c2, hsl, hfr, hfm, hsm, hbb⟩ := L7.out.at hkm7
          go_upto_region 10 with (fail)
          refine wp_code_eq (c := Code.region 10 (regIn 10 Tryz.f12) true) (by kernel_rfl) (lk10 (wr := w7) (b := b) (len := len) (g := g) (k := k) T7.out L7.out.gne.2.2.2 c2 hfm hsm hbb ?_)
          intro t47 t48 t49 t50 t51 t52 t53 t54 t55 t56 t57 t58 t59 wx hfin
          obtain ⟨m2, h2⟩ := hfin.li L7.out hkm7
          have L8 := Lib.hid h2
          clear h2 hfin c2 hsl hfr hfm hsm hbb
          unfold lk10A
          go_wp2_with fail
          go_roundw
          case rel => exact ⟨k + 1, m2, by have := HLT.out; omega, by go_num, L8.out⟩
          case measure => simp [intOf]; have := HLT.out; omega
        · have hyb : (y == 0) = false := by rw [beq_eq_false_iff_ne]; exact hy
          clear hy
          go_wp2_with fail
          go_roundw
          case rel => exact ⟨k + 1, m6, by have := HLT.out; omega, by go_num, L7.out⟩
          case measure => simp [intOf]; have := HLT.out; omega
      · have hx2 : x = 0 := by omega
        subst hx2
        clear hx1 x1 x2
        go_wp2_with fail
        refine (nM_any w5 b len 3 T5.out (by omega) (by omega)).mono ?_
        rintro e w7 ⟨y, rfl, ⟨y1, y2⟩, hm7⟩
        have L7 := Lib.hid (L5.out.move hm7)
        have T7 := Lib.hid (L7.out.mv.tp H.out)
        clear hm7
        by_cases hy : y = 0
        · subst hy
          have hkm7 : k < ms.length := by rw [L7.out.ml]; exact HLT.out
          obtain ⟨_, _, c2, hsl, hfr, hfm, hsm, hbb⟩ := L7.out.at hkm7
          go_upto_region 10 with (fail)
          refine wp_code_eq (c := Code.region 10 (regIn 10 Tryz.f12) true) (by kernel_rfl) (lk10 (wr := w7) (b := b) (len := len) (g := g) (k := k) T7.out L7.out.gne.2.2.2 c2 hfm hsm hbb ?_)
          intro t47 t48 t49 t50 t51 t52 t53 t54 t55 t56 t57 t58 t59 wx hfin
          obtain ⟨m2, h2⟩ := hfin.li L7.out hkm7
          have L8 := Lib.hid h2
          clear h2 hfin c2 hsl hfr hfm hsm hbb
          unfold lk10A
          go_wp2_with fail
          go_roundw
          case rel => exact ⟨k + 1, m2, by have := HLT.out; omega, by go_num, L8.out⟩
          case measure => simp [intOf]; have := HLT.out; omega
        · have hyb : (y == 0) = false := by rw [beq_eq_false_iff_ne]; exact hy
          clear hy
          go_wp2_with fail
          go_roundw
          case rel => exact ⟨k + 1, ms, by have := HLT.out; omega, by go_num, L7.out⟩
          case measure => simp [intOf]; have := HLT.out; omega
    · obtain rfl : m = k := by omega
      clear hlt hk
      go_wp2_with fail
      clear x0 hx
      obtain ⟨w8, rfl⟩ : ∃ wo, wo = wr := ⟨_, rfl⟩
      go_loopw [64] (fun i wr => ∃ (k : Nat) (ms : List NM), k ≤ m ∧ i = .int .i64 k ∧ LI P2 b len P3 g m c w wr ms) (fun i _ => m - (intOf i).toNat)
      case atStart => exact ⟨0, ms, Nat.zero_le _, rfl, LL.out⟩
      case round =>
        clear LL TP
        obtain ⟨k, ms, hk, rfl, hl⟩ := hrel
        have LL := Lib.hid hl
        clear hl
        have TP := Lib.hid (LL.out.mv.tp H.out)
        have x0 := LL.out.r3.cell 0 (by simp)
        simp only [List.getElem_cons_zero] at x0
        have hx := has_of_cell x0
        by_cases hlt : k < m
        · have kn : (k : Int) < (m : Int) := by omega
          have HLT := Lib.hid hlt
          clear hlt hk
          go_wp2_with fail
          refine (nM_any wr b len 3 TP.out (by omega) (by omega)).mono ?_
          rintro e w5 ⟨y, rfl, ⟨y1, y2⟩, hm5⟩
          obtain ⟨y, rfl⟩ := Int.eq_ofNat_of_zero_le y1
          have L5 := Lib.hid (LL.out.move hm5)
          have Y2 : Hid (y ≤ 2) := Lib.hid (by omega)
          clear hm5 x0 hx y1 y2
          go_wp2_with fail
          obtain ⟨w9, rfl⟩ : ∃ wo, wo = wr := ⟨_, rfl⟩
          go_loopw [8, 9] (fun v j wr => ∃ (val : St) (n : Nat), v = .string (bs val) ∧ j = .int .i64 (n : Int) ∧ n ≤ 2 ∧ val.length + n * 1100 ≤ 2200 ∧ LI P2 b len P3 g m c w wr ms) (fun _ j _ => (intOf j).toNat)
          case atStart => exact ⟨[], y, rfl, rfl, Y2.out, by have := Y2.out; simp; omega, L5.out⟩
          case round =>
            clear L5 LL TP
            obtain ⟨val, n, rfl, rfl, hn, hv, hl⟩ := hrel
            have LL := Lib.hid hl
            clear hl
            have TP := Lib.hid (LL.out.mv.tp H.out)
            have VB : Hid (val.length + n * 1100 ≤ 2200) := Lib.hid hv
            have vb2 : val.length ≤ 2200 := by omega
            have x0 := LL.out.r3.cell 0 (by simp)
            simp only [List.getElem_cons_zero] at x0
            have hx := has_of_cell x0
            clear hv
            by_cases h0 : 0 < n
            · obtain ⟨n, rfl⟩ : ∃ q, n = q + 1 := ⟨n - 1, by omega⟩
              have VB3 : Hid (val.length + 1100 ≤ 2200 ∧ n ≤ 1) := Lib.hid (by have := VB.out; omega)
              have vb3 : val.length ≤ 1100 := by have := VB3.out; omega
              clear h0
              have m9 := M9.out
              go_wp2_with fail
              refine (nM_any wr b len (m : Int) TP.out (by omega) (by omega)).mono ?_
              rintro e w6 ⟨z, rfl, ⟨z1, z2⟩, hm6⟩
              obtain ⟨z, rfl⟩ := Int.eq_ofNat_of_zero_le z1
              have L6 := Lib.hid (LL.out.move hm6)
              have ZM : Hid (z < m) := Lib.hid (by omega)
              clear hm6 x0 hx z1 z2
              cases cir with
              | false =>
                by_cases hzk : k ≤ z
                · have zb : (k : Int) ≤ (z : Int) := by omega
                  have zb2 : decide (k ≤ z) = true := by simpa using hzk
                  go_wp2_with fail
                  go_roundw
                  case rel => exact ⟨val, n, rfl, by go_num, by have := VB3.out; omega, by have := VB3.out; omega, L6.out⟩
                  case measure => simp [intOf] <;> omega
                · have zb2 : decide (k ≤ z) = false := by rw [decide_eq_false_iff_not]; omega
                  clear hzk
                  have T6 := Lib.hid (L6.out.mv.tp H.out)
                  have z9 : z ≤ 9 := by have := ZM.out; omega
                  go_wp2_with fail
                  obtain ⟨q, hq⟩ : ∃ q : Nat, Hid (10 + z = q) := ⟨_, Lib.hid rfl⟩
                  rw [show (10 : Int) + (z : Int) = (q : Int) by have := hq.out; omega]
                  have QL : Hid (q ≤ 19) := Lib.hid (by have := hq.out; omega)
                  have RB := Lib.hid (Row.new w6 #[.int .i64 (q : Int)] 3)
                  obtain ⟨W7, hW7⟩ : ∃ W : World, Hid (W = w6.alloc (.cells #[.int .i64 (q : Int)] 3)) := ⟨_, Lib.hid rfl⟩
                  have g7 : Gr w6 W7 := by rw [hW7.out]; exact (Gr.refl _).alloc _
                  rw [← hW7.out] at RB ⊢
                  obtain ⟨PQ, hPQ⟩ : ∃ N : Nat, Hid (w6.heap.size = N) := ⟨_, Lib.hid rfl⟩
                  rw [hPQ.out] at RB ⊢
                  have L7 := Lib.hid (L6.out.gr g7)
                  clear hW7 hPQ g7 hq z9
                  refine (growCells_any [q] (some ⟨PQ, 0, none⟩) 1 W7 (sl_one RB.out (by have := QL.out; omega)) (by have := QL.out; simp; omega) (by simp) (by simp)).mono ?_
                  rintro e w10 ⟨rfl, hg10⟩
                  have L8 := Lib.hid (L7.out.gr hg10)
                  obtain ⟨cs, hcs⟩ : ∃ cs, cellsS [q] = cs := ⟨_, rfl⟩
                  have CL : Hid (cs.length = 4) := Lib.hid (by rw [← hcs, cellsS_length]; rfl)
                  have cl : cs.length ≤ 4 := by have := CL.out; omega
                  rw [hcs]
                  clear hcs hg10 L7 RB
                  have hzm : z < ms.length := by rw [L8.out.ml]; exact ZM.out
                  obtain ⟨c0, c1, c2, hsl, _, _, _, hbb⟩ := L8.out.at hzm
                  obtain ⟨nz, hnz⟩ : ∃ t, ms[z] = t := ⟨_, rfl⟩
                  rw [hnz] at c0 c1 c2 hsl hbb
                  have SLZ := Lib.hid hsl
                  have NB := Lib.hid hbb.1
                  have x0 := L8.out.r3.cell 0 (by simp)
                  simp only [List.getElem_cons_zero] at x0
                  have hx := has_of_cell x0
                  have hg0 := has_of_cell c0
                  have zn : (z : Int) < (m : Int) := by have := ZM.out; omega
                  clear hsl hbb hnz
                  go_wp2_with fail
                  refine (rOf_any nz.n nz.a nz.c [35, 99, 101, 108, 108, 115] w10 SLZ.out (by have := NB.out; omega)).mono ?_
                  intro e w11 hgv
                  obtain ⟨val1, hval1⟩ : ∃ v, val ++ cs = v := ⟨_, rfl⟩
                  have V1 : Hid (val1.length = val.length + 4) := Lib.hid (by rw [← hval1, List.length_append, CL.out])
                  have v1 : val1.length ≤ 1104 := by have := V1.out; omega
                  (try rw [hval1])
                  clear hval1 x0 hx hg0 c0 c1 c2 cl
                  cases hz : valP nz.n.props [35, 99, 101, 108, 108, 115] with
                  | none =>
                    rw [hz] at hgv
                    obtain ⟨hg11, rfl⟩ := hgv
                    have L9 := Lib.hid (L8.out.gr hg11)
                    clear hg11 hz
                    go_wp2_with fail
                    go_roundw
                    case rel => exact ⟨val1, n, rfl, by go_num, by have := VB3.out; omega, by have := VB3.out; have := VB.out; have := V1.out; omega, L9.out⟩
                    case measure => simp [intOf] <;> omega
                  | some v =>
                    rw [hz] at hgv
                    obtain ⟨hg11, rfl⟩ := hgv
                    have L9 := Lib.hid (L8.out.gr hg11)
                    clear hg11 hz
                    by_cases h4 : v.length = 4
                    · obtain ⟨va, vb, vc, vd, hvl⟩ : ∃ a b c d, v = [a, b, c, d] := by
                        match v, h4 with
                        | [a, b, c, d], _ => exact ⟨a, b, c, d, rfl⟩
                      subst hvl
                      clear h4
                      have d256 : vd.toNat < 256 := vd.toNat_lt
                      go_wp2_with fail
                      obtain ⟨w12, rfl⟩ : ∃ wo, wo = wr := ⟨_, rfl⟩
                      go_loopw [8, 13] (fun v j wr => ∃ (val2 : St) (n2 : Nat), v = .string (bs val2) ∧ j = .int .i64 (n2 : Int) ∧ n2 ≤ vd.toNat ∧ val2.length ≤ val1.length + 4 * n2 ∧ LI P2 b len P3 g m c w wr ms) (fun _ j _ => vd.toNat - (intOf j).toNat)
                      case atStart => exact ⟨val1, 0, rfl, rfl, Nat.zero_le _, by omega, L9.out⟩
                      case round =>
                        clear L6 L8 L9 LL TP T6 SLZ NB
                        obtain ⟨val2, n2, rfl, rfl, hn2, hv2, hl⟩ := hrel
                        have LL2 := Lib.hid hl
                        have TP2 := Lib.hid (LL2.out.mv.tp H.out)
                        have V2 : Hid (val2.length ≤ val1.length + 4 * n2) := Lib.hid hv2
                        have v2 : val2.length ≤ 2200 := by omega
                        clear hl hv2
                        by_cases hlt2 : n2 < vd.toNat
                        · have kn2 : (n2 : Int) < (vd.toNat : Int) := by omega
                          have HLT2 := Lib.hid hlt2
                          clear hlt2
                          go_wp2_with fail
                          refine (nM_any wr b len 50 TP2.out (by omega) (by omega)).mono ?_
                          rintro e w13 ⟨r, rfl, ⟨r1, r2⟩, hm13⟩
                          obtain ⟨r, rfl⟩ := Int.eq_ofNat_of_zero_le r1
                          have L10 := Lib.hid (LL2.out.move hm13)
                          have R49 : Hid (r ≤ 49) := Lib.hid (by omega)
                          clear hm13 r1 r2
                          go_wp2_with fail
                          have RB := Lib.hid (Row.new w13 #[.int .i64 (r : Int)] 3)
                          obtain ⟨W14, hW14⟩ : ∃ W : World, Hid (W = w13.alloc (.cells #[.int .i64 (r : Int)] 3)) := ⟨_, Lib.hid rfl⟩
                          have g14 : Gr w13 W14 := by rw [hW14.out]; exact (Gr.refl _).alloc _
                          rw [← hW14.out] at RB ⊢
                          obtain ⟨PR, hPR⟩ : ∃ N : Nat, Hid (w13.heap.size = N) := ⟨_, Lib.hid rfl⟩
                          rw [hPR.out] at RB ⊢
                          have L11 := Lib.hid (L10.out.gr g14)
                          clear hW14 hPR g14
                          refine (growCells_any [r] (some ⟨PR, 0, none⟩) 1 W14 (sl_one RB.out (by have := R49.out; omega)) (by have := R49.out; simp; omega) (by simp) (by simp)).mono ?_
                          rintro e w15 ⟨rfl, hg15⟩
                          have L12 := Lib.hid (L11.out.gr hg15)
                          obtain ⟨cr, hcr⟩ : ∃ cs, cellsS [r] = cs := ⟨_, rfl⟩
                          have CR : Hid (cr.length = 4) := Lib.hid (by rw [← hcr, cellsS_length]; rfl)
                          have cl : cr.length ≤ 4 := by have := CR.out; omega
                          rw [hcr]
                          clear hcr hg15 RB
                          go_wp2_with fail
                          go_roundw
                          case rel => exact ⟨val2 ++ cr, n2 + 1, rfl, by go_num, by have := HLT2.out; omega, by have := V2.out; have := CR.out; rw [List.length_append]; omega, L12.out⟩
                          case measure => simp [intOf]; have := HLT2.out; omega
                        · have kn2 : ¬ (n2 : Int) < (vd.toNat : Int) := by omega
                          clear hlt2
                          go_wp2_with fail
                          go_roundw
                          case rel => exact ⟨val2, n, rfl, by go_num, by have := VB3.out; omega, by have := VB3.out; have := VB.out; have := V1.out; have := V2.out; omega, LL2.out⟩
                          case measure => simp [intOf] <;> omega
                    · have h4b : ((v.length : Int) == 4) = false := by rw [beq_eq_false_iff_ne]; omega
                      clear h4
                      go_wp2_with fail
                      go_roundw
                      case rel => exact ⟨val1, n, rfl, by go_num, by have := VB3.out; omega, by have := VB3.out; have := VB.out; have := V1.out; omega, L9.out⟩
                      case measure => simp [intOf] <;> omega
              | true =>
                have T6 := Lib.hid (L6.out.mv.tp H.out)
                have z9 : z ≤ 9 := by have := ZM.out; omega
                go_wp2_with fail
                obtain ⟨q, hq⟩ : ∃ q : Nat, Hid (10 + z = q) := ⟨_, Lib.hid rfl⟩
                rw [show (10 : Int) + (z : Int) = (q : Int) by have := hq.out; omega]
                have QL : Hid (q ≤ 19) := Lib.hid (by have := hq.out; omega)
                have RB := Lib.hid (Row.new w6 #[.int .i64 (q : Int)] 3)
                obtain ⟨W7, hW7⟩ : ∃ W : World, Hid (W = w6.alloc (.cells #[.int .i64 (q : Int)] 3)) := ⟨_, Lib.hid rfl⟩
                have g7 : Gr w6 W7 := by rw [hW7.out]; exact (Gr.refl _).alloc _
                rw [← hW7.out] at RB ⊢
                obtain ⟨PQ, hPQ⟩ : ∃ N : Nat, Hid (w6.heap.size = N) := ⟨_, Lib.hid rfl⟩
                rw [hPQ.out] at RB ⊢
                have L7 := Lib.hid (L6.out.gr g7)
                clear hW7 hPQ g7 hq z9
                refine (growCells_any [q] (some ⟨PQ, 0, none⟩) 1 W7 (sl_one RB.out (by have := QL.out; omega)) (by have := QL.out; simp; omega) (by simp) (by simp)).mono ?_
                rintro e w10 ⟨rfl, hg10⟩
                have L8 := Lib.hid (L7.out.gr hg10)
                obtain ⟨cs, hcs⟩ : ∃ cs, cellsS [q] = cs := ⟨_, rfl⟩
                have CL : Hid (cs.length = 4) := Lib.hid (by rw [← hcs, cellsS_length]; rfl)
                have cl : cs.length ≤ 4 := by have := CL.out; omega
                rw [hcs]
                clear hcs hg10 L7 RB
                have hzm : z < ms.length := by rw [L8.out.ml]; exact ZM.out
                obtain ⟨c0, c1, c2, hsl, _, _, _, hbb⟩ := L8.out.at hzm
                obtain ⟨nz, hnz⟩ : ∃ t, ms[z] = t := ⟨_, rfl⟩
                rw [hnz] at c0 c1 c2 hsl hbb
                have SLZ := Lib.hid hsl
                have NB := Lib.hid hbb.1
                have x0 := L8.out.r3.cell 0 (by simp)
                simp only [List.getElem_cons_zero] at x0
                have hx := has_of_cell x0
                have hg0 := has_of_cell c0
                have zn : (z : Int) < (m : Int) := by have := ZM.out; omega
                clear hsl hbb hnz
                go_wp2_with fail
                refine (rOf_any nz.n nz.a nz.c [35, 99, 101, 108, 108, 115] w10 SLZ.out (by have := NB.out; omega)).mono ?_
                intro e w11 hgv
                obtain ⟨val1, hval1⟩ : ∃ v, val ++ cs = v := ⟨_, rfl⟩
                have V1 : Hid (val1.length = val.length + 4) := Lib.hid (by rw [← hval1, List.length_append, CL.out])
                have v1 : val1.length ≤ 1104 := by have := V1.out; omega
                (try rw [hval1])
                clear hval1 x0 hx hg0 c0 c1 c2 cl
                cases hz : valP nz.n.props [35, 99, 101, 108, 108, 115] with
                | none =>
                  rw [hz] at hgv
                  obtain ⟨hg11, rfl⟩ := hgv
                  have L9 := Lib.hid (L8.out.gr hg11)
                  clear hg11 hz
                  go_wp2_with fail
                  go_roundw
                  case rel => exact ⟨val1, n, rfl, by go_num, by have := VB3.out; omega, by have := VB3.out; have := VB.out; have := V1.out; omega, L9.out⟩
                  case measure => simp [intOf] <;> omega
                | some v =>
                  rw [hz] at hgv
                  obtain ⟨hg11, rfl⟩ := hgv
                  have L9 := Lib.hid (L8.out.gr hg11)
                  clear hg11 hz
                  by_cases h4 : v.length = 4
                  · obtain ⟨va, vb, vc, vd, hvl⟩ : ∃ a b c d, v = [a, b, c, d] := by
                      match v, h4 with
                      | [a, b, c, d], _ => exact ⟨a, b, c, d, rfl⟩
                    subst hvl
                    clear h4
                    have d256 : vd.toNat < 256 := vd.toNat_lt
                    go_wp2_with fail
                    obtain ⟨w12, rfl⟩ : ∃ wo, wo = wr := ⟨_, rfl⟩
                    go_loopw [8, 13] (fun v j wr => ∃ (val2 : St) (n2 : Nat), v = .string (bs val2) ∧ j = .int .i64 (n2 : Int) ∧ n2 ≤ vd.toNat ∧ val2.length ≤ val1.length + 4 * n2 ∧ LI P2 b len P3 g m c w wr ms) (fun _ j _ => vd.toNat - (intOf j).toNat)
                    case atStart => exact ⟨val1, 0, rfl, rfl, Nat.zero_le _, by omega, L9.out⟩
                    case round =>
                      clear L6 L8 L9 LL TP T6 SLZ NB
                      obtain ⟨val2, n2, rfl, rfl, hn2, hv2, hl⟩ := hrel
                      have LL2 := Lib.hid hl
                      have TP2 := Lib.hid (LL2.out.mv.tp H.out)
                      have V2 : Hid (val2.length ≤ val1.length + 4 * n2) := Lib.hid hv2
                      have v2 : val2.length ≤ 2200 := by omega
                      clear hl hv2
                      by_cases hlt2 : n2 < vd.toNat
                      · have kn2 : (n2 : Int) < (vd.toNat : Int) := by omega
                        have HLT2 := Lib.hid hlt2
                        clear hlt2
                        go_wp2_with fail
                        refine (nM_any wr b len 50 TP2.out (by omega) (by omega)).mono ?_
                        rintro e w13 ⟨r, rfl, ⟨r1, r2⟩, hm13⟩
                        obtain ⟨r, rfl⟩ := Int.eq_ofNat_of_zero_le r1
                        have L10 := Lib.hid (LL2.out.move hm13)
                        have R49 : Hid (r ≤ 49) := Lib.hid (by omega)
                        clear hm13 r1 r2
                        go_wp2_with fail
                        have RB := Lib.hid (Row.new w13 #[.int .i64 (r : Int)] 3)
                        obtain ⟨W14, hW14⟩ : ∃ W : World, Hid (W = w13.alloc (.cells #[.int .i64 (r : Int)] 3)) := ⟨_, Lib.hid rfl⟩
                        have g14 : Gr w13 W14 := by rw [hW14.out]; exact (Gr.refl _).alloc _
                        rw [← hW14.out] at RB ⊢
                        obtain ⟨PR, hPR⟩ : ∃ N : Nat, Hid (w13.heap.size = N) := ⟨_, Lib.hid rfl⟩
                        rw [hPR.out] at RB ⊢
                        have L11 := Lib.hid (L10.out.gr g14)
                        clear hW14 hPR g14
                        refine (growCells_any [r] (some ⟨PR, 0, none⟩) 1 W14 (sl_one RB.out (by have := R49.out; omega)) (by have := R49.out; simp; omega) (by simp) (by simp)).mono ?_
                        rintro e w15 ⟨rfl, hg15⟩
                        have L12 := Lib.hid (L11.out.gr hg15)
                        obtain ⟨cr, hcr⟩ : ∃ cs, cellsS [r] = cs := ⟨_, rfl⟩
                        have CR : Hid (cr.length = 4) := Lib.hid (by rw [← hcr, cellsS_length]; rfl)
                        have cl : cr.length ≤ 4 := by have := CR.out; omega
                        rw [hcr]
                        clear hcr hg15 RB
                        go_wp2_with fail
                        go_roundw
                        case rel => exact ⟨val2 ++ cr, n2 + 1, rfl, by go_num, by have := HLT2.out; omega, by have := V2.out; have := CR.out; rw [List.length_append]; omega, L12.out⟩
                        case measure => simp [intOf]; have := HLT2.out; omega
                      · have kn2 : ¬ (n2 : Int) < (vd.toNat : Int) := by omega
                        clear hlt2
                        go_wp2_with fail
                        go_roundw
                        case rel => exact ⟨val2, n, rfl, by go_num, by have := VB3.out; omega, by have := VB3.out; have := VB.out; have := V1.out; have := V2.out; omega, LL2.out⟩
                        case measure => simp [intOf] <;> omega
                  · have h4b : ((v.length : Int) == 4) = false := by rw [beq_eq_false_iff_ne]; omega
                    clear h4
                    go_wp2_with fail
                    go_roundw
                    case rel => exact ⟨val1, n, rfl, by go_num, by have := VB3.out; omega, by have := VB3.out; have := VB.out; have := V1.out; omega, L9.out⟩
                    case measure => simp [intOf] <;> omega
            · obtain rfl : n = 0 := by omega
              clear h0
              have hkm : k < ms.length := by rw [LL.out.ml]; exact HLT.out
              by_cases hval : val = []
              · subst hval
                go_upto_region 30 with (fail)
                clear x0 hx
                obtain ⟨_, _, c2, hsl, hfr, hfm, hsm, hbb⟩ := LL.out.at hkm
                refine wp_code_eq (c := Code.region 30 (regIn 30 Tryz.f12) true) (by kernel_rfl) (lk30 (wr := wr) (g := g) (k := k) (PX := P3) (n := m) (vc := c) LL.out.r3 HLT.out c2 hfr hsl hbb ?_)
                intro t134 t135 t136 t137 t138 t139 t140 t141 t142 t143 t144 t145 w6 hfin
                obtain ⟨m6, h2⟩ := hfin.li LL.out TP.out hkm (LL.out.vl.woM hkm _)
                have L6 := Lib.hid h2
                clear h2 hfin c2 hsl hfr hfm hsm hbb
                unfold lk30A
                go_wp2_with fail
                go_roundw
                case rel => exact ⟨k + 1, m6, by have := HLT.out; omega, by go_num, L6.out⟩
                case measure => simp [intOf]; have := HLT.out; omega
              · have hb1 : (val == []) = false := by rw [beq_eq_false_iff_ne]; exact hval
                have hb2 : (val != []) = true := by simp [bne, hb1]
                clear hval
                go_upto_region 29 with (fail)
                clear x0 hx
                obtain ⟨_, _, c2, hsl, hfr, hfm, hsm, hbb⟩ := LL.out.at hkm
                refine wp_code_eq (c := Code.region 29 (regIn 29 Tryz.f12) true) (by kernel_rfl) (lk29 (wr := wr) (g := g) (k := k) (PX := P3) (n := m) (vc := c) (val := val) LL.out.r3 HLT.out c2 hfr hsl hbb ?_)
                intro t121 t122 t123 t124 t125 t126 t127 t128 t129 t130 t131 t132 t133 w6 hfin
                obtain ⟨m6, h2⟩ := hfin.li LL.out TP.out hkm (LL.out.vl.putM hkm clocks_in (by have := VB.out; omega))
                have L6 := Lib.hid h2
                clear h2 hfin c2 hsl hfr hfm hsm hbb
                unfold lk29A
                go_wp2_with fail
                go_roundw
                case rel => exact ⟨k + 1, m6, by have := HLT.out; omega, by go_num, L6.out⟩
                case measure => simp [intOf]; have := HLT.out; omega
        · obtain rfl : m = k := by omega
          clear hlt hk
          have m9 := M9.out.1
          have z0 := LL.out.r2.cell 0 (by simp)
          have zf := LL.out.r2.free 0
          have hz := has_of_cell z0
          have PB2 := Lib.hid LL.out.bb
          go_wp2_with fail
          have RF := Lib.hid (LL.out.r2.set 0 (.slice (some ⟨g, 0, none⟩) m c))
          have TF := Lib.hid (LL.out.tr.box (o := 0) (u := .slice (some ⟨g, 0, none⟩) m c) LL.out.r2.ty (by decide) (LL.out.tr.ne_ty LL.out.r2.ty (by decide)))
          have GF : Hid (Mv b len w (wr.setCell ⟨P2, 0, none⟩ (.slice (some ⟨g, 0, none⟩) m c))) := Lib.hid (LL.out.mv.setc (by have := PB2.out; omega))
          obtain ⟨W3, hW3⟩ : ∃ W : World, Hid (W = wr.setCell ⟨P2, 0, none⟩ (.slice (some ⟨g, 0, none⟩) m c)) := ⟨_, Lib.hid rfl⟩
          rw [← hW3.out] at RF TF GF ⊢
          have e0 : W3.cell? ⟨P2, 0, none⟩ = some (.slice (some ⟨g, 0, none⟩) m c) := RF.out.cell 0 (by simp)
          clear hW3 x0 hx z0 zf hz
          refine bodyPost_ret (v := .agg #[.slice (some ⟨g, 0, none⟩) m c]) (by simp [results, Tryz.results12, e0, go_sem]) rfl ?_
          rw [HP0.out]
          exact ⟨_, ms, rfl, TF.out, LL.out.vl, by rw [LL.out.ml]; exact m9, GF.out⟩
theorem lk_at {w : World} {base n c : Nat} {a : Option Addr} {lts : List LT} (h : w.ownsRow base 40 5 (.slice a n c) lts.length (encLks lts)) {j : Nat} (hj : j < lts.length) :
    ∃ g, a = some ⟨g, 0, none⟩ ∧ n = lts.length ∧ w.cell? ⟨g, j * 5, none⟩ = some (.int .i64 lts[j].l.node) ∧ w.cell? ⟨g, j * 5 + 1, none⟩ = some (.int .i64 lts[j].l.prov) ∧ w.cell? ⟨g, j * 5 + 2, none⟩ = some (.string (bs lts[j].l.prop)) ∧ w.cell? ⟨g, j * 5 + 3, none⟩ = some (.int .i64 lts[j].l.idx) ∧ w.cell? ⟨g, j * 5 + 4, none⟩ = some (.slice lts[j].a lts[j].l.args.length lts[j].c) := by
  obtain ⟨g, cap, e1, _, _, hc⟩ := owns_cell h (by omega)
  cases e1
  have hf := fun i (hi : i < 5) => flat_at encLk 5 (fun _ => rfl) lts j i hj hi
  have h2 : ∀ i, i < 5 → w.cell? ⟨g, j * 5 + i, none⟩ = (encLk lts[j])[i]? := fun i hi => by rw [hc (j * 5 + i) (by omega)]; exact hf i hi
  exact ⟨g, rfl, rfl, by have := h2 0 (by omega); exact this, by have := h2 1 (by omega); exact this, by have := h2 2 (by omega); exact this, by have := h2 3 (by omega); exact this, by have := h2 4 (by omega); exact this⟩
theorem nm_at {w : World} {base n c : Nat} {a : Option Addr} {zs : List Int} (h : w.ownsRow base 3 1 (.slice a n c) zs.length (nums zs)) {j : Nat} (hj : j < zs.length) : ∃ g, a = some ⟨g, 0, none⟩ ∧ w.cell? ⟨g, j, none⟩ = some (.int .i64 zs[j]) := by
  obtain ⟨g, cap, e1, _, _, hc⟩ := owns_cell h (by omega)
  cases e1
  refine ⟨g, rfl, ?_⟩
  rw [hc j (by omega)]
  simp [nums, hj]
theorem in_any (zs : List Int) (a : Option Addr) (cap base : Nat) (x : Int) (w : World) (h : w.ownsRow base 3 1 (.slice a zs.length cap) zs.length (nums zs)) (hf : zs.length ≤ 1000000) :
    Calls Tryz.prog 17 #[.slice a zs.length cap, .int .i64 x] w (Grows w (.bool (zs.contains x))) := by
  have H := Lib.hid h
  obtain ⟨r, hr⟩ : ∃ r, zs.contains x = r := ⟨_, rfl⟩
  have HR := Lib.hid hr
  rw [hr]
  clear h hr
  obtain ⟨P0, hP0⟩ : ∃ P : Ending → World → Prop, P = Grows w (.bool r) := ⟨_, rfl⟩
  rw [← hP0]
  have HP0 := Lib.hid hP0
  clear hP0
  go_enter Tryz.func17, Tryz.ntmps17
  go_wp2_with fail
  go_loopw [5] (fun i wr => ∃ k : Nat, k ≤ zs.length ∧ i = .int .i64 (k : Int) ∧ (∀ j (hj : j < k) (hjl : j < zs.length), zs[j] ≠ x) ∧ Gr w wr) (fun i _ => zs.length - (intOf i).toNat)
  case atStart => exact ⟨0, Nat.zero_le _, rfl, fun j h => by omega, by first | exact Gr.refl _ | exact (Gr.refl _).drewN _⟩
  case round =>
    obtain ⟨k, hk, rfl, ha, hg⟩ := hrel
    have HG := Lib.hid hg
    have HA := Lib.hid ha
    clear hg ha
    by_cases hlt : k < zs.length
    · obtain ⟨g, eg, d0⟩ := nm_at (Gr.owns H.out HG.out) hlt
      subst eg
      obtain ⟨z, hz⟩ : ∃ z, zs[k] = z := ⟨_, rfl⟩
      have HZ := Lib.hid hz
      have ZM : Hid (z ∈ zs) := Lib.hid (by rw [← hz]; exact List.getElem_mem hlt)
      rw [hz] at d0
      have hd := has_of_cell d0
      have kn : (k : Int) < (zs.length : Int) := by omega
      clear hz
      by_cases hzx : z = x
      · have R1 : Hid (r = true) := Lib.hid (by rw [← HR.out, List.contains_iff_mem, ← hzx]; exact ZM.out)
        have hb : (z == x) = true := beq_iff_eq.2 hzx
        subst hzx
        clear hb
        go_wp2_with fail
        rw [HP0.out, R1.out]
        exact ⟨rfl, HG.out⟩
      · have hb : (z == x) = false := by rw [beq_eq_false_iff_ne]; exact hzx
        have HZX := Lib.hid hzx
        clear hzx
        go_wp2_with fail
        go_roundw
        case rel => exact ⟨k + 1, by omega, by go_num, fun j hj hjl => (by
          by_cases e : j = k
          · subst e; rw [HZ.out]; exact HZX.out
          · exact HA.out j (by omega) hjl), HG.out⟩
        case measure => simp [intOf]; omega
    · have kn : ¬ (k : Int) < (zs.length : Int) := by omega
      have R1 : Hid (r = false) := Lib.hid (by
        rw [← HR.out, ← Bool.not_eq_true, List.contains_iff_mem]
        intro q
        obtain ⟨j, hj, e⟩ := List.getElem_of_mem q
        exact HA.out j (by omega) hj e)
      clear hlt
      go_wp2_with fail
      rw [HP0.out, R1.out]
      exact ⟨rfl, HG.out⟩
theorem any_snoc (p : Lnk → Bool) (l : List Lnk) (m : Nat) (h : m < l.length) : (l.take (m + 1)).any p = ((l.take m).any p || p l[m]) := by
  rw [List.take_succ_eq_append_getElem h, List.any_append]
  simp
theorem lks_get {lts : List LT} {m : Nat} (h : m < lts.length) : (lks lts)[m]'(by unfold lks; rw [List.length_map]; exact h) = lts[m].l := by
  unfold lks
  rw [List.getElem_map]
theorem allT_len2 {ts : Tr} (hg : GoodT ts) {pn cn : St} : ∀ (K : Nat) (ls : List Lnk), K ≤ ts.length → allT ts pn cn K = .ok ls → ls.length ≤ K * 64
  | 0, ls, _, h => by rw [allT] at h; injection h with h; subst h; simp
  | K + 1, ls, hK, h => by
    rw [allT] at h
    cases ha : allT ts pn cn K with
    | error e => rw [ha] at h; cases h
    | ok out =>
      rw [ha] at h
      dsimp only at h
      cases ho : ofT ts K pn cn with
      | error e => rw [ho] at h; cases h
      | ok l2 =>
        rw [ho] at h
        injection h with h
        subst h
        have h1 := allT_len2 hg K out (by omega) ha
        have h2 := ofT_len hg (by omega) ho
        rw [List.length_append]
        omega
def preC (p : Int) (ls : List Lnk) (m : Nat) : List Int := ((ls.take m).filter (fun x => x.prov == p)).map Lnk.node
theorem preC_len (p : Int) (ls : List Lnk) (m : Nat) : (preC p ls m).length ≤ m := by
  unfold preC
  rw [List.length_map]
  exact Nat.le_trans (List.length_filter_le _ _) (by rw [List.length_take]; omega)
theorem preC_step (p : Int) (ls : List Lnk) (m : Nat) (h : m < ls.length) : preC p ls (m + 1) = if ls[m].prov == p then preC p ls m ++ [ls[m].node] else preC p ls m := by
  unfold preC
  rw [List.take_succ_eq_append_getElem h, List.filter_append, List.map_append, List.filter_cons]
  split
  · simp
  · simp
theorem consumers_ok (ts : Tr) (a : Option Addr) (cap p : Nat) (pn cn : St) (ls : List Lnk) (w : World) (h : SlOf 3 RNod w a ts) (hc : chkT ts = 0) (hp : p < ts.length) (hz : allT ts pn cn ts.length = .ok ls) (hls : ls.length ≤ 600) :
    Calls Tryz.prog 16 #[.agg #[.slice a ts.length cap], .int .i64 p, .string (bs pn), .string (bs cn)] w fun e w' => ∃ v, e = .returned (.tuple #[v, .int .i64 0]) ∧ w'.ownsRow w.heap.size 3 1 v (consL p ls).length (nums (consL p ls)) ∧ Gr w w' := by
  have H := Lib.hid h
  have HC := Lib.hid hc
  have HZ := Lib.hid hz
  have h120 := (good_of hc).len.2
  obtain ⟨i0, hi0, hz0, hz1, hz2⟩ := info_parts infoInt
  obtain ⟨P0, hP0⟩ : ∃ P : Ending → World → Prop, P = fun e w' => ∃ v, e = .returned (.tuple #[v, .int .i64 0]) ∧ w'.ownsRow w.heap.size 3 1 v (consL p ls).length (nums (consL p ls)) ∧ Gr w w' := ⟨_, rfl⟩
  rw [← hP0]
  have HP0 := Lib.hid hP0
  clear hP0 h hc hz
  go_enter Tryz.func16, Tryz.ntmps16
  go_wp2_with fail
  have RX := Lib.hid (Row.new w #[.slice a ts.length cap] 31)
  obtain ⟨W, hW⟩ : ∃ W : World, Hid (W = w.alloc (.cells #[.slice a ts.length cap] 31)) := ⟨_, Lib.hid rfl⟩
  have GW : Hid (Gr w W) := Lib.hid (by rw [hW.out]; exact (Gr.refl _).alloc _)
  rw [← hW.out] at RX ⊢
  obtain ⟨PB, hPB⟩ : ∃ N : Nat, Hid (w.heap.size = N) := ⟨_, Lib.hid rfl⟩
  rw [hPB.out] at RX ⊢
  clear hW
  refine (begin_any ts a cap p W (H.out.gr RNod.mono GW.out) HC.out hp).mono ?_
  rintro e w1 ⟨rfl, hg1⟩
  have G1 := Lib.hid (GW.out.trans hg1)
  have RX1 := Lib.hid (RX.out.gr hg1)
  clear hg1 RX GW
  have x0 := RX1.out.cell 0 (by simp)
  simp only [List.getElem_cons_zero] at x0
  have hx := has_of_cell x0
  go_wp2_with fail
  refine (all_any ts a cap pn cn w1 (H.out.gr RNod.mono G1.out) HC.out).mono ?_
  intro e w2 hgv
  rw [HZ.out] at hgv
  obtain ⟨lv, lts, rfl, hlk, how, hlr, hg2⟩ := hgv
  obtain ⟨la, lc, rfl⟩ := owns_slice how
  have G2 := Lib.hid (G1.out.trans hg2)
  have OW := Lib.hid (owns_low how G1.out.size)
  have HLK := Lib.hid hlk
  obtain ⟨nl, hnl⟩ : ∃ N : Nat, Hid (lts.length = N) := ⟨_, Lib.hid rfl⟩
  have LN : Hid (ls.length = nl) := Lib.hid (by rw [← hlk]; unfold lks; rw [List.length_map]; exact hnl.out)
  have n600 : nl ≤ 600 := by rw [← LN.out]; exact hls
  rw [hnl.out]
  clear hg2 how hlr hlk x0 hx hls RX1
  go_wp2_with fail
  go_loopw [13, 34] (fun x s wr => ∃ m : Nat, m ≤ nl ∧ s = .int .i64 (m : Int) ∧ wr.ownsRow w.heap.size 3 1 x (preC p ls m).length (nums (preC p ls m)) ∧ wr.ownsRow w.heap.size 40 5 (.slice la nl lc) lts.length (encLks lts) ∧ Gr w wr) (fun _ s _ => nl - (intOf s).toNat)
  case atStart => exact ⟨0, Nat.zero_le _, rfl, World.ownsRow_nil _ _ _ _, by have := OW.out; rw [hnl.out] at this ⊢; exact this, G2.out⟩
  case round =>
    clear OW G2
    obtain ⟨m, hm, rfl, ho, hol, hg⟩ := hrel
    obtain ⟨va, vc, rfl⟩ := owns_slice ho
    have OW := Lib.hid ho
    have OL := Lib.hid hol
    have HG := Lib.hid hg
    have PL := preC_len p ls m
    clear ho hol hg
    by_cases hml : m < nl
    · have hmt : m < lts.length := by rw [hnl.out]; exact hml
      obtain ⟨g2, e2, -, p0, p1, p2, p3, p4⟩ := lk_at OL.out hmt
      subst e2
      obtain ⟨t, ht⟩ : ∃ t, lts[m] = t := ⟨_, rfl⟩
      have PS : Hid (preC p ls (m + 1) = if t.l.prov == (p : Int) then preC p ls m ++ [t.l.node] else preC p ls m) := Lib.hid (by
        have hml2 : m < ls.length := by rw [LN.out]; exact hml
        have e : ls[m] = t.l := by
          have q := lks_get hmt
          rw [ht] at q
          rw [← q]
          congr 1
          exact HLK.out.symm
        rw [preC_step _ _ _ hml2, e])
      rw [ht] at p0 p1 p2 p3 p4
      obtain ⟨tp, htp⟩ : ∃ z, t.l.prov = z := ⟨_, rfl⟩
      rw [htp] at p1 PS
      have hp0 := has_of_cell p0
      have HML := Lib.hid hml
      have mn : (m : Int) < (nl : Int) := by omega
      obtain ⟨q, hq⟩ : ∃ N : Nat, Hid ((preC p ls m).length = N) := ⟨_, Lib.hid rfl⟩
      have q600 : q ≤ 600 := by rw [← hq.out]; omega
      have OWQ : Hid (wr.ownsRow w.heap.size 3 1 (.slice va q vc) q (nums (preC p ls m))) := Lib.hid (by have := OW.out; rw [hq.out] at this; exact this)
      rw [hq.out]
      clear ht htp hml hm hmt PL
      go_upto_region 11 with (fail)
      have BX := Lib.hid (Row.new wr #[.int .i64 t.l.node, .int .i64 tp, .string (bs t.l.prop), .int .i64 t.l.idx, .slice t.a t.l.args.length t.c] 40)
      obtain ⟨w8, hw8⟩ : ∃ W : World, Hid (W = wr.alloc (.cells #[.int .i64 t.l.node, .int .i64 tp, .string (bs t.l.prop), .int .i64 t.l.idx, .slice t.a t.l.args.length t.c] 40)) := ⟨_, Lib.hid rfl⟩
      have g8 : Gr wr w8 := by rw [hw8.out]; exact (Gr.refl _).alloc _
      rw [← hw8.out] at BX ⊢
      obtain ⟨PX, hPX⟩ : ∃ N : Nat, Hid (wr.heap.size = N) := ⟨_, Lib.hid rfl⟩
      rw [hPX.out] at BX ⊢
      have G8 := Lib.hid (HG.out.trans g8)
      have OW8 := Lib.hid (Gr.owns OWQ.out g8)
      have OL8 := Lib.hid (Gr.owns OL.out g8)
      clear hw8 hPX g8 p0 p1 p2 p3 p4 hp0
      have y0 := BX.out.cell 0 (by simp)
      have y1 := BX.out.cell 1 (by simp)
      simp only [List.getElem_cons_zero, List.getElem_cons_succ] at y0 y1
      have hy := has_of_cell y0
      by_cases hpv : tp = (p : Int)
      · subst hpv
        have PS2 : Hid (preC p ls (m + 1) = preC p ls m ++ [t.l.node]) := Lib.hid (by rw [PS.out, if_pos (by simp)])
        have NR := Lib.hid (row_cells (Row.new w8 #[.int .i64 t.l.node] 3))
        go_wp2_with (at_builtin; refine wpList_append_own _ rfl _ _ 38 rfl w.heap.size 3 i0 (.int .i64 0) 1 8 Tryz.underlying38 hi0 hz0 hz1 hz2 rfl (by decide) (.slice va q vc) q (nums (preC p ls m)) rfl (OW8.out.alloc _) ⟨w8.heap.size, 0, none⟩ 1 1 [.int .i64 t.l.node] rfl rfl NR.out (by intro u hu; rw [List.mem_singleton.1 hu]; rfl) (by unfold maxLen; omega) (by omega) (by have := G8.out.size; simp; omega) ?_; intro v' wz hown' hgrow hnil; have HOz := Lib.hid hown'; have HGz := Lib.hid hgrow; clear hown' hgrow hnil)
        go_roundw
        case rel =>
          have ga : Gr w8 (w8.alloc (.cells #[.int .i64 t.l.node] 3)) := (Gr.refl w8).alloc _
          have OA := Gr.owns OW8.out ga
          refine ⟨m + 1, by have := HML.out; omega, by go_num, ?_, (Gr.owns OL8.out ga).kept HGz.out (owns_ne (Gr.owns OL8.out ga) OA (by decide)), (G8.out.trans ga).grown HGz.out (fun j e => (OA.lt j e).1)⟩
          have := HOz.out
          rw [PS2.out, List.length_append, hq.out]
          simpa [nums] using this
        case measure => simp [intOf]; have := HML.out; omega
      · have hb : (tp == (p : Int)) = false := by rw [beq_eq_false_iff_ne]; exact hpv
        have PS2 : Hid (preC p ls (m + 1) = preC p ls m) := Lib.hid (by rw [PS.out, hb]; rfl)
        clear hpv
        go_wp2_with fail
        go_roundw
        case rel => exact ⟨m + 1, by have := HML.out; omega, by go_num, by rw [PS2.out, hq.out]; exact OW8.out, OL8.out, G8.out⟩
        case measure => simp [intOf]; have := HML.out; omega
    · have mn : ¬ (m : Int) < (nl : Int) := by omega
      have PE : Hid (Lib.compact (preC p ls m) = consL p ls) := Lib.hid (by unfold preC consL; rw [List.take_of_length_le (by rw [LN.out]; omega)])
      have CI := compI_any (preC p ls m) (.slice va (preC p ls m).length vc) w.heap.size wr OW.out (by omega)
      have CI := Lib.hid CI
      clear hml
      go_wp2_with fail
      refine CI.out.mono ?_
      rintro e w9 hcp
      unfold CompsI at hcp
      obtain ⟨v9, rfl, h1, h2, _⟩ := hcp
      rw [PE.out] at h1
      have O9 := Lib.hid h1
      have G9 : Hid (Gr w w9) := Lib.hid (HG.out.grown h2 (fun j e => (OW.out.lt j e).1))
      clear h1 h2
      go_wp2_with fail
      rw [HP0.out]
      exact ⟨v9, rfl, O9.out, G9.out⟩
theorem growCells0 (a : Option Addr) (cap : Nat) (w : World) :
    Calls Tryz.prog 19 #[.slice a 0 cap] w (Grows w (.string (bs []))) := by
  obtain ⟨P0, hP0⟩ : ∃ P : Ending → World → Prop, P = Grows w (.string (bs [])) := ⟨_, rfl⟩
  rw [← hP0]
  have HP0 := Lib.hid hP0
  clear hP0
  go_enter Tryz.func19, Tryz.ntmps19
  go_wp2_with fail
  go_loopw [3, 8] (fun x i wr => x = .slice none 0 0 ∧ i = .int .i64 0 ∧ Gr w wr) (fun _ _ _ => 0)
  case atStart => exact ⟨rfl, rfl, Gr.refl _⟩
  case round =>
    obtain ⟨rfl, rfl, hg⟩ := hrel
    have HG := Lib.hid hg
    clear hg
    have hcv : (convert 112 9 (.slice none 0 0)).run Tryz.prog wr = .ok (.string (bs [])) wr := run_convert_bytes_nil (P := Tryz.prog) wr 112 5 Tryz.underlying112 Tryz.underlying5 0 0 9 Tryz.underlying9
    go_wp2_with fail
    rw [HP0.out]
    exact ⟨rfl, HG.out⟩
theorem growCells_all (ns : List Nat) (a : Option Addr) (cap : Nat) (w : World) (h : SlOf 1 RI w a (ns.map (fun n : Nat => (n : Int)))) (hn : ∀ n ∈ ns, n < 4294967296) (hf : ns.length ≤ 1000) :
    Calls Tryz.prog 19 #[.slice a ns.length cap] w (Grows w (.string (bs (cellsS ns)))) := by
  cases ns with
  | nil => exact growCells0 a cap w
  | cons n l => exact growCells_any (n :: l) a cap w h hn (by simp) hf
theorem rsame_any (xs ys : List LT) (a b : Option Addr) (ca cb bx by2 : Nat) (w : World) (hx : w.ownsRow bx 40 5 (.slice a xs.length ca) xs.length (encLks xs)) (hy : w.ownsRow by2 40 5 (.slice b ys.length cb) ys.length (encLks ys)) (hxr : LRows w bx xs) (hyr : LRows w by2 ys) (he : lks xs = lks ys) (hf : xs.length ≤ 1000000) :
    Calls Tryz.prog 15 #[.slice a xs.length ca, .slice b ys.length cb] w (Grows w (.bool true)) := by
  have HX := Lib.hid hx
  have HY := Lib.hid hy
  have RX := Lib.hid hxr
  have RY := Lib.hid hyr
  have HE := Lib.hid he
  have EL : ys.length = xs.length := by have := congrArg List.length he; simp only [lks, List.length_map] at this; exact this.symm
  obtain ⟨n, hn⟩ : ∃ N : Nat, Hid (xs.length = N) := ⟨_, Lib.hid rfl⟩
  have YN : Hid (ys.length = n) := Lib.hid (by rw [EL]; exact hn.out)
  rw [EL, hn.out]
  rw [hn.out] at hf
  clear hx hy hxr hyr he EL
  obtain ⟨P0, hP0⟩ : ∃ P : Ending → World → Prop, P = Grows w (.bool true) := ⟨_, rfl⟩
  rw [← hP0]
  have HP0 := Lib.hid hP0
  clear hP0
  go_enter Tryz.func15, Tryz.ntmps15
  go_wp2_with fail
  go_loopw [15] (fun i wr => ∃ k : Nat, k ≤ n ∧ i = .int .i64 (k : Int) ∧ Gr w wr) (fun i _ => n - (intOf i).toNat)
  case atStart => exact ⟨0, Nat.zero_le _, rfl, by first | exact Gr.refl _ | exact (Gr.refl _).drewN _⟩
  case round =>
    obtain ⟨k, hk, rfl, hg⟩ := hrel
    have HG := Lib.hid hg
    clear hg
    by_cases hlt : k < n
    · have hkx : k < xs.length := by rw [hn.out]; exact hlt
      have hky : k < ys.length := by rw [YN.out]; exact hlt
      obtain ⟨ga, ea, _, p0, p1, p2, p3, p4⟩ := lk_at (Gr.owns HX.out HG.out) hkx
      obtain ⟨gb, eb, _, q0, q1, q2, q3, q4⟩ := lk_at (Gr.owns HY.out HG.out) hky
      subst ea
      subst eb
      obtain ⟨x, hx⟩ : ∃ t, xs[k] = t := ⟨_, rfl⟩
      obtain ⟨y, hy⟩ : ∃ t, ys[k] = t := ⟨_, rfl⟩
      have EQ : Hid (y.l = x.l) := Lib.hid (by
        have h1 := lks_get hkx
        have h2 := lks_get hky
        rw [hx] at h1
        rw [hy] at h2
        rw [← h1, ← h2]
        congr 1
        exact HE.out.symm)
      have XR := Lib.hid (RX.out.gr HG.out _ (List.getElem_mem hkx))
      have YR := Lib.hid (RY.out.gr HG.out _ (List.getElem_mem hky))
      rw [hx] at p0 p1 p2 p3 p4 XR
      rw [hy] at q0 q1 q2 q3 q4 YR
      rw [EQ.out] at q0 q1 q2 q3 q4 YR
      have hp := has_of_cell p0
      have hq := has_of_cell q0
      have kn : (k : Int) < (n : Int) := by omega
      have HLT := Lib.hid hlt
      clear hx hy hkx hky hlt
      have IX := Lib.hid (fun W (hg : Gr wr W) => (by
        obtain ⟨_, _, ex, _, sx⟩ := ints_at XR.1 XR.2.1
        obtain ⟨_, _, ey, _, sy⟩ := ints_at YR.1 YR.2.1
        cases ex
        cases ey
        have q := ints_any x.l.args x.l.args x.a y.a x.c y.c W (sx.giI hg) (sy.giI hg) (by unfold Fit; have := XR.2.2; omega) (by unfold Fit; have := XR.2.2; omega)
        rw [decide_eq_true rfl] at q
        exact q : Calls Tryz.prog 28 #[.slice x.a x.l.args.length x.c, .slice y.a x.l.args.length y.c] W (Grows W (.bool true))))
      have XL : x.l.args.length ≤ 8 := XR.2.2
      clear XR YR EQ
      go_upto_region 6 with (fail)
      go_region_with (fail)
      all_goals
        go_wp2_with (go_at_call 28; refine (IX.out _ (by repeat (first | with_reducible exact Gr.refl _ | with_reducible refine Gr.drew ?_ | with_reducible refine Gr.alloc _ ?_))).mono ?_; rintro e w9 ⟨rfl, O9, d9, rfl⟩)
        go_roundw
        case rel => exact ⟨k + 1, by have := HLT.out; omega, by go_num, HG.out.trans (by repeat (first | with_reducible exact Gr.refl _ | with_reducible refine Gr.xt _ _ ?_ | with_reducible refine Gr.drew ?_ | with_reducible refine Gr.drewN _ ?_ | with_reducible refine Gr.alloc _ ?_))⟩
        case measure => simp [intOf]; have := HLT.out; omega
    · have kn : ¬ (k : Int) < (n : Int) := by omega
      clear hlt
      go_wp2_with fail
      rw [HP0.out]
      exact ⟨rfl, HG.out⟩
def Arg32 (x : Lnk) : Prop := (∀ z ∈ x.args, 0 ≤ z ∧ z < 4294967296) ∧ x.args.length ≤ 8
theorem ofF_args {ts : Tr} {node : Int} {pn cn : St} : ∀ (f : Nat) (l : List Int) (out ls : List Lnk), (∀ z ∈ l, 0 ≤ z ∧ z < 4294967296) → (∀ x ∈ out, Arg32 x) → ofF ts node pn cn f l out = .ok ls → ∀ x ∈ ls, Arg32 x
  | 0, l, out, ls, _, ho, h => by rw [ofF] at h; injection h with h; subst h; exact ho
  | f + 1, [], out, ls, _, ho, h => by rw [ofF] at h; injection h with h; subst h; exact ho
  | f + 1, p :: l, out, ls, hl, ho, h => by
    rw [ofF] at h
    cases hp : phan ts p with
    | none => rw [hp] at h; cases h
    | some k =>
      rw [hp] at h
      dsimp only at h
      cases ha : argsN ts k cn with
      | none => rw [ha] at h; cases h
      | some n =>
        rw [ha] at h
        dsimp only at h
        split at h
        · cases h
        · refine ofF_args f _ _ ls (fun z hz => hl z (List.mem_cons_of_mem _ (List.mem_of_mem_drop hz))) (fun x hx => ?_) h
          rcases List.mem_append.1 hx with q | q
          · exact ho x q
          · rw [List.mem_singleton.1 q]
            refine ⟨fun z hz => hl z (List.mem_cons_of_mem _ (List.mem_of_mem_take hz)), ?_⟩
            have := argsN_le ha
            rw [List.length_take]
            omega
theorem ofT_args {ts : Tr} {n : Nat} {pn cn : St} {ls : List Lnk} (h : ofT ts n pn cn = .ok ls) : ∀ x ∈ ls, Arg32 x := by
  unfold ofT at h
  split at h
  · injection h with h; subst h; exact fun x hx => by cases hx
  · split at h
    · injection h with h; subst h; exact fun x hx => by cases hx
    · split at h
      · exact ofF_args _ _ _ ls (cellsL_nat _) (fun x hx => by cases hx) h
      · cases h
theorem allT_args {ts : Tr} {pn cn : St} : ∀ (K : Nat) (ls : List Lnk), allT ts pn cn K = .ok ls → ∀ x ∈ ls, Arg32 x
  | 0, ls, h => by rw [allT] at h; injection h with h; subst h; exact fun x hx => by cases hx
  | K + 1, ls, h => by
    rw [allT] at h
    cases ha : allT ts pn cn K with
    | error e => rw [ha] at h; cases h
    | ok out =>
      rw [ha] at h
      dsimp only at h
      cases ho : ofT ts K pn cn with
      | error e => rw [ho] at h; cases h
      | ok l2 =>
        rw [ho] at h
        injection h with h
        subst h
        intro x hx
        rcases List.mem_append.1 hx with q | q
        · exact allT_args K out ha x q
        · exact ofT_args ho x q
def valN (ts : Tr) (p : Nat) (ls : List Lnk) (m : Nat) : St := valL ts (ofNode p (ls.take m))
theorem valN_step (ts : Tr) (p : Nat) (ls : List Lnk) (m : Nat) (h : m < ls.length) : valN ts p ls (m + 1) = if ls[m].node == (p : Int) then valN ts p ls m ++ pieceL ts ls[m] else valN ts p ls m := by
  unfold valN ofNode valL
  rw [List.take_succ_eq_append_getElem h, List.filter_append, List.filter_cons]
  split
  · simp
  · simp
theorem valN_end {ts : Tr} (hv : VT ts) {pn cn : St} {ls : List Lnk} (h : allT ts pn cn ts.length = .ok ls) {p : Nat} (hp : p < ts.length) : valN ts p ls ls.length = (valP (nd ts p).props pn).getD [] := by
  unfold valN
  rw [List.take_length]
  exact allT_val hv h hp
theorem valP_le {ts : Tr} (hv : VT ts) (k : Nat) (s : St) : ((valP (nd ts k).props s).getD []).length ≤ 256 := by
  cases e : valP (nd ts k).props s with
  | none => simp
  | some v =>
    rw [Option.getD_some]
    by_cases hk : k < ts.length
    · unfold valP at e
      cases e2 : (nd ts k).props.find? (fun p => p.name == s) with
      | none => rw [e2] at e; cases e
      | some q =>
        rw [e2] at e
        have hq : q.val = v := Option.some.inj e
        rw [← hq]
        exact hv.vals _ (by rw [nd_get hk]; exact List.getElem_mem hk) q (List.mem_of_find?_eq_some e2)
    · have : nd ts k = default := by unfold nd; rw [List.getD_eq_getElem?_getD, List.getElem?_eq_none (by omega)]; rfl
      rw [this] at e
      cases e
theorem piece_le {ts : Tr} (hv : VT ts) {x : Lnk} (hx : Arg32 x) : (pieceL ts x).length ≤ 288 := by
  unfold pieceL natL
  rw [List.length_append, cellsS_length, List.length_map]
  have h1 := valP_le hv x.prov.toNat phS
  have h2 := hx.2
  omega
theorem valN_le {ts : Tr} (hv : VT ts) {p : Nat} {ls : List Lnk} (hx : ∀ x ∈ ls, Arg32 x) : ∀ m, m ≤ ls.length → (valN ts p ls m).length ≤ m * 288
  | 0, _ => by simp [valN, ofNode, valL]
  | m + 1, h => by
    have ih := valN_le hv hx (p := p) m (by omega)
    rw [valN_step _ _ _ _ (by omega)]
    split
    · rw [List.length_append, Nat.succ_mul]
      exact Nat.add_le_add ih (piece_le hv (hx ls[m] (List.getElem_mem _)))
    · rw [Nat.succ_mul]
      exact Nat.le_trans ih (Nat.le_add_right _ _)
theorem natL_back : ∀ {l : List Int}, (∀ z ∈ l, 0 ≤ z ∧ z < 4294967296) → (natL l).map (fun n : Nat => (n : Int)) = l
  | [], _ => rfl
  | z :: l, h => by
    have ih := natL_back (l := l) (fun y hy => h y (List.mem_cons_of_mem _ hy))
    have hz := (h z (List.mem_cons_self ..)).1
    unfold natL at ih ⊢
    rw [List.map_cons, List.map_cons, ih, Int.toNat_of_nonneg hz]
theorem natL_lt {l : List Int} (h : ∀ z ∈ l, 0 ≤ z ∧ z < 4294967296) : ∀ n ∈ natL l, n < 4294967296 := fun n hn => by
  unfold natL at hn
  obtain ⟨z, hz, rfl⟩ := List.mem_map.1 hn
  have := h z hz
  omega
end Go.Proofs.YtdjhnfopdlgliaaGreat
