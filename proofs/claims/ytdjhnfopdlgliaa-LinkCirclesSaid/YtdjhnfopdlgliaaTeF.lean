/- tree.walked. -/
import Derived.Test.YtdjhnfopdlgliaaTeE
import Derived.Test.YtdjhnfopdlgliaaKd
set_option linter.unusedVariables false
set_option linter.unusedSimpArgs false
namespace Go.Proofs.Ytdjhnfopdlgliaa
open Go.RowKit
open Classical

/-! Rows of strings. -/
def strs (l : List St) : List Value := l.map (fun s => Value.string (bs s))
theorem strs_len (l : List St) : (strs l).length = l.length := by simp [strs]
theorem Row.sat {w : World} {B T : Nat} {l : List St} (h : Row w B T (strs l)) (k : Nat) (hk : k < l.length) : w.cell? ⟨B, k, none⟩ = some (.string (bs l[k])) := by
  rw [h.cell k (by simpa [strs] using hk)]; simp [strs]
theorem Row.sset {w : World} {B T : Nat} {l : List St} (h : Row w B T (strs l)) (k : Nat) (s : St) : Row (w.setCell ⟨B, k, none⟩ (.string (bs s))) B T (strs (l.set k s)) := by
  have e : strs (l.set k s) = (strs l).set k (.string (bs s)) := by simp [strs, List.map_set]
  rw [e]; exact h.set k _
theorem made_one (z : Value) (n : Nat) : (madeCells #[z] n).toList = List.replicate n z := by
  apply List.ext_getElem
  · simp [madeCells]
  · intro i h1 h2
    simp [madeCells, Nat.mod_one]
theorem infoStr : (Try.prog.info? 9).map (fun i => (i.zero, i.size, i.bytes)) = some (some (.string (bs [])), 1, 16) := by kernel_rfl

/-! Climbing. -/
def OkRoot (ts : Tr) : Prop := ∀ (h : 0 < ts.length), ts[0].parent = -1
theorem named_par {ts : Tr} (h : namedT ts = true) : OkPar ts := by
  intro i hi h0
  have := named_iff.1 h i hi
  rw [nodNm_eq, Bool.and_eq_true] at this
  have h1 : i ≠ 0 := by omega
  have := this.1
  simp [hdrN, h1] at this
  exact ⟨this.1.1, this.1.2⟩
theorem named_root {ts : Tr} (h : namedT ts = true) : OkRoot ts := by
  intro hi
  have := named_iff.1 h 0 hi
  rw [nodNm_eq, Bool.and_eq_true] at this
  have := this.1
  simp [hdrN] at this
  exact this.1
theorem par_lt {ts : Tr} (hp : OkPar ts) (hr : OkRoot ts) {u : Nat} (h : u < ts.length) : -1 ≤ ts[u].parent ∧ ts[u].parent < u := by
  by_cases h0 : u = 0
  · subst h0; have := hr h; omega
  · have := hp u h (by omega); omega
theorem climb_eq {ts : Tr} (hp : OkPar ts) (hr : OkRoot ts) (p : Int) : ∀ (f g : Nat) (u : Int), u + 1 ≤ f → u + 1 ≤ g → -1 ≤ u → u < ts.length → climb ts p f u = climb ts p g u := by
  intro f
  induction f with
  | zero =>
    intro g u h1 h2 h3 h4
    obtain rfl : u = -1 := by omega
    cases g <;> simp [climb]
  | succ f ih =>
    intro g u h1 h2 h3 h4
    by_cases h0 : u < 0
    · cases g with
      | zero => simp [climb, h0]
      | succ g => simp [climb, h0]
    · obtain ⟨g, rfl⟩ : ∃ g', g = g' + 1 := ⟨g - 1, by omega⟩
      obtain ⟨v, rfl⟩ : ∃ v : Nat, u = v := ⟨u.toNat, by omega⟩
      rw [climb, climb, if_neg h0, if_neg h0]
      by_cases h5 : (v : Int) = p
      · rw [if_pos h5, if_pos h5]
      · have := par_lt hp hr (u := v) (by omega)
        rw [if_neg h5, if_neg h5, par_get (by omega), ih g _ (by omega) (by omega) (by omega) (by omega)]
def clm (ts : Tr) (p : Int) (u : Int) : Int := climb ts p (u + 1).toNat u
theorem clm_neg (ts : Tr) (p : Int) {u : Int} (h : u < 0) : clm ts p u = u := by
  unfold clm
  have : (u + 1).toNat = 0 := by omega
  rw [this]; rfl
theorem clm_hit (ts : Tr) {p u : Int} (h : 0 ≤ u) (e : u = p) : clm ts p u = u := by
  unfold clm
  obtain ⟨f, hf⟩ : ∃ f, (u + 1).toNat = f + 1 := ⟨u.toNat, by omega⟩
  rw [hf, climb, if_neg (by omega), if_pos e]
theorem clm_go {ts : Tr} (hp : OkPar ts) (hr : OkRoot ts) {p : Int} {u : Nat} (h : u < ts.length) (e : (u : Int) ≠ p) : clm ts p u = clm ts p ts[u].parent := by
  have := par_lt hp hr h
  unfold clm
  have hf : ((u : Int) + 1).toNat = u + 1 := by omega
  rw [hf, climb, if_neg (by omega), if_neg e, par_get h]
  exact climb_eq hp hr p _ _ _ (by omega) (by omega) (by omega) (by omega)
theorem clm_at {ts : Tr} (p : Int) (i : Nat) : climb ts p i ((i : Int) - 1) = clm ts p ((i : Int) - 1) := by
  unfold clm
  have hf : ((i : Int) - 1 + 1).toNat = i := by omega
  rw [hf]
theorem asc_iff {ps : List Prp} : ascP ps = true ↔ ∀ j (h : j + 1 < ps.length), ltS ps[j].name ps[j + 1].name = true := by
  unfold ascP
  rw [List.all_eq_true]
  constructor
  · intro h j hj
    have := h j (List.mem_range.2 (by omega))
    rwa [List.getD_eq_getElem?_getD, List.getD_eq_getElem?_getD, List.getElem?_eq_getElem (by omega), List.getElem?_eq_getElem hj] at this
  · intro h j hj
    rw [List.mem_range] at hj
    rw [List.getD_eq_getElem?_getD, List.getD_eq_getElem?_getD, List.getElem?_eq_getElem (by omega), List.getElem?_eq_getElem (by omega)]
    exact h j (by omega)
theorem walkN_asc {ts : Tr} {i : Nat} {last : List St} (h : i < ts.length) (hw : walkN ts i = some last) (q : ascP ts[i].props = false) : walkN ts (i + 1) = none := by
  rw [walkN, hw]
  simp only [List.getD_eq_getElem?_getD, List.getElem?_eq_getElem h, Option.getD_some, q]
  rfl
theorem walkN_zero {ts : Tr} {last : List St} (h : 0 < ts.length) (hw : walkN ts 0 = some last) (q : ascP ts[0].props = true) : walkN ts (0 + 1) = some last := by
  rw [walkN, hw]
  simp only [List.getD_eq_getElem?_getD, List.getElem?_eq_getElem h, Option.getD_some, q]
  rfl
theorem walkN_neg {ts : Tr} {i : Nat} {last : List St} (h : i < ts.length) (h0 : 0 < i) (hw : walkN ts i = some last) (q : ascP ts[i].props = true) (hn : clm ts ts[i].parent ((i : Int) - 1) < 0) : walkN ts (i + 1) = none := by
  rw [walkN, hw]
  simp only [List.getD_eq_getElem?_getD, List.getElem?_eq_getElem h, Option.getD_some, q, if_true, clm_at]
  rw [if_neg (by omega), if_pos hn]
theorem walkN_low {ts : Tr} {i u : Nat} {last : List St} (h : i < ts.length) (h0 : 0 < i) (hw : walkN ts i = some last) (q : ascP ts[i].props = true) (hn : clm ts ts[i].parent ((i : Int) - 1) = u) (hu : u < last.length) (hl : ltS ts[i].name last[u] = true) : walkN ts (i + 1) = none := by
  rw [walkN, hw]
  simp only [List.getD_eq_getElem?_getD, List.getElem?_eq_getElem h, Option.getD_some, q, if_true, clm_at, hn, Int.toNat_natCast, List.getElem?_eq_getElem hu, hl]
  rw [if_neg (by omega), if_neg (by omega)]
theorem walkN_set {ts : Tr} {i u : Nat} {last : List St} (h : i < ts.length) (h0 : 0 < i) (hw : walkN ts i = some last) (q : ascP ts[i].props = true) (hn : clm ts ts[i].parent ((i : Int) - 1) = u) (hu : u < last.length) (hl : ltS ts[i].name last[u] = false) : walkN ts (i + 1) = some (last.set u ts[i].name) := by
  rw [walkN, hw]
  simp only [List.getD_eq_getElem?_getD, List.getElem?_eq_getElem h, Option.getD_some, q, if_true, clm_at, hn, Int.toNat_natCast, List.getElem?_eq_getElem hu, hl]
  rw [if_neg (by omega), if_neg (by omega)]
  rfl
theorem walkN_none {ts : Tr} : ∀ {i k : Nat}, i ≤ k → walkN ts i = none → walkN ts k = none := by
  intro i k h
  induction h with
  | refl => exact id
  | step _ ih => intro q; rw [walkN, ih q]
theorem walk_no {ts : Tr} {i : Nat} (h : i < ts.length) (q : walkN ts (i + 1) = none) : false = (walkN ts ts.length).isSome := by
  rw [walkN_none (by omega) q]; rfl
set_option maxRecDepth 100000 in
set_option maxHeartbeats 4000000 in
theorem walked_any (ts : Tr) (a : Option Addr) (cap : Nat) (w : World) (h : SlOf 3 RNod w a ts) (hf : ts.length ≤ 1000000) (hp : OkPar ts) (hr : OkRoot ts) :
    Calls Try.prog 32 #[.agg #[.slice a ts.length cap]] w (Grows w (.bool (walkN ts ts.length).isSome)) := by
  have H := Lib.hid h
  have HP := Lib.hid hp
  have HR := Lib.hid hr
  have hmk := run_make_row' (P := Try.prog) 84 9 (.string (bs [])) 16 Try.underlying84 infoStr rfl .i64 .i64 ts.length (by omega) (by omega)
  clear h hp hr
  go_enter Try.func32, Try.ntmps32
  go_wp2_with fail
  have RB := Lib.hid (Row.new w #[.slice a ts.length cap] 32)
  obtain ⟨W1, hW1⟩ : ∃ W : World, Hid (W = w.alloc (.cells #[.slice a ts.length cap] 32)) := ⟨_, Lib.hid rfl⟩
  have z1 : Hid (W1.heap.size = w.heap.size + 1) := Lib.hid (by rw [hW1.out]; simp)
  rw [← hW1.out] at RB
  have G1 : Hid (Gr w W1) := Lib.hid (by rw [hW1.out]; exact (Gr.refl _).alloc _)
  have RL := Lib.hid (Row.new W1 (madeCells #[.string (bs [])] ts.length) 9)
  obtain ⟨W2, hW2⟩ : ∃ W : World, Hid (W = W1.alloc (.cells (madeCells #[.string (bs [])] ts.length) 9)) := ⟨_, Lib.hid rfl⟩
  rw [← hW2.out, made_one, z1.out, show List.replicate ts.length (Value.string (bs [])) = strs (List.replicate ts.length []) by simp [strs]] at RL
  have G2 : Hid (Gr W1 W2) := Lib.hid (by rw [hW2.out]; exact (Gr.refl _).alloc _)
  have RB2 := Lib.hid (RB.out.gr G2.out)
  rw [← hW1.out, ← hW2.out]
  have G3 := Lib.hid (G1.out.trans G2.out)
  obtain ⟨SB, hSB⟩ : ∃ N : Nat, Hid (w.heap.size + 1 = N) := ⟨_, Lib.hid rfl⟩
  obtain ⟨P0, hP0⟩ : ∃ N : Nat, Hid (w.heap.size = N) := ⟨_, Lib.hid rfl⟩
  rw [hSB.out] at RL
  rw [hSB.out, hP0.out]
  rw [hP0.out] at RB2
  have sb := Lib.hid (show w.heap.size ≤ SB by have := hSB.out; omega)
  have pb := Lib.hid (show SB ≠ P0 by have := hSB.out; have := hP0.out; omega)
  clear RB G1 G2 z1 hW1 hW2 hSB hP0
  go_loopw [15] (fun i wr => ∃ k : Nat, ∃ last : List St, k ≤ ts.length ∧ i = .int .i64 k ∧ walkN ts k = some last ∧ last.length = ts.length ∧ Row wr SB 9 (strs last) ∧ Row wr P0 32 [.slice a ts.length cap] ∧ Gr w wr) (fun i _ => ts.length - (intOf i).toNat)
  case atStart => exact ⟨0, _, Nat.zero_le _, rfl, rfl, by simp, RL.out, RB2.out, G3.out⟩
  case round =>
    obtain ⟨k, last, hk, rfl, hwn, hll, hrl, hrb, hg⟩ := hrel
    have HW := Lib.hid hwn
    have HL := Lib.hid hll
    have HRL := Lib.hid hrl
    have HRB := Lib.hid hrb
    have HG := Lib.hid hg
    clear hwn hll hrl hrb hg
    by_cases hlt : k < ts.length
    · obtain ⟨b, o, pa, pc, rfl, c0, c1, c2, hps, hpf, hw, hnl⟩ := nods_at (H.out.gr RNod.mono HG.out) k hlt
      obtain ⟨n, hn⟩ : ∃ n, n = ts[k] := ⟨_, rfl⟩
      have HN := Lib.hid hn
      rw [← hn] at c0 c1 c2 hps hpf hw hnl
      clear hn
      have hh := has_of_cell c0
      have HPS := Lib.hid hps
      unfold Fit at hpf
      clear hps
      go_wp2_with fail
      have RX := Lib.hid (Row.new wr #[.int .i64 n.parent, .string (bs n.name), .slice pa n.props.length pc] 26)
      obtain ⟨E, hE⟩ : ∃ W : World, Hid (W = wr.alloc (.cells #[.int .i64 n.parent, .string (bs n.name), .slice pa n.props.length pc] 26)) := ⟨_, Lib.hid rfl⟩
      have GE : Hid (Gr wr E) := Lib.hid (by rw [hE.out]; exact (Gr.refl _).alloc _)
      rw [← hE.out] at RX ⊢
      obtain ⟨NX, hNX⟩ : ∃ N : Nat, Hid (wr.heap.size = N) := ⟨_, Lib.hid rfl⟩
      rw [hNX.out] at RX ⊢
      clear hE hNX c0 c1 c2 hh
      have HE := Lib.hid (HG.out.trans GE.out)
      have HRLE := Lib.hid (HRL.out.gr GE.out)
      have HRBE := Lib.hid (HRB.out.gr GE.out)
      have HPE := Lib.hid (HPS.out.gr RPrp.mono GE.out)
      clear HRL HRB GE HG HPS
      go_loopw [6] (fun i wr => ∃ m : Nat, 1 ≤ m ∧ (m = 1 ∨ m ≤ n.props.length) ∧ i = .int .i64 m ∧ (∀ j (hj : j + 1 < m) (hjl : j + 1 < n.props.length), ltS n.props[j].name n.props[j + 1].name = true) ∧ Gr E wr) (fun i _ => n.props.length - (intOf i).toNat)
      case atStart => exact ⟨1, by omega, .inl rfl, rfl, fun j h => absurd h (by omega), Gr.refl _⟩
      case round =>
        obtain ⟨m, hm1, hm, rfl, hal, hg⟩ := hrel
        have HB := Lib.hid hal
        have HJ := Lib.hid hg
        have RX2 := RX.out.gr hg
        have c0 : wr.cell? ⟨NX, 0, none⟩ = some (.int .i64 n.parent) := RX2.cell 0 (by simp)
        have c1 : wr.cell? ⟨NX, 1, none⟩ = some (.string (bs n.name)) := RX2.cell 1 (by simp)
        have c2 : wr.cell? ⟨NX, 2, none⟩ = some (.slice pa n.props.length pc) := RX2.cell 2 (by simp)
        clear hal hg RX2
        by_cases hml : m < n.props.length
        · obtain ⟨b2, o2, rfl, d0, d1, l0, l1⟩ := prps_at (HPE.out.gr RPrp.mono HJ.out) m hml
          obtain ⟨b3, o3, e3, f0, f1, l2, l3⟩ := prps_at (HPE.out.gr RPrp.mono HJ.out) (m - 1) (by omega)
          cases e3
          have hh2 := has_of_cell d0
          have hi : (1 : Int) ≤ m := by omega
          clear hm
          by_cases hv : ltS (n.props[m - 1]'(by omega)).name n.props[m].name = true
          · have hv' : Op.bytesLess (n.props[m - 1]'(by omega)).name n.props[m].name = true := hv
            have V := Lib.hid hv
            clear hv d1 f1
            go_wp2_with fail
            go_quiet (fail)
            go_wp2_with fail
            go_roundw
            case rel =>
              refine ⟨m + 1, by omega, .inr (by omega), by go_num, fun j hj hjl => ?_, HJ.out.drewN _⟩
              by_cases e : j = m - 1
              · subst e
                have := V.out
                have e2 : m - 1 + 1 = m := by omega
                simpa only [e2] using this
              · exact HB.out j (by omega) hjl
            case measure => simp [intOf]; omega
          · have hv' : Op.bytesLess (n.props[m - 1]'(by omega)).name n.props[m].name = false := by rwa [Bool.not_eq_true] at hv
            have V := Lib.hid hv
            clear hv d1 f1
            go_wp2_with fail
            go_quiet (fail)
            go_wp2_with fail
            go_ret
            refine ⟨ret_bool (walk_no hlt (walkN_asc hlt HW.out ?_)), (HE.out.trans HJ.out).drewN _⟩
            rw [← HN.out, ← Bool.not_eq_true, asc_iff]
            intro q
            have := q (m - 1) (by omega)
            have e2 : m - 1 + 1 = m := by omega
            simp only [e2] at this
            exact V.out this
        · have AS : Hid (ascP ts[k].props = true) := Lib.hid (asc_iff.2 (by rw [← HN.out]; intro j hj; exact HB.out j (by omega) hj))
          have HRL2 := Lib.hid (HRLE.out.gr HJ.out)
          have HRB2 := Lib.hid (HRBE.out.gr HJ.out)
          have HE2 := Lib.hid (HE.out.trans HJ.out)
          clear hm1 hm HB
          by_cases k0 : k = 0
          · have kb : ((k : Int) == 0) = true := by simp [k0]
            have K0 := Lib.hid k0
            clear k0
            go_wp2_with fail
            go_roundw
            case rel =>
              refine ⟨k + 1, last, by omega, by go_num, ?_, HL.out, HRL2.out, HRB2.out, HE2.out⟩
              have := K0.out
              subst this
              exact walkN_zero hlt HW.out AS.out
            case measure => simp [intOf]; omega
          · have kb : ((k : Int) == 0) = false := by simp [k0]
            have K0 := Lib.hid (show 0 < k by omega)
            have hi1 : (1 : Int) ≤ k := by omega
            have b0 : wr.cell? ⟨P0, 0, none⟩ = some (.slice (some ⟨b, o, none⟩) ts.length cap) := HRB2.out.cell 0 (by simp)
            clear k0
            go_wp2_with fail
            go_loop [7] (fun u => ∃ x : Int, u = .int .i64 x ∧ -1 ≤ x ∧ x < k ∧ clm ts n.parent x = clm ts n.parent ((k : Int) - 1)) (fun u => (intOf u + 1).toNat)
            case atStart => exact ⟨(k : Int) - 1, by go_num, by omega, by omega, rfl⟩
            case round =>
              obtain ⟨x, rfl, hx1, hxk, hcx⟩ := hrel
              have CX := Lib.hid hcx
              clear hcx
              by_cases hx : x < 0
              · have hb : decide (0 ≤ x) = false := by simp; omega
                have hb2 : decide (x < 0) = true := by simp; omega
                have CL : Hid (clm ts n.parent ((k : Int) - 1) < 0) := Lib.hid (by rw [← CX.out, clm_neg _ _ hx]; exact hx)
                clear CX
                go_wp2_with fail
                go_quiet (fail)
                go_wp2_with fail
                go_ret
                exact ⟨ret_bool (walk_no hlt (walkN_neg hlt K0.out HW.out AS.out (by rw [← HN.out]; exact CL.out))), HE2.out.drewN _⟩
              · have hb : decide (0 ≤ x) = true := by simp; omega
                have hb2 : decide (x < 0) = false := by simp; omega
                obtain ⟨u, rfl⟩ : ∃ u : Nat, x = u := ⟨x.toNat, by omega⟩
                have huk : u < k := by omega
                have hul : u < ts.length := by omega
                by_cases hu : (u : Int) = n.parent
                · have CL : Hid (clm ts ts[k].parent ((k : Int) - 1) = u) := Lib.hid (by rw [← HN.out, ← CX.out, clm_hit _ (by omega) hu])
                  have hub : ((u : Int) == n.parent) = true := by simp [hu]
                  have hub2 : ((u : Int) != n.parent) = false := by simp [hu]
                  have hlu : u < last.length := by rw [HL.out]; exact hul
                  have s0 := HRL2.out.sat u hlu
                  have sf := HRL2.out.free u
                  have sh := HRL2.out.has
                  obtain ⟨z, hz⟩ : ∃ z, last[u] = z := ⟨_, rfl⟩
                  rw [hz] at s0
                  have HZ := Lib.hid hz
                  have HU := Lib.hid hu
                  have hll2 : u < ts.length := hul
                  clear hz hu CX hx hb hx1
                  by_cases hv : Op.bytesLess n.name z = true
                  · go_wp2_with fail
                    go_quiet (fail)
                    go_wp2_with fail
                    go_ret
                    exact ⟨ret_bool (walk_no hlt (walkN_low hlt K0.out HW.out AS.out CL.out hlu (by rw [← HN.out, HZ.out]; exact hv))), HE2.out.drewN _⟩
                  · rw [Bool.not_eq_true] at hv
                    go_wp2_with fail
                    go_quiet (fail)
                    go_wp2_with fail
                    go_roundw
                    case rel =>
                      refine ⟨k + 1, last.set u n.name, by omega, by go_num, ?_, by rw [List.length_set]; exact HL.out, ?_, ?_, ?_⟩
                      · have := walkN_set hlt K0.out HW.out AS.out CL.out hlu (by rw [← HN.out, HZ.out]; exact hv)
                        rw [this, HN.out]
                      · exact (HRL2.out.drewN _).sset u n.name
                      · exact (HRB2.out.drewN _).oth pb.out
                      · exact (HE2.out.drewN _).setc sb.out
                    case measure => simp [intOf]; omega
                · have hub : ((u : Int) == n.parent) = false := by simp [hu]
                  have hub2 : ((u : Int) != n.parent) = true := by simp [hu]
                  have PL := par_lt HP.out HR.out hul
                  have CL : Hid (clm ts n.parent ts[u].parent = clm ts n.parent ((k : Int) - 1)) := Lib.hid (by rw [← clm_go HP.out HR.out hul hu]; exact CX.out)
                  obtain ⟨b4, o4, pa4, pc4, e4, g0, _⟩ := nods_at ((H.out.gr RNod.mono HE2.out)) u hul
                  cases e4
                  obtain ⟨q, hq⟩ : ∃ q, ts[u].parent = q := ⟨_, rfl⟩
                  rw [hq] at g0
                  have HQ := Lib.hid hq
                  rw [hq] at PL CL
                  have hh4 := has_of_cell g0
                  clear hq hu CX
                  go_wp2_with fail
                  go_round
                  case rel => exact ⟨q, rfl, by omega, by omega, CL.out⟩
                  case measure => simp [intOf]; omega
    · have hk' : k = ts.length := by omega
      go_wp2_with fail
      go_ret
      exact ⟨ret_bool (by rw [← hk', HW.out]; rfl), HG.out⟩
end Go.Proofs.Ytdjhnfopdlgliaa
