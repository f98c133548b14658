/- Lemmas and contracts for the proof of PrintDiffers (several texts in one, printed by wip/tools/pack.py): TeE TeF TeG TeH TeI. -/
import Derived.Test.YtgembejpiecfcaaGreatDoorPd1pe
import Derived.Test.YtgembejpiecfcaaGreatDoorPd1pc
import Derived.Maps.Keyed
import Derived.DeepKeys4
import Derived.Maps.OwnOps
import Derived.Test.YtgembejpiecfcaaGreatDoorPd1pb
set_option maxRecDepth 100000
set_option maxHeartbeats 16000000
set_option linter.unusedVariables false
set_option linter.unusedSimpArgs false
namespace Go.Proofs.YtgembejpiecfcaaGreatDoor
open Go.RowKit
open Classical
def hdrN (i : Nat) (n : Nod) : Bool := if i = 0 then decide (n.parent = -1) && decide (n.name = []) else decide (0 ≤ n.parent) && decide (n.parent < i) && nameOk n.name
theorem nodNm_eq (i : Nat) (n : Nod) : nodNm i n = (hdrN i n && n.props.all (fun p => propOk p.name)) := rfl
theorem named_iff {ts : Tr} : namedT ts = true ↔ ∀ j (h : j < ts.length), nodNm j ts[j] = true := by
  unfold namedT
  rw [List.all_eq_true]
  constructor
  · intro h j hj
    have := h j (List.mem_range.2 hj)
    rwa [List.getD_eq_getElem?_getD, List.getElem?_eq_getElem hj] at this
  · intro h j hj
    rw [List.mem_range] at hj
    rw [List.getD_eq_getElem?_getD, List.getElem?_eq_getElem hj]
    exact h j hj
theorem named_false {ts : Tr} {k : Nat} (h : k < ts.length) (q : nodNm k ts[k] = false) : false = namedT ts := by
  symm; rw [← Bool.not_eq_true, named_iff]; intro h'; rw [h' k h] at q; cases q
theorem named_hdr {ts : Tr} {k : Nat} (h : k < ts.length) (q : hdrN k ts[k] = false) : false = namedT ts := named_false h (by rw [nodNm_eq, q]; rfl)
theorem named_prp {ts : Tr} {k : Nat} (h : k < ts.length) {m : Nat} (hm : m < ts[k].props.length) (q : propOk ts[k].props[m].name = false) : false = namedT ts :=
  named_false h (by rw [nodNm_eq, Bool.and_eq_false_iff]; right; rw [List.all_eq_false]; exact ⟨_, List.getElem_mem hm, by simp [q]⟩)
theorem named_any (ts : Tr) (a : Option Addr) (cap : Nat) (w : World) (h : SlOf 3 RNod w a ts) (hf : ts.length ≤ 1000000) :
    Calls Tryz.prog 83 #[.agg #[.slice a ts.length cap]] w (Grows w (.bool (namedT ts))) := by
  have H := Lib.hid h
  clear h
  go_enter Tryz.func83, Tryz.ntmps83
  go_wp2_with fail
  go_loopw [10] (fun i wr => ∃ k : Nat, k ≤ ts.length ∧ i = .int .i64 k ∧ (∀ j (hj : j < k) (hjl : j < ts.length), nodNm j ts[j] = true) ∧ Gr w wr) (fun i _ => ts.length - (intOf i).toNat)
  case atStart => exact ⟨0, Nat.zero_le _, rfl, fun j h => absurd h (by omega), (Gr.refl _).alloc _⟩
  case round =>
    obtain ⟨k, hk, rfl, hall, hg⟩ := hrel
    have HA := Lib.hid hall
    have HG := Lib.hid hg
    clear hall hg
    by_cases hlt : k < ts.length
    · obtain ⟨b, o, pa, pc, rfl, c0, c1, c2, hps, hpf, hw, hnl⟩ := nods_at (H.out.gr RNod.mono HG.out) k hlt
      obtain ⟨n, hn⟩ : ∃ n, n = ts[k] := ⟨_, rfl⟩
      have HN := Lib.hid hn
      rw [← hn] at c0 c1 c2 hps hpf hw hnl
      clear hn
      have hh := has_of_cell c0
      by_cases hq : hdrN k n = true
      · have HPS := Lib.hid hps
        have HQ := Lib.hid hq
        unfold Fit at hpf
        clear hps
        by_cases k0 : k = 0
        case' pos =>
          have hq1 : n.parent = -1 ∧ n.name = [] := by simpa [hdrN, k0] using hq
          have kb : ((k : Int) == 0) = true := by simp [k0]
          have kg : decide (0 < k) = false := by simp [k0]
          have K0 := Lib.hid k0
          clear k0
          rw [hq1.1] at c0
          rw [hq1.2] at c1
          clear hq hq1
          go_wp2_with fail
        case' neg =>
          have hq1 : 0 ≤ n.parent ∧ n.parent < k ∧ nameOk n.name = true := by simpa [hdrN, k0, and_assoc] using hq
          have kb : ((k : Int) == 0) = false := by simp [k0]
          have kg : decide (0 < k) = true := by simp; omega
          have p0 : decide (n.parent < 0) = false := by simp; omega
          have p1 : decide ((k : Int) ≤ n.parent) = false := by simp; omega
          have p2 := hq1.2.2
          have K0 := Lib.hid k0
          clear k0 hq1 hq
          go_wp2_with (go_at_call 133; refine (tokenName_any _ _).mono ?_; rintro e w' ⟨rfl, rfl⟩)
        all_goals
          obtain ⟨w5, hw5⟩ : ∃ wo, wo = wr := ⟨_, rfl⟩
          rw [← hw5] at HG HPS
          go_loopw [51] (fun i wr => ∃ m : Nat, m ≤ n.props.length ∧ i = .int .i64 m ∧ (∀ j (hj : j < m) (hjl : j < n.props.length), propOk n.props[j].name = true) ∧ Gr w5 wr) (fun i _ => n.props.length - (intOf i).toNat)
          case atStart => exact ⟨0, Nat.zero_le _, rfl, fun j h => absurd h (by omega), by rw [hw5]; exact (Gr.refl _).alloc _⟩
          case round =>
            clear hw5
            obtain ⟨m, hm, rfl, hal, hg⟩ := hrel
            have HB := Lib.hid hal
            have HJ := Lib.hid hg
            clear hal hg
            by_cases hml : m < n.props.length
            · obtain ⟨b2, o2, rfl, d0, d1, l0, l1⟩ := prps_at (HPS.out.gr RPrp.mono HJ.out) m hml
              have hh2 := has_of_cell d0
              by_cases hv : propOk n.props[m].name = true
              · go_wp2_with (go_at_call 134; refine (tokenProp_any _ _ l0).mono ?_; rintro e w' ⟨rfl, rfl⟩)
                go_roundw
                case rel =>
                  refine ⟨m + 1, by omega, by go_num, fun j hj hjl => ?_, HJ.out.alloc _⟩
                  by_cases e : j = m
                  · subst e; exact hv
                  · exact HB.out j (by omega) hjl
                case measure => simp [intOf]; omega
              · rw [Bool.not_eq_true] at hv
                go_wp2_with (go_at_call 134; refine (tokenProp_any _ _ l0).mono ?_; rintro e w' ⟨rfl, rfl⟩)
                go_ret
                exact ⟨ret_bool (by have := HN.out; subst this; exact named_prp hlt hml hv), (HG.out.trans HJ.out).alloc _⟩
            · go_wp2_with fail
              go_roundw
              case rel =>
                refine ⟨k + 1, by omega, by go_num, fun j hj hjl => ?_, HG.out.trans HJ.out⟩
                by_cases e : j = k
                · subst e
                  rw [← HN.out, nodNm_eq, HQ.out, Bool.true_and, List.all_eq_true]
                  intro x hx
                  obtain ⟨j, hj, rfl⟩ := List.getElem_of_mem hx
                  exact HB.out j (by omega) hj
                · exact HA.out j (by omega) hjl
              case measure => simp [intOf]; omega
      · rw [Bool.not_eq_true] at hq
        have F : Hid (false = namedT ts) := Lib.hid (named_hdr hlt (by rw [← HN.out]; exact hq))
        by_cases k0 : k = 0
        · have hq1 : n.parent = -1 → ¬ n.name = [] := by simpa [hdrN, k0] using hq
          have kb : ((k : Int) == 0) = true := by simp [k0]
          have K0 := Lib.hid k0
          by_cases hpar : n.parent = -1
          · have hne : n.name.isEmpty = false := by have := hq1 hpar; cases hz : n.name with | nil => exact absurd hz this | cons => rfl
            rw [hpar] at c0
            clear k0 hq hq1 hpar hps
            go_wp2_with fail
            go_ret
            exact ⟨ret_bool F.out, HG.out.alloc _⟩
          · have hpb : (n.parent == -1) = false := by simp [hpar]
            clear k0 hq hq1 hps
            go_wp2_with fail
            go_ret
            exact ⟨ret_bool F.out, HG.out.alloc _⟩
        · have hq1 : 0 ≤ n.parent → n.parent < k → nameOk n.name = false := by simpa [hdrN, k0] using hq
          have kb : ((k : Int) == 0) = false := by simp [k0]
          have kg : decide (0 < k) = true := by simp; omega
          clear hq
          by_cases q0 : n.parent < 0
          · have p0 : decide (n.parent < 0) = true := by simp; omega
            clear hps q0 k0
            go_wp2_with fail
            go_ret
            exact ⟨ret_bool F.out, HG.out.alloc _⟩
          · have p0 : decide (n.parent < 0) = false := by simp; omega
            by_cases q1 : (k : Int) ≤ n.parent
            · have p1 : decide ((k : Int) ≤ n.parent) = true := by simp; omega
              clear hps q0 q1 k0
              go_wp2_with fail
              go_ret
              exact ⟨ret_bool F.out, HG.out.alloc _⟩
            · have p1 : decide ((k : Int) ≤ n.parent) = false := by simp; omega
              have p2 := hq1 (by omega) (by omega)
              clear hps q0 q1 k0 hq1
              go_wp2_with (go_at_call 133; refine (tokenName_any _ _).mono ?_; rintro e w' ⟨rfl, rfl⟩)
              go_ret
              exact ⟨ret_bool F.out, HG.out.alloc _⟩
    · go_wp2_with fail
      go_ret
      exact ⟨ret_bool (named_iff.2 fun j hj => HA.out j (by omega) hj).symm, HG.out⟩
/-! Rows of strings. -/
def strs (l : List St) : List Value := l.map (fun s => Value.string (bs s))
theorem Row.sat {w : World} {B T : Nat} {l : List St} (h : Row w B T (strs l)) (k : Nat) (hk : k < l.length) : w.cell? ⟨B, k, none⟩ = some (.string (bs l[k])) := by
  rw [h.cell k (by simpa [strs] using hk)]; simp [strs]
theorem Row.sset {w : World} {B T : Nat} {l : List St} (h : Row w B T (strs l)) (k : Nat) (s : St) : Row (w.setCell ⟨B, k, none⟩ (.string (bs s))) B T (strs (l.set k s)) := by
  have e : strs (l.set k s) = (strs l).set k (.string (bs s)) := by simp [strs, List.map_set]
  rw [e]; exact h.set k _
theorem made_one (z : Value) (n : Nat) : (madeCells #[z] n).toList = List.replicate n z := by
  apply List.ext_getElem
  · simp [madeCells]
  · intro i h1 h2
    simp [madeCells, Nat.mod_one]
theorem infoStr : (Tryz.prog.info? 9).map (fun i => (i.zero, i.size, i.bytes)) = some (some (.string (bs [])), 1, 16) := by kernel_rfl
/-! Climbing. -/
def OkRoot (ts : Tr) : Prop := ∀ (h : 0 < ts.length), ts[0].parent = -1
theorem named_par {ts : Tr} (h : namedT ts = true) : OkPar ts := by
  intro i hi h0
  have := named_iff.1 h i hi
  rw [nodNm_eq, Bool.and_eq_true] at this
  have h1 : i ≠ 0 := by omega
  have := this.1
  simp [hdrN, h1] at this
  exact ⟨this.1.1, this.1.2⟩
theorem named_root {ts : Tr} (h : namedT ts = true) : OkRoot ts := by
  intro hi
  have := named_iff.1 h 0 hi
  rw [nodNm_eq, Bool.and_eq_true] at this
  have := this.1
  simp [hdrN] at this
  exact this.1
theorem par_lt {ts : Tr} (hp : OkPar ts) (hr : OkRoot ts) {u : Nat} (h : u < ts.length) : -1 ≤ ts[u].parent ∧ ts[u].parent < u := by
  by_cases h0 : u = 0
  · subst h0; have := hr h; omega
  · have := hp u h (by omega); omega
theorem climb_eq {ts : Tr} (hp : OkPar ts) (hr : OkRoot ts) (p : Int) : ∀ (f g : Nat) (u : Int), u + 1 ≤ f → u + 1 ≤ g → -1 ≤ u → u < ts.length → climb ts p f u = climb ts p g u := by
  intro f
  induction f with
  | zero =>
    intro g u h1 h2 h3 h4
    obtain rfl : u = -1 := by omega
    cases g <;> simp [climb]
  | succ f ih =>
    intro g u h1 h2 h3 h4
    by_cases h0 : u < 0
    · cases g with
      | zero => simp [climb, h0]
      | succ g => simp [climb, h0]
    · obtain ⟨g, rfl⟩ : ∃ g', g = g' + 1 := ⟨g - 1, by omega⟩
      obtain ⟨v, rfl⟩ : ∃ v : Nat, u = v := ⟨u.toNat, by omega⟩
      rw [climb, climb, if_neg h0, if_neg h0]
      by_cases h5 : (v : Int) = p
      · rw [if_pos h5, if_pos h5]
      · have := par_lt hp hr (u := v) (by omega)
        rw [if_neg h5, if_neg h5, par_get (by omega), ih g _ (by omega) (by omega) (by omega) (by omega)]
def clm (ts : Tr) (p : Int) (u : Int) : Int := climb ts p (u + 1).toNat u
theorem clm_neg (ts : Tr) (p : Int) {u : Int} (h : u < 0) : clm ts p u = u := by
  unfold clm
  have : (u + 1).toNat = 0 := by omega
  rw [this]; rfl
theorem clm_hit (ts : Tr) {p u : Int} (h : 0 ≤ u) (e : u = p) : clm ts p u = u := by
  unfold clm
  obtain ⟨f, hf⟩ : ∃ f, (u + 1).toNat = f + 1 := ⟨u.toNat, by omega⟩
  rw [hf, climb, if_neg (by omega), if_pos e]
theorem clm_go {ts : Tr} (hp : OkPar ts) (hr : OkRoot ts) {p : Int} {u : Nat} (h : u < ts.length) (e : (u : Int) ≠ p) : clm ts p u = clm ts p ts[u].parent := by
  have := par_lt hp hr h
  unfold clm
  have hf : ((u : Int) + 1).toNat = u + 1 := by omega
  rw [hf, climb, if_neg (by omega), if_neg e, par_get h]
  exact climb_eq hp hr p _ _ _ (by omega) (by omega) (by omega) (by omega)
theorem clm_at {ts : Tr} (p : Int) (i : Nat) : climb ts p i ((i : Int) - 1) = clm ts p ((i : Int) - 1) := by
  unfold clm
  have hf : ((i : Int) - 1 + 1).toNat = i := by omega
  rw [hf]
theorem asc_iff {ps : List Prp} : ascP ps = true ↔ ∀ j (h : j + 1 < ps.length), ltS ps[j].name ps[j + 1].name = true := by
  unfold ascP
  rw [List.all_eq_true]
  constructor
  · intro h j hj
    have := h j (List.mem_range.2 (by omega))
    rwa [List.getD_eq_getElem?_getD, List.getD_eq_getElem?_getD, List.getElem?_eq_getElem (by omega), List.getElem?_eq_getElem hj] at this
  · intro h j hj
    rw [List.mem_range] at hj
    rw [List.getD_eq_getElem?_getD, List.getD_eq_getElem?_getD, List.getElem?_eq_getElem (by omega), List.getElem?_eq_getElem (by omega)]
    exact h j (by omega)
theorem walkN_asc {ts : Tr} {i : Nat} {last : List St} (h : i < ts.length) (hw : walkN ts i = some last) (q : ascP ts[i].props = false) : walkN ts (i + 1) = none := by
  rw [walkN, hw]
  simp only [List.getD_eq_getElem?_getD, List.getElem?_eq_getElem h, Option.getD_some, q]
  rfl
theorem walkN_zero {ts : Tr} {last : List St} (h : 0 < ts.length) (hw : walkN ts 0 = some last) (q : ascP ts[0].props = true) : walkN ts (0 + 1) = some last := by
  rw [walkN, hw]
  simp only [List.getD_eq_getElem?_getD, List.getElem?_eq_getElem h, Option.getD_some, q]
  rfl
theorem walkN_neg {ts : Tr} {i : Nat} {last : List St} (h : i < ts.length) (h0 : 0 < i) (hw : walkN ts i = some last) (q : ascP ts[i].props = true) (hn : clm ts ts[i].parent ((i : Int) - 1) < 0) : walkN ts (i + 1) = none := by
  rw [walkN, hw]
  simp only [List.getD_eq_getElem?_getD, List.getElem?_eq_getElem h, Option.getD_some, q, if_true, clm_at]
  rw [if_neg (by omega), if_pos hn]
theorem walkN_low {ts : Tr} {i u : Nat} {last : List St} (h : i < ts.length) (h0 : 0 < i) (hw : walkN ts i = some last) (q : ascP ts[i].props = true) (hn : clm ts ts[i].parent ((i : Int) - 1) = u) (hu : u < last.length) (hl : ltS ts[i].name last[u] = true) : walkN ts (i + 1) = none := by
  rw [walkN, hw]
  simp only [List.getD_eq_getElem?_getD, List.getElem?_eq_getElem h, Option.getD_some, q, if_true, clm_at, hn, Int.toNat_natCast, List.getElem?_eq_getElem hu, hl]
  rw [if_neg (by omega), if_neg (by omega)]
theorem walkN_set {ts : Tr} {i u : Nat} {last : List St} (h : i < ts.length) (h0 : 0 < i) (hw : walkN ts i = some last) (q : ascP ts[i].props = true) (hn : clm ts ts[i].parent ((i : Int) - 1) = u) (hu : u < last.length) (hl : ltS ts[i].name last[u] = false) : walkN ts (i + 1) = some (last.set u ts[i].name) := by
  rw [walkN, hw]
  simp only [List.getD_eq_getElem?_getD, List.getElem?_eq_getElem h, Option.getD_some, q, if_true, clm_at, hn, Int.toNat_natCast, List.getElem?_eq_getElem hu, hl]
  rw [if_neg (by omega), if_neg (by omega)]
  rfl
theorem walkN_none {ts : Tr} : ∀ {i k : Nat}, i ≤ k → walkN ts i = none → walkN ts k = none := by
  intro i k h
  induction h with
  | refl => exact id
  | step _ ih => intro q; rw [walkN, ih q]
theorem walk_no {ts : Tr} {i : Nat} (h : i < ts.length) (q : walkN ts (i + 1) = none) : false = (walkN ts ts.length).isSome := by
  rw [walkN_none (by omega) q]; rfl
theorem walked_any (ts : Tr) (a : Option Addr) (cap : Nat) (w : World) (h : SlOf 3 RNod w a ts) (hf : ts.length ≤ 1000000) (hp : OkPar ts) (hr : OkRoot ts) :
    Calls Tryz.prog 84 #[.agg #[.slice a ts.length cap]] w (Grows w (.bool (walkN ts ts.length).isSome)) := by
  have H := Lib.hid h
  have HP := Lib.hid hp
  have HR := Lib.hid hr
  have hmk := run_make_row' (P := Tryz.prog) 38 9 (.string (bs [])) 16 Tryz.underlying38 infoStr rfl .i64 .i64 ts.length (by omega) (by omega)
  clear h hp hr
  go_enter Tryz.func84, Tryz.ntmps84
  go_wp2_with fail
  have RB := Lib.hid (Row.new w #[.slice a ts.length cap] 25)
  obtain ⟨W1, hW1⟩ : ∃ W : World, Hid (W = w.alloc (.cells #[.slice a ts.length cap] 25)) := ⟨_, Lib.hid rfl⟩
  have z1 : Hid (W1.heap.size = w.heap.size + 1) := Lib.hid (by rw [hW1.out]; simp)
  rw [← hW1.out] at RB
  have G1 : Hid (Gr w W1) := Lib.hid (by rw [hW1.out]; exact (Gr.refl _).alloc _)
  have RL := Lib.hid (Row.new W1 (madeCells #[.string (bs [])] ts.length) 9)
  obtain ⟨W2, hW2⟩ : ∃ W : World, Hid (W = W1.alloc (.cells (madeCells #[.string (bs [])] ts.length) 9)) := ⟨_, Lib.hid rfl⟩
  rw [← hW2.out, made_one, z1.out, show List.replicate ts.length (Value.string (bs [])) = strs (List.replicate ts.length []) by simp [strs]] at RL
  have G2 : Hid (Gr W1 W2) := Lib.hid (by rw [hW2.out]; exact (Gr.refl _).alloc _)
  have RB2 := Lib.hid (RB.out.gr G2.out)
  rw [← hW1.out, ← hW2.out]
  have G3 := Lib.hid (G1.out.trans G2.out)
  obtain ⟨SB, hSB⟩ : ∃ N : Nat, Hid (w.heap.size + 1 = N) := ⟨_, Lib.hid rfl⟩
  obtain ⟨P0, hP0⟩ : ∃ N : Nat, Hid (w.heap.size = N) := ⟨_, Lib.hid rfl⟩
  rw [hSB.out] at RL
  rw [hSB.out, hP0.out]
  rw [hP0.out] at RB2
  have sb := Lib.hid (show w.heap.size ≤ SB by have := hSB.out; omega)
  have pb := Lib.hid (show SB ≠ P0 by have := hSB.out; have := hP0.out; omega)
  clear RB G1 G2 z1 hW1 hW2 hSB hP0
  go_loopw [15] (fun i wr => ∃ k : Nat, ∃ last : List St, k ≤ ts.length ∧ i = .int .i64 k ∧ walkN ts k = some last ∧ last.length = ts.length ∧ Row wr SB 9 (strs last) ∧ Row wr P0 25 [.slice a ts.length cap] ∧ Gr w wr) (fun i _ => ts.length - (intOf i).toNat)
  case atStart => exact ⟨0, _, Nat.zero_le _, rfl, rfl, by simp, RL.out, RB2.out, G3.out⟩
  case round =>
    obtain ⟨k, last, hk, rfl, hwn, hll, hrl, hrb, hg⟩ := hrel
    have HW := Lib.hid hwn
    have HL := Lib.hid hll
    have HRL := Lib.hid hrl
    have HRB := Lib.hid hrb
    have HG := Lib.hid hg
    clear hwn hll hrl hrb hg
    by_cases hlt : k < ts.length
    · obtain ⟨b, o, pa, pc, rfl, c0, c1, c2, hps, hpf, hw, hnl⟩ := nods_at (H.out.gr RNod.mono HG.out) k hlt
      obtain ⟨n, hn⟩ : ∃ n, n = ts[k] := ⟨_, rfl⟩
      have HN := Lib.hid hn
      rw [← hn] at c0 c1 c2 hps hpf hw hnl
      clear hn
      have hh := has_of_cell c0
      have HPS := Lib.hid hps
      unfold Fit at hpf
      clear hps
      go_wp2_with fail
      have RX := Lib.hid (Row.new wr #[.int .i64 n.parent, .string (bs n.name), .slice pa n.props.length pc] 57)
      obtain ⟨E, hE⟩ : ∃ W : World, Hid (W = wr.alloc (.cells #[.int .i64 n.parent, .string (bs n.name), .slice pa n.props.length pc] 57)) := ⟨_, Lib.hid rfl⟩
      have GE : Hid (Gr wr E) := Lib.hid (by rw [hE.out]; exact (Gr.refl _).alloc _)
      rw [← hE.out] at RX ⊢
      obtain ⟨NX, hNX⟩ : ∃ N : Nat, Hid (wr.heap.size = N) := ⟨_, Lib.hid rfl⟩
      rw [hNX.out] at RX ⊢
      clear hE hNX c0 c1 c2 hh
      have HE := Lib.hid (HG.out.trans GE.out)
      have HRLE := Lib.hid (HRL.out.gr GE.out)
      have HRBE := Lib.hid (HRB.out.gr GE.out)
      have HPE := Lib.hid (HPS.out.gr RPrp.mono GE.out)
      clear HRL HRB GE HG HPS
      go_loopw [6] (fun i wr => ∃ m : Nat, 1 ≤ m ∧ (m = 1 ∨ m ≤ n.props.length) ∧ i = .int .i64 m ∧ (∀ j (hj : j + 1 < m) (hjl : j + 1 < n.props.length), ltS n.props[j].name n.props[j + 1].name = true) ∧ Gr E wr) (fun i _ => n.props.length - (intOf i).toNat)
      case atStart => exact ⟨1, by omega, .inl rfl, rfl, fun j h => absurd h (by omega), Gr.refl _⟩
      case round =>
        obtain ⟨m, hm1, hm, rfl, hal, hg⟩ := hrel
        have HB := Lib.hid hal
        have HJ := Lib.hid hg
        have RX2 := RX.out.gr hg
        have c0 : wr.cell? ⟨NX, 0, none⟩ = some (.int .i64 n.parent) := RX2.cell 0 (by simp)
        have c1 : wr.cell? ⟨NX, 1, none⟩ = some (.string (bs n.name)) := RX2.cell 1 (by simp)
        have c2 : wr.cell? ⟨NX, 2, none⟩ = some (.slice pa n.props.length pc) := RX2.cell 2 (by simp)
        clear hal hg RX2
        by_cases hml : m < n.props.length
        · obtain ⟨b2, o2, rfl, d0, d1, l0, l1⟩ := prps_at (HPE.out.gr RPrp.mono HJ.out) m hml
          obtain ⟨b3, o3, e3, f0, f1, l2, l3⟩ := prps_at (HPE.out.gr RPrp.mono HJ.out) (m - 1) (by omega)
          cases e3
          have hh2 := has_of_cell d0
          have hi : (1 : Int) ≤ m := by omega
          clear hm
          by_cases hv : ltS (n.props[m - 1]'(by omega)).name n.props[m].name = true
          · have hv' : Op.bytesLess (n.props[m - 1]'(by omega)).name n.props[m].name = true := hv
            have V := Lib.hid hv
            clear hv d1 f1
            go_wp2_with fail
            go_quiet (fail)
            go_wp2_with fail
            go_roundw
            case rel =>
              refine ⟨m + 1, by omega, .inr (by omega), by go_num, fun j hj hjl => ?_, HJ.out.drewN _⟩
              by_cases e : j = m - 1
              · subst e
                have := V.out
                have e2 : m - 1 + 1 = m := by omega
                simpa only [e2] using this
              · exact HB.out j (by omega) hjl
            case measure => simp [intOf]; omega
          · have hv' : Op.bytesLess (n.props[m - 1]'(by omega)).name n.props[m].name = false := by rwa [Bool.not_eq_true] at hv
            have V := Lib.hid hv
            clear hv d1 f1
            go_wp2_with fail
            go_quiet (fail)
            go_wp2_with fail
            go_ret
            refine ⟨ret_bool (walk_no hlt (walkN_asc hlt HW.out ?_)), (HE.out.trans HJ.out).drewN _⟩
            rw [← HN.out, ← Bool.not_eq_true, asc_iff]
            intro q
            have := q (m - 1) (by omega)
            have e2 : m - 1 + 1 = m := by omega
            simp only [e2] at this
            exact V.out this
        · have AS : Hid (ascP ts[k].props = true) := Lib.hid (asc_iff.2 (by rw [← HN.out]; intro j hj; exact HB.out j (by omega) hj))
          have HRL2 := Lib.hid (HRLE.out.gr HJ.out)
          have HRB2 := Lib.hid (HRBE.out.gr HJ.out)
          have HE2 := Lib.hid (HE.out.trans HJ.out)
          clear hm1 hm HB
          by_cases k0 : k = 0
          · have kb : ((k : Int) == 0) = true := by simp [k0]
            have K0 := Lib.hid k0
            clear k0
            go_wp2_with fail
            go_roundw
            case rel =>
              refine ⟨k + 1, last, by omega, by go_num, ?_, HL.out, HRL2.out, HRB2.out, HE2.out⟩
              have := K0.out
              subst this
              exact walkN_zero hlt HW.out AS.out
            case measure => simp [intOf]; omega
          · have kb : ((k : Int) == 0) = false := by simp [k0]
            have K0 := Lib.hid (show 0 < k by omega)
            have hi1 : (1 : Int) ≤ k := by omega
            have b0 : wr.cell? ⟨P0, 0, none⟩ = some (.slice (some ⟨b, o, none⟩) ts.length cap) := HRB2.out.cell 0 (by simp)
            clear k0
            go_wp2_with fail
            go_loop [7] (fun u => ∃ x : Int, u = .int .i64 x ∧ -1 ≤ x ∧ x < k ∧ clm ts n.parent x = clm ts n.parent ((k : Int) - 1)) (fun u => (intOf u + 1).toNat)
            case atStart => exact ⟨(k : Int) - 1, by go_num, by omega, by omega, rfl⟩
            case round =>
              obtain ⟨x, rfl, hx1, hxk, hcx⟩ := hrel
              have CX := Lib.hid hcx
              clear hcx
              by_cases hx : x < 0
              · have hb : decide (0 ≤ x) = false := by simp; omega
                have hb2 : decide (x < 0) = true := by simp; omega
                have CL : Hid (clm ts n.parent ((k : Int) - 1) < 0) := Lib.hid (by rw [← CX.out, clm_neg _ _ hx]; exact hx)
                clear CX
                go_wp2_with fail
                go_quiet (fail)
                go_wp2_with fail
                go_ret
                exact ⟨ret_bool (walk_no hlt (walkN_neg hlt K0.out HW.out AS.out (by rw [← HN.out]; exact CL.out))), HE2.out.drewN _⟩
              · have hb : decide (0 ≤ x) = true := by simp; omega
                have hb2 : decide (x < 0) = false := by simp; omega
                obtain ⟨u, rfl⟩ : ∃ u : Nat, x = u := ⟨x.toNat, by omega⟩
                have huk : u < k := by omega
                have hul : u < ts.length := by omega
                by_cases hu : (u : Int) = n.parent
                · have CL : Hid (clm ts ts[k].parent ((k : Int) - 1) = u) := Lib.hid (by rw [← HN.out, ← CX.out, clm_hit _ (by omega) hu])
                  have hub : ((u : Int) == n.parent) = true := by simp [hu]
                  have hub2 : ((u : Int) != n.parent) = false := by simp [hu]
                  have hlu : u < last.length := by rw [HL.out]; exact hul
                  have s0 := HRL2.out.sat u hlu
                  have sf := HRL2.out.free u
                  have sh := HRL2.out.has
                  obtain ⟨z, hz⟩ : ∃ z, last[u] = z := ⟨_, rfl⟩
                  rw [hz] at s0
                  have HZ := Lib.hid hz
                  have HU := Lib.hid hu
                  have hll2 : u < ts.length := hul
                  clear hz hu CX hx hb hx1
                  by_cases hv : Op.bytesLess n.name z = true
                  · go_wp2_with fail
                    go_quiet (fail)
                    go_wp2_with fail
                    go_ret
                    exact ⟨ret_bool (walk_no hlt (walkN_low hlt K0.out HW.out AS.out CL.out hlu (by rw [← HN.out, HZ.out]; exact hv))), HE2.out.drewN _⟩
                  · rw [Bool.not_eq_true] at hv
                    go_wp2_with fail
                    go_quiet (fail)
                    go_wp2_with fail
                    go_roundw
                    case rel =>
                      refine ⟨k + 1, last.set u n.name, by omega, by go_num, ?_, by rw [List.length_set]; exact HL.out, ?_, ?_, ?_⟩
                      · have := walkN_set hlt K0.out HW.out AS.out CL.out hlu (by rw [← HN.out, HZ.out]; exact hv)
                        rw [this, HN.out]
                      · exact (HRL2.out.drewN _).sset u n.name
                      · exact (HRB2.out.drewN _).oth pb.out
                      · exact (HE2.out.drewN _).setc sb.out
                    case measure => simp [intOf]; omega
                · have hub : ((u : Int) == n.parent) = false := by simp [hu]
                  have hub2 : ((u : Int) != n.parent) = true := by simp [hu]
                  have PL := par_lt HP.out HR.out hul
                  have CL : Hid (clm ts n.parent ts[u].parent = clm ts n.parent ((k : Int) - 1)) := Lib.hid (by rw [← clm_go HP.out HR.out hul hu]; exact CX.out)
                  obtain ⟨b4, o4, pa4, pc4, e4, g0, _⟩ := nods_at ((H.out.gr RNod.mono HE2.out)) u hul
                  cases e4
                  obtain ⟨q, hq⟩ : ∃ q, ts[u].parent = q := ⟨_, rfl⟩
                  rw [hq] at g0
                  have HQ := Lib.hid hq
                  rw [hq] at PL CL
                  have hh4 := has_of_cell g0
                  clear hq hu CX
                  go_wp2_with fail
                  go_round
                  case rel => exact ⟨q, rfl, by omega, by omega, CL.out⟩
                  case measure => simp [intOf]; omega
    · have hk' : k = ts.length := by omega
      go_wp2_with fail
      go_ret
      exact ⟨ret_bool (by rw [← hk', HW.out]; rfl), HG.out⟩
end Go.Proofs.YtgembejpiecfcaaGreatDoor

set_option linter.unusedVariables false
set_option linter.unusedSimpArgs false
namespace Go.Proofs.YtgembejpiecfcaaGreatDoor
open Go.RowKit Go.Maps
open Go.ChangeMaps (setBlock)
theorem laidOutT : laidOutB Tryz.prog = true := by kernel_rfl
theorem rowLb : (145 : TypeId) < Tryz.prog.types.size := of_decide_eq_true (by kernel_rfl)
theorem wideLb : (match Tryz.prog.underlying 145 with | some (.array _ _) | some (.struct _) => true | _ => false) = true := by rw [Tryz.underlying145]
theorem keyedLb : Maps.Keyed Tryz.prog 145 := Maps.Keyed.of_law (deep_law_laid laidOutT (m := 2) (by omega) rowLb (by kernel_rfl) wideLb)
def keyV (k : St × Int) : Value := .agg #[.string (bs k.1), .int .i64 k.2]
theorem keyV_inj {a b : St × Int} (h : keyV a = keyV b) : a = b := by
  simp only [keyV, Value.agg.injEq, Array.mk.injEq, List.cons.injEq, Value.string.injEq, Value.int.injEq, true_and, and_true] at h
  exact Prod.ext (bs_inj h.1) h.2
theorem keyOfLb (s : St) (i : Int) (hs : s.length ≤ 1000) (hi : Wide i) : ∃ l, keyOf Tryz.prog 145 (keyV (s, i)) = some l := by
  unfold Wide at hi
  have hu := Tryz.underlying145
  have h0 : Tryz.prog.keyType 145 = true := by kernel_rfl
  have h1 : Tryz.prog.cellsOf 145 = 2 := by kernel_rfl
  have h2 : Tryz.prog.cellsOf 9 = 1 := by kernel_rfl
  have h3 : Tryz.prog.cellsOf 3 = 1 := by kernel_rfl
  obtain ⟨m, hm⟩ : ∃ m, Tryz.prog.types.size + 1 = m + 2 := ⟨Tryz.prog.types.size - 1, by have : (145 : Nat) < Tryz.prog.types.size := rowLb; omega⟩
  have h4 : Value.formed Tryz.prog 145 (keyV (s, i)) = true := by simp [Value.formed, keyV, hu, h1]
  rw [keyOf, hu]
  simp only [h0, h4, hm]
  simp only [Program.keyLits, hu, keyV, Value.cells, h1, h2, h3, Tryz.underlying9, Tryz.underlying3]
  have hw : (Lit.int .i64 i).wf = true := WalkArith.wf_i64 hi
  have hsz : s.length ≤ maxLen := by unfold maxLen; omega
  simp [h2, h3, Tryz.underlying9, Tryz.underlying3, hw, hsz]
def KS (w : World) (B : Nat) (ks : List (St × Int)) : Prop :=
  ∃ es clk, w.heap[B]? = some (.map es clk) ∧ es.toList.map (fun e => e.key) = ks.map keyV ∧ (∀ e ∈ es.toList, e.val = .bool true) ∧ ∀ k ∈ ks, k.1.length ≤ 1000 ∧ Wide k.2
theorem KS.keys {ks : List (St × Int)} {es : Array MapEntry} (h1 : es.toList.map (fun e => e.key) = ks.map keyV) (h2 : ∀ k ∈ ks, k.1.length ≤ 1000 ∧ Wide k.2) : ∀ e ∈ es.toList, ∃ l, keyOf Tryz.prog 145 e.key = some l := by
  intro e he
  have : e.key ∈ es.toList.map (fun e => e.key) := List.mem_map.2 ⟨e, he, rfl⟩
  rw [h1] at this
  obtain ⟨k, hk, e2⟩ := List.mem_map.1 this
  rw [← e2]
  exact keyOfLb k.1 k.2 (h2 k hk).1 (h2 k hk).2
theorem KS.look {w : World} {B : Nat} {ks : List (St × Int)} (h : KS w B ks) (k : St × Int) (hk : k.1.length ≤ 1000 ∧ Wide k.2) :
    (Instr.lookup 143 (.map (some B)) (keyV k) false).run Tryz.prog w = .ok (.bool (ks.contains k)) w := by
  obtain ⟨es, clk, hb, he, hv, hw⟩ := h
  obtain ⟨l, hl⟩ := keyOfLb k.1 k.2 hk.1 hk.2
  rcases keyedLb.find w hl es.toList (KS.keys he hw) with ⟨h1, h2⟩ | ⟨j, e0, h1, h2, h3⟩
  · have hc : ks.contains k = false := by
      rw [← Bool.not_eq_true, List.contains_iff_mem]
      intro hm
      have : keyV k ∈ es.toList.map (fun e => e.key) := by rw [he]; exact List.mem_map.2 ⟨k, hm, rfl⟩
      obtain ⟨e, he2, e3⟩ := List.mem_map.1 this
      exact h2 e he2 e3
    rw [hc]
    simp [Instr.lookup, run_underlying Tryz.underlying143, MapKept.run_getObj_map hb, keyedLb.check w _ hl, h1, Result.andThen]
  · have hm : e0 ∈ es.toList := List.mem_of_getElem? h2
    have hc : ks.contains k = true := by
      rw [List.contains_iff_mem]
      have : e0.key ∈ es.toList.map (fun e => e.key) := List.mem_map.2 ⟨e0, hm, rfl⟩
      rw [he, h3] at this
      obtain ⟨k2, hk2, e2⟩ := List.mem_map.1 this
      have e4 := keyV_inj (b := k) e2
      rw [← e4]; exact hk2
    rw [hc]
    simp [Instr.lookup, run_underlying Tryz.underlying143, MapKept.run_getObj_map hb, keyedLb.check w _ hl, h1, Result.andThen, hv e0 hm]
theorem KS.put {w : World} {B : Nat} {ks : List (St × Int)} (h : KS w B ks) (k : St × Int) (hk : k.1.length ≤ 1000 ∧ Wide k.2) (hn : ks.contains k = false) :
    ∃ o, (Instr.mapUpdate 143 (.map (some B)) (keyV k) (.bool true)).run Tryz.prog w = .ok () (setBlock w B o) ∧ KS (setBlock w B o) B (ks ++ [k]) := by
  obtain ⟨es, clk, hb, he, hv, hw⟩ := h
  obtain ⟨l, hl⟩ := keyOfLb k.1 k.2 hk.1 hk.2
  rcases keyedLb.find w hl es.toList (KS.keys he hw) with ⟨h1, h2⟩ | ⟨j, e0, h1, h2, h3⟩
  · refine ⟨.map (es.push ⟨keyV k, .bool true, clk⟩) (clk + 1), ?_, es.push ⟨keyV k, .bool true, clk⟩, clk + 1, ?_, ?_, ?_, ?_⟩
    · simp [Instr.mapUpdate, run_underlying Tryz.underlying143, MapKept.run_getObj_map hb, keyedLb.check w _ hl, h1, MapKept.run_setObj_map _ hb, Result.andThen, setBlock]
    · have hB : B < w.heap.size := (Array.getElem?_eq_some_iff.1 hb).1
      simp [setBlock, hB]
    · simp [he]
    · intro e hm
      simp only [Array.toList_push, List.mem_append, List.mem_singleton] at hm
      rcases hm with q | rfl
      · exact hv e q
      · rfl
    · intro k2 hm
      rcases List.mem_append.1 hm with q | q
      · exact hw k2 q
      · rw [List.mem_singleton] at q; subst q; exact hk
  · exfalso
    have hm : e0 ∈ es.toList := List.mem_of_getElem? h2
    have : e0.key ∈ es.toList.map (fun e => e.key) := List.mem_map.2 ⟨e0, hm, rfl⟩
    rw [he, h3] at this
    obtain ⟨k2, hk2, e2⟩ := List.mem_map.1 this
    rw [← Bool.not_eq_true, List.contains_iff_mem] at hn
    have e4 := keyV_inj (b := k) e2
    exact hn (by rw [← e4]; exact hk2)
open Go.ChangeMaps (setBlock)
open Classical
theorem Row.block {w : World} {B T M : Nat} {vs : List Value} (h : Row w B T vs) (hne : M ≠ B) (o : Obj) : Row (setBlock w M o) B T vs := by
  unfold Row at *
  simp only [setBlock]
  rw [Array.getElem?_setIfInBounds_ne hne]; exact h
theorem Gr.block {w w' : World} (h : Gr w w') {M : Nat} (hm : w.heap.size ≤ M) (o : Obj) : Gr w (setBlock w' M o) := by
  refine Gr.of_below ?_
  obtain ⟨h1, h2, h3, h4, h5⟩ := h.below
  refine ⟨h1, h2, h3, by simpa [setBlock] using h4, fun k hk => ?_⟩
  simp only [setBlock]
  rw [Array.getElem?_setIfInBounds_ne (by omega)]; exact h5 k hk
theorem KS.gr {w w' : World} {B : Nat} {ks : List (St × Int)} (h : KS w B ks) (hg : Gr w w') : KS w' B ks := by
  obtain ⟨es, clk, hb, h⟩ := h
  obtain ⟨O, d, rfl⟩ := hg
  exact ⟨es, clk, by rw [block_xt w O d B (Array.getElem?_eq_some_iff.1 hb).1]; exact hb, h⟩
theorem KS.new (w : World) : KS (w.alloc (.map #[] 0)) w.heap.size [] := ⟨#[], 0, heap_alloc_new w _, rfl, fun e h => by simp at h, fun k h => by simp at h⟩
theorem wpList_mapUpdate_run {P : Program} (w : World) {ops : Array Oper} {rest : List Oper} {o : Oper} {a : Act} {Q : Exit → Act → World → Prop}
    (hg : o.guard = none) (m x v : Operand) (t : TypeId) (hop : o.op = Op.mapUpdate t m x v) (mv key val : Value) (hm : a.eval m = mv) (hx : a.eval x = key) (hv : a.eval v = val)
    {w' : World} (hrun : (Instr.mapUpdate t mv key val).run P w = .ok () w') (hK : wpList P ops Q rest (a.put o.dst undef) w') : wpList P ops Q (o :: rest) a w := by
  refine wpList_plain hg fun K' hK' => ?_
  unfold Oper.wp
  simp [execOp, hop, hm, hx, hv, hrun, Result.andThen]
  exact hK' _ _ hK
theorem big_false {ts : Tr} (h : ∀ j (hj : j < ts.length), bigN ts[j] = false) : ts.any bigN = false := by
  rw [List.any_eq_false]
  intro x hx
  obtain ⟨j, hj, rfl⟩ := List.getElem_of_mem hx
  simp [h j hj]
theorem big_true {ts : Tr} {k : Nat} (h : k < ts.length) (q : bigN ts[k] = true) : ts.any bigN = true := List.any_eq_true.2 ⟨_, List.getElem_mem h, q⟩
theorem chkT_len {ts : Tr} (h : ts.length = 0 ∨ 120 < ts.length) : chkT ts = 3 := by unfold chkT; rw [if_pos h]
theorem chkT_big {ts : Tr} (h : ¬ (ts.length = 0 ∨ 120 < ts.length)) (q : ts.any bigN = true) : chkT ts = 3 := by unfold chkT; rw [if_neg h, if_pos q]
theorem chkT_rest {ts : Tr} (h : ¬ (ts.length = 0 ∨ 120 < ts.length)) (q : ts.any bigN = false) : chkT ts = if namedT ts = false then 1 else if (walkN ts ts.length).isNone then 12 else if dupT ts then 5 else if (List.range ts.length).any (fun i => decide (8 < depN ts i (i : Int))) then 2 else 0 := by
  unfold chkT; rw [if_neg h, if_neg (by simp [q])]
theorem dup_iff {ts : Tr} : dupT ts = true ↔ ∃ i, ∃ h : i < ts.length, 0 < i ∧ ((ts.take i).map keyN).contains (keyN ts[i]) = true := by
  unfold dupT
  rw [List.any_eq_true]
  constructor
  · rintro ⟨i, hi, h⟩
    rw [List.mem_range] at hi
    rw [List.getD_eq_getElem?_getD, List.getElem?_eq_getElem hi, Bool.and_eq_true] at h
    exact ⟨i, hi, by simpa using h.1, h.2⟩
  · rintro ⟨i, hi, h0, h⟩
    refine ⟨i, List.mem_range.2 hi, ?_⟩
    rw [List.getD_eq_getElem?_getD, List.getElem?_eq_getElem hi, Bool.and_eq_true]
    exact ⟨by simpa using h0, h⟩
theorem named_short {ts : Tr} (h : namedT ts = true) {k : Nat} (hk : k < ts.length) : ts[k].name.length ≤ 1000 := by
  have := named_iff.1 h k hk
  rw [nodNm_eq, Bool.and_eq_true] at this
  have := this.1
  by_cases h0 : k = 0
  · simp [hdrN, h0] at this
    subst h0
    simp [this.2]
  · simp [hdrN, h0, nameOk] at this
    omega
theorem treeCheck_any (ts : Tr) (a : Option Addr) (cap : Nat) (w : World) (h : SlOf 3 RNod w a ts) (hf : Fit ts.length) :
    Calls Tryz.prog 35 #[.agg #[.slice a ts.length cap]] w (Grows w (.int .i64 (chkT ts))) := by
  unfold Fit at hf
  have H := Lib.hid h
  clear h
  by_cases hlen : ts.length = 0 ∨ 120 < ts.length
  · have C := Lib.hid (chkT_len hlen)
    by_cases h0 : ts.length = 0
    · have hb : ((ts.length : Int) == 0) = true := by simp [h0]
      clear h0 hlen
      go_enter Tryz.func35, Tryz.ntmps35
      go_wp2_with fail
      go_ret
      exact ⟨ret_int C.out.symm, (Gr.refl _).alloc _⟩
    · have hb : ((ts.length : Int) == 0) = false := by rw [beq_eq_false_iff_ne]; omega
      have hb2 : decide ((120 : Int) < (ts.length : Int)) = true := by simp; omega
      clear h0 hlen
      go_enter Tryz.func35, Tryz.ntmps35
      go_wp2_with fail
      go_ret
      exact ⟨ret_int C.out.symm, (Gr.refl _).alloc _⟩
  · have HL := Lib.hid hlen
    have hb : ((ts.length : Int) == 0) = false := by rw [beq_eq_false_iff_ne]; omega
    have hb2 : decide ((120 : Int) < (ts.length : Int)) = false := by simp; omega
    have h120 : ts.length ≤ 120 := by omega
    clear hlen
    go_enter Tryz.func35, Tryz.ntmps35
    go_wp2_with fail
    have RB := Lib.hid (Row.new w #[.slice a ts.length cap] 25)
    obtain ⟨W1, hW1⟩ : ∃ W : World, Hid (W = w.alloc (.cells #[.slice a ts.length cap] 25)) := ⟨_, Lib.hid rfl⟩
    rw [← hW1.out] at RB ⊢
    have G1 : Hid (Gr w W1) := Lib.hid (by rw [hW1.out]; exact (Gr.refl _).alloc _)
    obtain ⟨P0, hP0⟩ : ∃ N : Nat, Hid (w.heap.size = N) := ⟨_, Lib.hid rfl⟩
    rw [hP0.out] at RB ⊢
    clear hW1
    go_loopw [23] (fun i wr => ∃ k : Nat, k ≤ ts.length ∧ i = .int .i64 k ∧ (∀ j (hj : j < k) (hjl : j < ts.length), bigN ts[j] = false) ∧ Row wr P0 25 [.slice a ts.length cap] ∧ Gr w wr) (fun i _ => ts.length - (intOf i).toNat)
    case atStart => exact ⟨0, Nat.zero_le _, rfl, fun j h => absurd h (by omega), RB.out, G1.out⟩
    case round =>
      obtain ⟨k, hk, rfl, hal, hrb, hg⟩ := hrel
      have HA := Lib.hid hal
      have HRB := Lib.hid hrb
      have HG := Lib.hid hg
      clear hal hrb hg RB G1
      by_cases hlt : k < ts.length
      · obtain ⟨b, o, pa, pc, rfl, c0, c1, c2, hps, hpf, hw, hnl⟩ := nods_at (H.out.gr RNod.mono HG.out) k hlt
        obtain ⟨n, hn⟩ : ∃ n, n = ts[k] := ⟨_, rfl⟩
        have HN := Lib.hid hn
        rw [← hn] at c0 c1 c2 hps hpf hw hnl
        clear hn
        have hh := has_of_cell c0
        have HPS := Lib.hid hps
        unfold Fit at hpf
        clear hps
        by_cases hq : 24 < n.props.length
        · have hqb : decide ((24 : Int) < (n.props.length : Int)) = true := by simp; omega
          have B : Hid (chkT ts = 3) := Lib.hid (chkT_big HL.out (big_true hlt (by rw [← HN.out]; simp [bigN, hq])))
          clear hq
          go_wp2_with fail
          go_ret
          exact ⟨ret_int B.out.symm, HG.out.alloc _⟩
        · have hqb : decide ((24 : Int) < (n.props.length : Int)) = false := by simp; omega
          have HQ := Lib.hid hq
          clear hq
          have hcp := conPrp_any n.props pa pc (wr.alloc (.cells #[.int .i64 n.parent, .string (bs n.name), .slice pa n.props.length pc] 57)) (HPS.out.gr RPrp.mono ((Gr.refl _).alloc _)) (by unfold Fit; omega)
          have HCP := Lib.hid hcp
          clear hcp
          by_cases hv : n.props.any (fun p => decide (256 < p.val.length)) = true
          · have B : Hid (chkT ts = 3) := Lib.hid (chkT_big HL.out (big_true hlt (by rw [← HN.out]; simp only [bigN, hv, Bool.or_true])))
            rw [hv] at HCP
            clear hv
            go_wp2_with (go_at_call 81; refine HCP.out.mono ?_; rintro e w' ⟨rfl, O, d, rfl⟩)
            go_ret
            exact ⟨ret_int B.out.symm, (HG.out.alloc _).xt _ _⟩
          · rw [Bool.not_eq_true] at hv
            have B : Hid (bigN ts[k] = false) := Lib.hid (by rw [← HN.out]; simp only [bigN, hv, Bool.or_false]; simpa using HQ.out)
            rw [hv] at HCP
            clear hv
            go_wp2_with (go_at_call 81; refine HCP.out.mono ?_; rintro e w' ⟨rfl, O, d, rfl⟩)
            go_roundw
            case rel =>
              refine ⟨k + 1, by omega, by go_num, fun j hj hjl => ?_, (HRB.out.alloc _).xt _ _, (HG.out.alloc _).xt _ _⟩
              by_cases e : j = k
              · subst e; exact B.out
              · exact HA.out j (by omega) hjl
            case measure => simp [intOf]; omega
      · have NB : Hid (ts.any bigN = false) := Lib.hid (big_false fun j hj => HA.out j (by omega) hj)
        have b0 : wr.cell? ⟨P0, 0, none⟩ = some (.slice a ts.length cap) := HRB.out.cell 0 (by simp)
        clear HA hk
        have CR := Lib.hid (chkT_rest HL.out NB.out)
        go_wp2_with fail
        refine (named_any ts a cap wr (H.out.gr RNod.mono HG.out) (by omega)).mono ?_
        rintro e w1 ⟨rfl, hg1⟩
        have HG1 := Lib.hid (HG.out.trans hg1)
        have HRB1 := Lib.hid (HRB.out.gr hg1)
        have b1 : w1.cell? ⟨P0, 0, none⟩ = some (.slice a ts.length cap) := HRB1.out.cell 0 (by simp)
        clear hg1 b0 HG HRB
        by_cases hnm : namedT ts = true
        · have HNM := Lib.hid hnm
          rw [hnm]
          clear hnm
          go_wp2_with fail
          refine (walked_any ts a cap w1 (H.out.gr RNod.mono HG1.out) (by omega) (named_par HNM.out) (named_root HNM.out)).mono ?_
          rintro e w2 ⟨rfl, hg2⟩
          have HG2 := Lib.hid (HG1.out.trans hg2)
          have HRB2 := Lib.hid (HRB1.out.gr hg2)
          have b2 : w2.cell? ⟨P0, 0, none⟩ = some (.slice a ts.length cap) := HRB2.out.cell 0 (by simp)
          clear hg2 b1 HG1 HRB1
          by_cases hwk : (walkN ts ts.length).isSome = true
          · have HWK := Lib.hid hwk
            rw [hwk]
            clear hwk
            have hmm := @run_makeMap Tryz.prog
            have hh2 := has_of_cell b2
            go_wp2_with fail
            have KM := Lib.hid (KS.new w2)
            obtain ⟨W3, hW3⟩ : ∃ W : World, Hid (W = w2.alloc (.map #[] 0)) := ⟨_, Lib.hid rfl⟩
            have G23 : Hid (Gr w2 W3) := Lib.hid (by rw [hW3.out]; exact (Gr.refl _).alloc _)
            have HG3 := Lib.hid (HG2.out.trans G23.out)
            have HRB3 := Lib.hid (HRB2.out.gr G23.out)
            have mb := Lib.hid HG2.out.size
            have pm := Lib.hid (show w2.heap.size ≠ P0 by unfold Has at hh2; omega)
            rw [← hW3.out] at KM ⊢
            obtain ⟨MB, hMB⟩ : ∃ N : Nat, Hid (w2.heap.size = N) := ⟨_, Lib.hid rfl⟩
            rw [hMB.out] at KM mb pm ⊢
            clear hmm hh2 b2 HG2 HRB2 G23 hW3 hMB
            go_loopw [47] (fun i wr => ∃ k : Nat, k ≤ ts.length ∧ i = .int .i64 k ∧ KS wr MB ((ts.take k).map keyN) ∧ (∀ j (hj : j < k) (hjl : j < ts.length), 0 < j → ((ts.take j).map keyN).contains (keyN ts[j]) = false) ∧ Row wr P0 25 [.slice a ts.length cap] ∧ Gr w wr) (fun i _ => ts.length - (intOf i).toNat)
            case atStart => exact ⟨0, Nat.zero_le _, rfl, KM.out, fun j h => absurd h (by omega), HRB3.out, HG3.out⟩
            case round =>
              clear KM HRB3 HG3
              obtain ⟨k, hk, rfl, hks, hal, hrb, hg⟩ := hrel
              have HK := Lib.hid hks
              have HA := Lib.hid hal
              have HRB := Lib.hid hrb
              have HG := Lib.hid hg
              clear hks hal hrb hg
              by_cases hlt : k < ts.length
              · obtain ⟨b, o, pa, pc, rfl, c0, c1, c2, hps, hpf, hw, hnl⟩ := nods_at (H.out.gr RNod.mono HG.out) k hlt
                have hsh := named_short HNM.out hlt
                obtain ⟨n, hn⟩ : ∃ n, n = ts[k] := ⟨_, rfl⟩
                have HN := Lib.hid hn
                rw [← hn] at c0 c1 c2 hps hpf hw hnl hsh
                clear hn hps
                have hh := has_of_cell c0
                have HSH := Lib.hid (show (keyN n).1.length ≤ 1000 ∧ Wide (keyN n).2 from ⟨hsh, hw⟩)
                clear hsh hw
                have TK : Hid ((ts.take (k + 1)).map keyN = (ts.take k).map keyN ++ [keyN n]) := Lib.hid (by rw [List.take_succ_eq_append_getElem hlt, List.map_append, ← HN.out]; rfl)
                obtain ⟨W5, hW5⟩ : ∃ W : World, Hid (W = (wr.alloc (.cells #[.int .i64 n.parent, .string (bs n.name), .slice pa n.props.length pc] 57)).alloc (.cells #[.string (bs n.name), .int .i64 n.parent] 145)) := ⟨_, Lib.hid rfl⟩
                have G5 : Hid (Gr wr W5) := Lib.hid (by rw [hW5.out]; exact ((Gr.refl _).alloc _).alloc _)
                have K5 := Lib.hid (HK.out.gr G5.out)
                have RB5 := Lib.hid (HRB.out.gr G5.out)
                have HG5 := Lib.hid (HG.out.trans G5.out)
                have LK := K5.out.look (keyN n) HSH.out
                by_cases hd : 0 < k ∧ ((ts.take k).map keyN).contains (keyN n) = true
                · have kg : decide (0 < k) = true := by simp; omega
                  have B : Hid (chkT ts = 5) := Lib.hid (by
                    rw [CR.out, if_neg (by simp [HNM.out]), if_neg (by have := HWK.out; simp [Option.isSome_iff_ne_none] at this; simp [this]), if_pos (dup_iff.2 ⟨k, hlt, hd.1, by rw [← HN.out]; exact hd.2⟩)])
                  rw [hd.2] at LK
                  unfold keyV keyN at LK
                  rw [hW5.out] at LK
                  clear hd
                  go_wp2_with fail
                  go_ret
                  rw [← hW5.out]
                  exact ⟨ret_int B.out.symm, HG5.out⟩
                · have hnc : ((ts.take k).map keyN).contains (keyN n) = false := by
                    by_cases k0 : k = 0
                    · subst k0; rfl
                    · rw [← Bool.not_eq_true]; exact fun q => hd ⟨by omega, q⟩
                  obtain ⟨o5, hput, hks5⟩ := K5.out.put (keyN n) HSH.out hnc
                  have NC := Lib.hid hnc
                  have HP5 : Hid ((Instr.mapUpdate 143 (.map (some MB)) (.agg #[.string (bs n.name), .int .i64 n.parent]) (.bool true)).run Tryz.prog ((wr.alloc (.cells #[.int .i64 n.parent, .string (bs n.name), .slice pa n.props.length pc] 57)).alloc (.cells #[.string (bs n.name), .int .i64 n.parent] 145)) = .ok () (setBlock W5 MB o5)) := Lib.hid (by rw [← hW5.out]; exact hput)
                  have KS5 := Lib.hid hks5
                  rw [hnc] at LK
                  unfold keyV keyN at LK
                  rw [hW5.out] at LK
                  clear hd hput hks5 hnc
                  by_cases k0 : 0 < k
                  case' pos => have kg : decide (0 < k) = true := by simp; omega
                  case' neg => have kg : decide (0 < k) = false := by simp; omega
                  all_goals
                    clear k0
                    go_wp2_with (at_mapUpdate; refine wpList_mapUpdate_run _ rfl _ _ _ _ rfl _ _ _ rfl rfl rfl HP5.out ?_)
                    go_roundw
                    case rel =>
                      refine ⟨k + 1, by omega, by go_num, by rw [TK.out]; exact KS5.out, fun j hj hjl h0 => ?_, RB5.out.block pm.out _, HG5.out.block mb.out _⟩
                      by_cases e : j = k
                      · subst e; rw [← HN.out]; exact NC.out
                      · exact HA.out j (by omega) hjl h0
                    case measure => simp [intOf]; omega
              · have ND : Hid (dupT ts = false) := Lib.hid (by
                  rw [← Bool.not_eq_true, dup_iff]
                  rintro ⟨i, hi, h0, q⟩
                  rw [HA.out i (by omega) hi h0] at q
                  cases q)
                have b0 : wr.cell? ⟨P0, 0, none⟩ = some (.slice a ts.length cap) := HRB.out.cell 0 (by simp)
                have CR2 : Hid (chkT ts = if (List.range ts.length).any (fun i => decide (8 < depN ts i (i : Int))) then 2 else 0) := Lib.hid (by
                    rw [CR.out, if_neg (by simp [HNM.out]), if_neg (by have := HWK.out; simp [Option.isSome_iff_ne_none] at this; simp [this]), if_neg (by simp [ND.out])])
                obtain ⟨w6, hw6⟩ : ∃ W, W = wr := ⟨_, rfl⟩
                rw [← hw6] at HRB HG
                clear HA hk HK CR ND
                go_wp2_with fail
                go_loopw [70] (fun i wr => ∃ k : Nat, k ≤ ts.length ∧ i = .int .i64 k ∧ (∀ j (hj : j < k) (hjl : j < ts.length), ¬ 8 < dep ts j) ∧ Row wr P0 25 [.slice a ts.length cap] ∧ Gr w wr) (fun i _ => ts.length - (intOf i).toNat)
                case atStart => rw [← hw6]; exact ⟨0, Nat.zero_le _, rfl, fun j h => absurd h (by omega), HRB.out, HG.out⟩
                case round =>
                  clear b0 HRB HG hw6
                  obtain ⟨k, hk, rfl, hal, hrb, hg⟩ := hrel
                  have HA := Lib.hid hal
                  have HRB := Lib.hid hrb
                  have HG := Lib.hid hg
                  have b0 : wr.cell? ⟨P0, 0, none⟩ = some (.slice a ts.length cap) := hrb.cell 0 (by simp)
                  clear hal hrb hg
                  by_cases hlt : k < ts.length
                  · have DL := dep_le (named_par HNM.out) k hlt
                    by_cases hd : 8 < dep ts k
                    · have kd : decide ((8 : Int) < ((dep ts k : Nat) : Int)) = true := by simp; omega
                      have B : Hid (chkT ts = 2) := Lib.hid (by rw [CR2.out, if_pos (List.any_eq_true.2 ⟨k, List.mem_range.2 hlt, by simpa [dep] using hd⟩)])
                      clear hd
                      go_wp2_with (go_at_call 85; refine (depth_any ts a cap k _ (H.out.gr RNod.mono HG.out) (by omega) (named_par HNM.out) hlt).mono ?_; rintro e w' ⟨rfl, O, d, rfl⟩)
                      go_ret
                      exact ⟨ret_int B.out.symm, HG.out.xt _ _⟩
                    · have kd : decide ((8 : Int) < ((dep ts k : Nat) : Int)) = false := by simp; omega
                      have HD := Lib.hid hd
                      clear hd
                      go_wp2_with (go_at_call 85; refine (depth_any ts a cap k _ (H.out.gr RNod.mono HG.out) (by omega) (named_par HNM.out) hlt).mono ?_; rintro e w' ⟨rfl, O, d, rfl⟩)
                      go_roundw
                      case rel =>
                        refine ⟨k + 1, by omega, by go_num, fun j hj hjl => ?_, HRB.out.xt _ _, HG.out.xt _ _⟩
                        by_cases e : j = k
                        · subst e; exact HD.out
                        · exact HA.out j (by omega) hjl
                      case measure => simp [intOf]; omega
                  · have B : Hid (chkT ts = 0) := Lib.hid (by
                      rw [CR2.out, if_neg]
                      rw [Bool.not_eq_true, List.any_eq_false]
                      intro i hi
                      have := HA.out i (by have := List.mem_range.1 hi; omega) (List.mem_range.1 hi)
                      simpa [dep] using this)
                    go_wp2_with fail
                    go_ret
                    exact ⟨ret_int B.out.symm, HG.out⟩
          · rw [Bool.not_eq_true] at hwk
            have B : Hid (chkT ts = 12) := Lib.hid (by rw [CR.out, if_neg (by simp [HNM.out]), if_pos (by simpa using hwk)])
            rw [hwk]
            clear hwk
            go_wp2_with fail
            go_ret
            exact ⟨ret_int B.out.symm, HG2.out⟩
        · rw [Bool.not_eq_true] at hnm
          have B : Hid (chkT ts = 1) := Lib.hid (by rw [CR.out, if_pos hnm])
          rw [hnm]
          clear hnm
          go_wp2_with fail
          go_ret
          exact ⟨ret_int B.out.symm, HG1.out⟩
end Go.Proofs.YtgembejpiecfcaaGreatDoor

set_option linter.unusedVariables false
set_option linter.unusedSimpArgs false
namespace Go.Proofs.YtgembejpiecfcaaGreatDoor
open Go.RowKit
open Classical
structure Lower (ps : List Prp) (s : St) (i : Nat) : Prop where
  le : i ≤ ps.length
  low : ∀ j (h : j < ps.length), j < i → Op.bytesLess ps[j].name s = true
  high : ∀ j (h : j < ps.length), i ≤ j → Op.bytesLess ps[j].name s = false
/-! What a tree without an error is. -/
structure GoodT (ts : Tr) : Prop where
  len : 0 < ts.length ∧ ts.length ≤ 120
  big : ∀ j (h : j < ts.length), ts[j].props.length ≤ 24 ∧ ∀ p ∈ ts[j].props, p.val.length ≤ 256
  named : namedT ts = true
  walk : (walkN ts ts.length).isSome = true
  dup : dupT ts = false
  deep : ∀ j, j < ts.length → dep ts j ≤ 8
end Go.Proofs.YtgembejpiecfcaaGreatDoor
