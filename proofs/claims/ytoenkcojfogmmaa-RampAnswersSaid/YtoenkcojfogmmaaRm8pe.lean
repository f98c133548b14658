/- Lemmas and contracts for the proof of RampAnswers (several texts in one, printed by wip/tools/pack.py): ZRmpB ZRmpC ZRmpD ZRmpE ZRmpF. -/
import Derived.Test.YtoenkcojfogmmaaRm8pd
set_option maxRecDepth 100000
set_option maxHeartbeats 16000000
set_option linter.unusedVariables false
set_option linter.unusedSimpArgs false
namespace Go.Proofs.Ytoenkcojfogmmaa
open Go.RowKit
open Classical
theorem rlss_gr {w w' : World} {ao : Option Addr} {xs : List Rls} (h : SlOf 2 RRls w ao xs) (hg : Gr w w') : SlOf 2 RRls w' ao xs := h.gr RRls.mono hg
theorem indexRls_any (q0 : Nat) (l : List Rls) (ao : Option Addr) (cap : Nat) (p : Rls → Prop) (w : World) (h : SlOf 2 RRls w ao l) (hf : Fit l.length) (hp : PredOn VRls 63 #[.pointer (some ⟨q0, 0, none⟩)] l p w) :
    Calls Try.prog 52 #[.slice ao l.length cap, .func (.func 63) #[] #[.pointer (some ⟨q0, 0, none⟩)]] w (GivesFirst p l w) := by
  unfold Fit at hf
  have H := Lib.hid h
  have HP := Lib.hid hp
  clear h hp
  go_enter Try.func52, Try.ntmps52
  go_wp2
  go_loopw [8] (fun i wr => ∃ k : Nat, k ≤ l.length ∧ i = .int .i64 k ∧ (∀ j (hj : j < k) (hjl : j < l.length), ¬ p l[j]) ∧ Gr w wr) (fun i _ => l.length - (intOf i).toNat)
  case atStart => exact ⟨0, Nat.zero_le _, rfl, fun j h => absurd h (by omega), Gr.refl _⟩
  case round =>
    obtain ⟨k, hk, rfl, hall, hg⟩ := hrel
    have HA := Lib.hid hall
    have HG := Lib.hid hg
    clear hall hg
    by_cases hlt : k < l.length
    · obtain ⟨b, o, rfl, ⟨a1, k1, c1, c1l, c1f, s1⟩, ⟨a2, k2, c2, c2l, c2f, s2⟩⟩ := rlss_gr H.out HG.out k hlt
      have hcall := HP.out wr (.agg #[.slice a1 l[k].on.length k1, .slice a2 l[k].level.length k2]) k hlt HG.out ⟨a1, a2, k1, k2, rfl, s1, s2, c1l, c1f, c2l, c2f⟩
      clear s1 s2 c1f c2f
      by_cases hq : p l[k]
      · rw [decide_eq_true hq] at hcall
        have Q := Lib.hid hq
        clear hq
        go_wp2_with fail
        refine hcall.mono ?_
        rintro e w' ⟨rfl, O, d, rfl⟩
        go_wp2_with fail
        go_ret
        exact ⟨_, rfl, .inr ⟨k, hlt, rfl, Q.out, fun j hj => HA.out j hj (by omega)⟩, HG.out.xt _ _⟩
      · rw [decide_eq_false hq] at hcall
        have Q := Lib.hid hq
        clear hq
        go_wp2_with fail
        refine hcall.mono ?_
        rintro e w' ⟨rfl, O, d, rfl⟩
        go_wp2_with fail
        go_roundw
        case rel =>
          refine ⟨k + 1, by omega, by go_num, fun j hj hjl => ?_, HG.out.xt _ _⟩
          by_cases e : j = k
          · subst e; exact Q.out
          · exact HA.out j (by omega) hjl
        case measure => simp [intOf]; omega
    · go_wp2
      go_ret
      exact ⟨_, rfl, .inl ⟨rfl, fun j hj => HA.out j (by omega) hj⟩, HG.out⟩
theorem containsRls_any (q0 : Nat) (l : List Rls) (ao : Option Addr) (cap : Nat) (p : Rls → Prop) (w : World) (h : SlOf 2 RRls w ao l) (hf : Fit l.length) (hp : PredOn VRls 63 #[.pointer (some ⟨q0, 0, none⟩)] l p w) :
    Calls Try.prog 62 #[.slice ao l.length cap, .func (.func 63) #[] #[.pointer (some ⟨q0, 0, none⟩)]] w (Grows w (.bool (decide (AnyOf p l)))) := by
  have H := Lib.hid h
  have HP := Lib.hid hp
  have HF := Lib.hid hf
  clear h hp hf
  go_enter Try.func62, Try.ntmps62
  go_wp2_with fail
  refine (indexRls_any q0 l ao cap p _ H.out HF.out HP.out).mono ?_
  rintro e w' ⟨x, rfl, hx, O, d, rfl⟩
  have X := Lib.hid hx
  clear hx
  go_wp2_with fail
  go_ret
  exact ⟨ret_bool X.out.any, (Gr.refl _).xt _ _⟩
theorem begin1_any (l : List Sup) (rs : List Rls) (q : Nat) (ao : Option Addr) (cap : Nat) (w : World) (hc : w.cell? ⟨q, 0, none⟩ = some (.slice ao l.length cap)) (h : SlOf 5 RSup w ao l) (hf : Fit l.length) :
    PredOn VRls 63 #[.pointer (some ⟨q, 0, none⟩)] rs (fun r => ¬ RlsOk l r) w := by
  rintro W v k hk hg ⟨a1, a2, c1, c2, rfl, s1, s2, _, f1, _, f2⟩
  have hc' := cell_gr hg hc
  have hh := has_of_cell hc'
  have H := Lib.hid (sups_gr h hg)
  have H1 := Lib.hid s1
  have H2 := Lib.hid s2
  clear hc hg h s1 s2
  show Calls Try.prog 63 #[_, _] W _
  generalize rs[k] = r at *
  go_enter Try.func63, Try.ntmps63
  go_wp2_with fail
  refine (rails_any l r ao a1 a2 cap c1 c2 _ (sups_gr H.out (by repeat (first | with_reducible exact Gr.refl _ | with_reducible refine Gr.alloc _ ?_ | with_reducible refine Gr.xt _ _ ?_ | with_reducible refine Gr.drew ?_))) hf (H1.out.giB (by repeat (first | with_reducible exact Gr.refl _ | with_reducible refine Gr.alloc _ ?_ | with_reducible refine Gr.xt _ _ ?_ | with_reducible refine Gr.drew ?_))) (H2.out.giI (by repeat (first | with_reducible exact Gr.refl _ | with_reducible refine Gr.alloc _ ?_ | with_reducible refine Gr.xt _ _ ?_ | with_reducible refine Gr.drew ?_))) f1 f2).mono ?_
  rintro e w' ⟨rfl, O, dd, rfl⟩
  go_wp2_with fail
  go_ret
  exact ⟨ret_bool (by by_cases q : RlsOk l r <;> simp [q]), by repeat (first | with_reducible exact Gr.refl _ | with_reducible refine Gr.alloc _ ?_ | with_reducible refine Gr.xt _ _ ?_ | with_reducible refine Gr.drew ?_)⟩
noncomputable def begR (l : List Sup) (rs : List Rls) : Int := if chk l = 0 then (if AnyOf (fun r => ¬ RlsOk l r) rs then 1 else 0) else chk l
theorem begR_zero {l : List Sup} {rs : List Rls} (h : begR l rs = 0) : chk l = 0 ∧ ∀ r ∈ rs, RlsOk l r := by
  unfold begR at h
  split at h
  · rename_i hc
    refine ⟨hc, fun r hr => Classical.byContradiction fun q => ?_⟩
    split at h
    · omega
    · rename_i ha
      obtain ⟨k, hk, e⟩ := List.getElem_of_mem hr
      exact ha ⟨k, hk, e ▸ q⟩
  · rename_i hc; exact absurd h hc
theorem begR_of {l : List Sup} {rs : List Rls} (hc : chk l = 0) (h : ∀ r ∈ rs, RlsOk l r) : begR l rs = 0 := by
  unfold begR
  rw [if_pos hc, if_neg]
  rintro ⟨k, hk, q⟩
  exact q (h _ (List.getElem_mem hk))
theorem begin_anyZ (l : List Sup) (rs : List Rls) (ao a1 : Option Addr) (cap c1 : Nat) (w : World) (h : SlOf 5 RSup w ao l) (hf : Fit l.length) (h1 : SlOf 2 RRls w a1 rs) (f1 : Fit rs.length) :
    Calls Try.prog 37 #[.slice ao l.length cap, .slice a1 rs.length c1] w (Grows w (.int .i64 (begR l rs))) := by
  have H := Lib.hid h
  have H1 := Lib.hid h1
  have HF := Lib.hid hf
  have HF1 := Lib.hid f1
  unfold Fit at hf f1
  clear h h1
  go_enter Try.func37, Try.ntmps37
  go_wp2_with fail
  refine (check_any l ao cap _ (sups_gr H.out ((Gr.refl _).alloc _)) HF.out).mono ?_
  rintro e w' ⟨rfl, O, dd, rfl⟩
  by_cases hc : chk l = 0
  · rw [hc]
    have HC := Lib.hid hc
    clear hc
    go_wp2_with fail
    refine (containsRls_any w.heap.size rs a1 c1 _ _ (rlss_gr H1.out (by repeat (first | with_reducible exact Gr.refl _ | with_reducible refine Gr.alloc _ ?_ | with_reducible refine Gr.xt _ _ ?_ | with_reducible refine Gr.drew ?_))) HF1.out (begin1_any l rs w.heap.size ao cap _ (by simp [go_sem]) (sups_gr H.out (by repeat (first | with_reducible exact Gr.refl _ | with_reducible refine Gr.alloc _ ?_ | with_reducible refine Gr.xt _ _ ?_ | with_reducible refine Gr.drew ?_))) HF.out)).mono ?_
    rintro e w' ⟨rfl, O2, dd2, rfl⟩
    by_cases ha : AnyOf (fun r => ¬ RlsOk l r) rs
    · rw [decide_eq_true ha]
      have HA := Lib.hid ha
      clear ha
      go_wp2_with fail
      go_ret
      exact ⟨ret_int (by rw [begR, if_pos HC.out, if_pos HA.out]), by repeat (first | with_reducible exact Gr.refl _ | with_reducible refine Gr.alloc _ ?_ | with_reducible refine Gr.xt _ _ ?_ | with_reducible refine Gr.drew ?_)⟩
    · rw [decide_eq_false ha]
      have HA := Lib.hid ha
      clear ha
      go_wp2_with fail
      go_ret
      exact ⟨ret_int (by rw [begR, if_pos HC.out, if_neg HA.out]), by repeat (first | with_reducible exact Gr.refl _ | with_reducible refine Gr.alloc _ ?_ | with_reducible refine Gr.xt _ _ ?_ | with_reducible refine Gr.drew ?_)⟩
  · have hcb : (chk l != 0) = true := by simpa using hc
    have HC := Lib.hid hc
    clear hc
    go_wp2_with fail
    go_ret
    exact ⟨ret_int (by rw [begR, if_neg HC.out]), by repeat (first | with_reducible exact Gr.refl _ | with_reducible refine Gr.alloc _ ?_ | with_reducible refine Gr.xt _ _ ?_ | with_reducible refine Gr.drew ?_)⟩
def lvAt (r : Rls) (k : Nat) : Int := r.level.getD k 0
theorem lvAt_eq {r : Rls} {k : Nat} (h : k < r.level.length) : lvAt r k = r.level[k] := by simp [lvAt, h]
def jlv (a b : Rls) (k : Nat) : Int := if onAt a k = true then (if onAt b k = true then (if lvAt a k < lvAt b k then lvAt b k else lvAt a k) else lvAt a k) else lvAt b k
def joinR (a b : Rls) : Rls := ⟨(List.range b.on.length).map fun k => onAt a k || onAt b k, (List.range b.level.length).map fun k => jlv a b k⟩
theorem joinR_on_len (a b : Rls) : (joinR a b).on.length = b.on.length := by simp [joinR]
theorem joinR_lv_len (a b : Rls) : (joinR a b).level.length = b.level.length := by simp [joinR]
theorem joinR_lv (a b : Rls) (k : Nat) (h : k < b.level.length) : lvAt (joinR a b) k = jlv a b k := by simp [lvAt, joinR, h]
def JInv (a b : Rls) (k : Nat) (uo : List Bool) (ul : List Int) : Prop :=
  uo.length = b.on.length ∧ ul.length = b.level.length ∧ (∀ j, j < b.on.length → uo.getD j false = if j < k then (onAt a j || onAt b j) else onAt b j) ∧ ∀ j, j < b.level.length → ul.getD j 0 = if j < k then jlv a b j else lvAt b j
theorem JInv.start (a b : Rls) : JInv a b 0 b.on b.level := ⟨rfl, rfl, fun j _ => by simp [onAt], fun j _ => by simp [lvAt]⟩
theorem JInv.done {a b : Rls} {k : Nat} {uo : List Bool} {ul : List Int} (h : JInv a b k uo ul) (h1 : b.on.length ≤ k) (h2 : b.level.length ≤ k) : uo = (joinR a b).on ∧ ul = (joinR a b).level := by
  obtain ⟨e1, e2, e3, e4⟩ := h
  constructor
  · refine List.ext_getElem (by rw [e1, joinR_on_len]) fun j q1 q2 => ?_
    have := e3 j (by omega)
    rw [if_pos (by omega), List.getD_eq_getElem?_getD, List.getElem?_eq_getElem q1, Option.getD_some] at this
    rw [this]; simp [joinR]
  · refine List.ext_getElem (by rw [e2, joinR_lv_len]) fun j q1 q2 => ?_
    have := e4 j (by omega)
    rw [if_pos (by omega), List.getD_eq_getElem?_getD, List.getElem?_eq_getElem q1, Option.getD_some] at this
    rw [this]; simp [joinR]
theorem JInv.step {a b : Rls} {k : Nat} {uo : List Bool} {ul : List Int} (h : JInv a b k uo ul) (h1 : k < b.on.length) (h2 : k < b.level.length) : JInv a b (k + 1) (uo.set k (onAt a k || onAt b k)) (ul.set k (jlv a b k)) := by
  obtain ⟨e1, e2, e3, e4⟩ := h
  refine ⟨by simpa using e1, by simpa using e2, fun j hj => ?_, fun j hj => ?_⟩
  · rw [getD_set _ _ _ _ _ (by omega)]
    by_cases e : j = k
    · subst e; simp
    · rw [if_neg e, e3 j hj]
      by_cases q : j < k
      · rw [if_pos q, if_pos (by omega)]
      · rw [if_neg q, if_neg (by omega)]
  · rw [getD_set _ _ _ _ _ (by omega)]
    by_cases e : j = k
    · subst e; simp
    · rw [if_neg e, e4 j hj]
      by_cases q : j < k
      · rw [if_pos q, if_pos (by omega)]
      · rw [if_neg q, if_neg (by omega)]
theorem JInv.uoAt {a b : Rls} {k : Nat} {uo : List Bool} {ul : List Int} (h : JInv a b k uo ul) (h1 : k < b.on.length) (hu : k < uo.length) : uo[k] = onAt b k := by
  have := h.2.2.1 k h1
  rw [if_neg (by omega), List.getD_eq_getElem?_getD, List.getElem?_eq_getElem hu, Option.getD_some] at this
  exact this
theorem JInv.ulAt {a b : Rls} {k : Nat} {uo : List Bool} {ul : List Int} (h : JInv a b k uo ul) (h1 : k < b.level.length) (hu : k < ul.length) : ul[k] = lvAt b k := by
  have := h.2.2.2 k h1
  rw [if_neg (by omega), List.getD_eq_getElem?_getD, List.getElem?_eq_getElem hu, Option.getD_some] at this
  exact this
theorem join_any (a b : Rls) (n : Nat) (a1 a2 a3 a4 : Option Addr) (c1 c2 c3 c4 : Nat) (w : World) (h1 : SlOf 1 RB w a1 a.on) (h2 : SlOf 1 RI w a2 a.level) (h3 : SlOf 1 RB w a3 b.on) (h4 : SlOf 1 RI w a4 b.level)
    (n1 : a.on.length = n) (n2 : a.level.length = n) (n3 : b.on.length = n) (n4 : b.level.length = n) (hn : n ≤ 16) :
    Calls Try.prog 40 #[.agg #[.slice a1 a.on.length c1, .slice a2 a.level.length c2], .agg #[.slice a3 b.on.length c3, .slice a4 b.level.length c4]] w (GivesRls w (joinR a b)) := by
  have H1 := Lib.hid h1
  have H2 := Lib.hid h2
  have H3 := Lib.hid h3
  have H4 := Lib.hid h4
  clear h1 h2 h3 h4
  have N1 := Lib.hid n1
  have N2 := Lib.hid n2
  have N3 := Lib.hid n3
  have N4 := Lib.hid n4
  have m1 : a.on.length ≤ 16 := by omega
  have m2 : a.level.length ≤ 16 := by omega
  have m3 : b.on.length ≤ 16 := by omega
  have m4 : b.level.length ≤ 16 := by omega
  clear n1 n2 n3 n4
  go_enter Try.func40, Try.ntmps40
  go_wp2_with fail
  refine (copied_any b a3 a4 c3 c4 _ (H3.out.giB (by repeat (first | with_reducible exact Gr.refl _ | with_reducible refine Gr.alloc _ ?_ | with_reducible refine Gr.xt _ _ ?_ | with_reducible refine Gr.drew ?_))) (H4.out.giI (by repeat (first | with_reducible exact Gr.refl _ | with_reducible refine Gr.alloc _ ?_ | with_reducible refine Gr.xt _ _ ?_ | with_reducible refine Gr.drew ?_))) (by omega) (by omega)).mono ?_
  rintro e W1 ⟨a5, c5, a6, c6, rfl, hc5, hc6, o1, o2, hg⟩
  have O1 := Lib.hid o1
  have O2 := Lib.hid o2
  have G1 := Lib.hid hg
  have e0 : W1.cell? ⟨w.heap.size, 0, none⟩ = some (.slice a1 a.on.length c1) := cell_gr hg (by simp [go_sem])
  have e1 : W1.cell? ⟨w.heap.size, 1, none⟩ = some (.slice a2 a.level.length c2) := cell_gr hg (by simp [go_sem])
  have e2 : W1.cell? ⟨w.heap.size + 1, 0, none⟩ = some (.slice a3 b.on.length c3) := cell_gr hg (by simp [go_sem])
  have e3 : W1.cell? ⟨w.heap.size + 1, 1, none⟩ = some (.slice a4 b.level.length c4) := cell_gr hg (by simp [go_sem])
  have E0 := Lib.hid e0
  have E1 := Lib.hid e1
  have E2 := Lib.hid e2
  have E3 := Lib.hid e3
  have r0 : Row W1 (w.heap.size + 2) 31 [.slice none 0 0, .slice none 0 0] := by
    have := Row.new ((w.alloc (.cells #[.slice a1 a.on.length c1, .slice a2 a.level.length c2] 31)).alloc (.cells #[.slice a3 b.on.length c3, .slice a4 b.level.length c4] 31)) #[.slice none 0 0, .slice none 0 0] 31
    simp only [World.size_alloc] at this
    exact this.gr hg
  have R0 := Lib.hid r0
  have sz : w.heap.size + 3 ≤ W1.heap.size := by have := hg.size; simpa using this
  clear o1 o2 hg e0 e1 e2 e3 r0
  go_wp2_with fail
  go_loopw [12] (fun i wr => ∃ k : Nat, k ≤ b.on.length ∧ i = .int .i64 k ∧ Gr ((w.alloc (.cells #[.slice a1 a.on.length c1, .slice a2 a.level.length c2] 31)).alloc (.cells #[.slice a3 b.on.length c3, .slice a4 b.level.length c4] 31)) wr ∧ Row wr (w.heap.size + 2) 31 [.slice none 0 0, .slice none 0 0] ∧ Row wr W1.heap.size 31 [.slice a5 b.on.length c5, .slice a6 b.level.length c6] ∧
      ∃ uo ul, Own1 (w.heap.size + 3) wr 4 (bools uo) a5 ∧ Own1 (w.heap.size + 3) wr 3 (nums ul) a6 ∧ JInv a b k uo ul) (fun i _ => b.on.length - (intOf i).toNat)
  case atStart =>
    refine ⟨0, Nat.zero_le _, rfl, ?_, R0.out.alloc _, Row.new W1 _ _, b.on, b.level, ?_, ?_, JInv.start a b⟩
    · refine Gr.alloc _ (Gr.trans ?_ G1.out)
      exact (Gr.refl _).alloc _
    · exact (O1.out.gr ((Gr.refl _).alloc _)).low (by simp)
    · exact (O2.out.gr ((Gr.refl _).alloc _)).low (by simp)
  case round =>
    obtain ⟨k, hk, rfl, hg, hr, hb, uo, ul, p1, p2, hinv⟩ := hrel
    have HG0 := Lib.hid hg
    have HG := Lib.hid ((((Gr.refl w).alloc _).alloc _).trans hg)
    have HR := Lib.hid hr
    have HB := Lib.hid hb
    have HI := Lib.hid hinv
    have P1 := Lib.hid p1
    have P2 := Lib.hid p2
    have e0 : wr.cell? ⟨w.heap.size, 0, none⟩ = some (.slice a1 a.on.length c1) := cell_gr hg (by simp [go_sem])
    have e1 : wr.cell? ⟨w.heap.size, 1, none⟩ = some (.slice a2 a.level.length c2) := cell_gr hg (by simp [go_sem])
    have e2 : wr.cell? ⟨w.heap.size + 1, 0, none⟩ = some (.slice a3 b.on.length c3) := cell_gr hg (by simp [go_sem])
    have e3 : wr.cell? ⟨w.heap.size + 1, 1, none⟩ = some (.slice a4 b.level.length c4) := cell_gr hg (by simp [go_sem])
    have b0 := hb.cell 0 (by simp)
    have b1 := hb.cell 1 (by simp)
    simp only [List.getElem_cons_zero, List.getElem_cons_succ] at b0 b1
    have x0 := has_of_cell e0
    have x1 := has_of_cell e2
    have x2 := hb.has
    have x3 := hr.has
    clear hg hr hb hinv p1 p2
    by_cases hlt : k < b.on.length
    · have k1 : k < a.on.length := by have := N1.out; have := N3.out; omega
      have k2 : k < a.level.length := by have := N2.out; have := N3.out; omega
      have k4 : k < b.level.length := by have := N4.out; have := N3.out; omega
      have ku : k < uo.length := by have := HI.out.1; omega
      have kl : k < ul.length := by have := HI.out.2.1; omega
      obtain ⟨B1, rfl, hB1, q1⟩ := P1.out.at (by simp [bools]; omega)
      obtain ⟨B2, rfl, hB2, q2⟩ := P2.out.at (by simp [nums]; omega)
      have Q1 := Lib.hid q1
      have Q2 := Lib.hid q2
      have t1 : W1.heap.size ≠ B1 := HB.out.s.apart q1 (by decide)
      have t2 : W1.heap.size ≠ B2 := HB.out.s.apart q2 (by decide)
      have t3 : B1 ≠ B2 := q1.apart q2 (by decide)
      have t1' := Ne.symm t1
      have t2' := Ne.symm t2
      have t3' := Ne.symm t3
      have z1 := q1.has
      have z2 := q2.has
      have z3 := q1.free k
      have z4 := q2.free k
      have z5 := q1.bat k ku
      have z6 := q2.iat k kl
      rw [HI.out.uoAt hlt ku] at z5
      rw [HI.out.ulAt k4 kl] at z6
      clear q1 q2
      obtain ⟨v1, w1, rfl, s1⟩ := (H1.out.giB HG.out).one k k1
      obtain ⟨v2, w2, rfl, s2, s2w⟩ := (H2.out.giI HG.out).one k k2
      obtain ⟨v3, w3, rfl, s3⟩ := (H3.out.giB HG.out).one k hlt
      obtain ⟨v4, w4, rfl, s4, s4w⟩ := (H4.out.giI HG.out).one k k4
      unfold RB at s1 s3
      rw [← onAt_eq k1] at s1
      rw [← onAt_eq hlt] at s3
      rw [← lvAt_eq k2] at s2
      rw [← lvAt_eq k4] at s4
      have y1 := has_of_cell s1
      have y2 := has_of_cell s2
      have y3 := has_of_cell s3
      have y4 := has_of_cell s4
      have g0 : (0 : Int) ≤ k := by omega
      have g1 : (k : Int) < a.on.length := by omega
      have g2 : (k : Int) < a.level.length := by omega
      have g3 : (k : Int) < b.on.length := by omega
      have g4 : (k : Int) < b.level.length := by omega
      clear s2w s4w
      have hst := Lib.hid (HI.out.step hlt k4)
      rcases Bool.eq_false_or_eq_true (onAt a k) with ha | ha
      · rcases Bool.eq_false_or_eq_true (onAt b k) with hb | hb
        · have HS : Hid (JInv a b (k + 1) uo (ul.set k (if lvAt a k < lvAt b k then lvAt b k else lvAt a k))) := Lib.hid (by
            have := hst.out
            rw [show jlv a b k = (if lvAt a k < lvAt b k then lvAt b k else lvAt a k) by simp [jlv, ha, hb], set_same uo k ku _ (by rw [HI.out.uoAt hlt ku, ha, hb]; rfl)] at this
            exact this)
          rw [ha] at s1
          rw [hb] at s3
          clear ha hb hst z5
          go_wp2_with fail
          go_region
          all_goals go_wp2_with fail
          all_goals go_roundw
          case rel =>
            refine ⟨k + 1, by omega, by go_num, ?_, by repeat (first | with_reducible exact HR.out | with_reducible refine Row.drew ?_ | with_reducible refine Row.oth ?_ (by omega)), by repeat (first | with_reducible exact HB.out | with_reducible refine Row.drew ?_ | with_reducible refine Row.oth ?_ (by omega)), uo, ul.set k (if lvAt a k < lvAt b k then lvAt b k else lvAt a k), ?_, ?_, HS.out⟩
            · repeat (first | with_reducible exact HG0.out | with_reducible refine Gr.setc (by simp; omega) ?_ | with_reducible refine Gr.alloc _ ?_ | with_reducible refine Gr.drew ?_)
            · exact Own1.row hB1 (by repeat (first | with_reducible exact Q1.out | with_reducible refine RowS.drew ?_ | with_reducible refine RowS.oth ?_ (by omega)))
            · refine Own1.row hB2 ?_
              with_reducible refine RowS.drew ?_
              exact Q2.out.iset k kl _
          case measure => simp [intOf]; omega
        · have HS : Hid (JInv a b (k + 1) (uo.set k true) (ul.set k (lvAt a k))) := Lib.hid (by
            have := hst.out
            rw [show jlv a b k = lvAt a k by simp [jlv, ha, hb], ha] at this
            exact this)
          rw [ha] at s1
          rw [hb] at s3
          clear ha hb hst
          go_wp2_with fail
          go_region
          all_goals go_wp2_with fail
          all_goals go_roundw
          case rel =>
            refine ⟨k + 1, by omega, by go_num, ?_, by repeat (first | with_reducible exact HR.out | with_reducible refine Row.drew ?_ | with_reducible refine Row.oth ?_ (by omega)), by repeat (first | with_reducible exact HB.out | with_reducible refine Row.drew ?_ | with_reducible refine Row.oth ?_ (by omega)), uo.set k true, ul.set k (lvAt a k), ?_, ?_, HS.out⟩
            · repeat (first | with_reducible exact HG0.out | with_reducible refine Gr.setc (by simp; omega) ?_ | with_reducible refine Gr.alloc _ ?_ | with_reducible refine Gr.drew ?_)
            · exact Own1.row hB1 (by repeat (first | with_reducible exact Q1.out.bset k ku _ | with_reducible refine RowS.drew ?_ | with_reducible refine RowS.oth ?_ (by omega)))
            · exact Own1.row hB2 (by repeat (first | with_reducible exact Q2.out.iset k kl _ | with_reducible refine RowS.drew ?_ | with_reducible refine RowS.oth ?_ (by omega) | with_reducible refine RowS.iset ?_ k kl _ | with_reducible exact Q2.out))
          case measure => simp [intOf]; omega
      · have HS : Hid (JInv a b (k + 1) uo ul) := Lib.hid (by
          have := hst.out
          rw [show jlv a b k = lvAt b k by simp [jlv, ha], ha, Bool.false_or, set_same uo k ku _ (HI.out.uoAt hlt ku), set_same ul k kl _ (HI.out.ulAt k4 kl)] at this
          exact this)
        rw [ha] at s1
        clear ha hst
        go_wp2_with fail
        go_roundw
        case rel => exact ⟨k + 1, by omega, by go_num, HG0.out, HR.out, HB.out, uo, ul, P1.out, P2.out, HS.out⟩
        case measure => simp [intOf]; omega
    · have hkb : k = b.on.length := by omega
      subst hkb
      obtain ⟨d1, d2⟩ := HI.out.done (Nat.le_refl _) (by have := N3.out; have := N4.out; omega)
      have r0 := HR.out.cell 0 (by simp)
      have r1 := HR.out.cell 1 (by simp)
      have r2 := HR.out.free 0
      have r3 := HR.out.free 1
      simp only [List.getElem_cons_zero, List.getElem_cons_succ] at r0 r1
      have D1 := Lib.hid d1
      have D2 := Lib.hid d2
      clear d1 d2
      go_wp2_with fail
      refine bodyPost_ret (v := .agg #[.slice a5 b.on.length c5, .slice a6 b.level.length c6]) ?_ rfl ?_
      · simp [results, Try.results40, go_sem, r0, r1]
      · have p1 := P1.out
        have p2 := P2.out
        rw [D1.out] at p1
        rw [D2.out] at p2
        refine ⟨a5, c5, a6, c6, by rw [joinR_on_len, joinR_lv_len], by rw [joinR_on_len]; exact hc5, by rw [joinR_lv_len]; exact hc6, ?_, ?_, ?_⟩
        · exact ((p1.oth (by omega)).oth (by omega)).low (by omega)
        · exact ((p2.oth (by omega)).oth (by omega)).low (by omega)
        · repeat (first | with_reducible exact HG.out | with_reducible refine Gr.setc (by omega) ?_)
theorem infoWri : (Try.prog.info? 46).map (fun i => (i.zero, i.size, i.bytes)) = some (some (.agg #[.int .i64 0, .int .i64 0, .int .i64 0]), 3, 24) := by kernel_rfl
def encWZ (x : Wri) : List Value := [.int .i64 x.kind, .int .i64 x.unit, .int .i64 x.value]
def encWs (ps : List Wri) : List Value := ps.flatMap encWZ
theorem encWs_snoc (ps : List Wri) (x : Wri) : encWs (ps ++ [x]) = encWs ps ++ encWZ x := by simp [encWs]
theorem encWs_len (ps : List Wri) : (encWs ps).length = ps.length * 3 := by
  induction ps with
  | nil => rfl
  | cons x ps ih =>
    have : encWs (x :: ps) = encWZ x ++ encWs ps := rfl
    rw [this, List.length_append, ih]
    simp [encWZ]
    omega
structure WrAt (base : Nat) (w : World) (Bw n B1 c1 B2 c2 : Nat) (v : Value) (r : Rls) (ps : List Wri) : Prop where
  box : Row w Bw 81 [.slice (some ⟨B1, 0, none⟩) n c1, .slice (some ⟨B2, 0, none⟩) n c2, v]
  on : RowS w B1 4 (bools r.on)
  lv : RowS w B2 3 (nums r.level)
  pl : w.ownsRow base 46 3 v ps.length (encWs ps)
  b0 : base ≤ Bw
  b1 : base ≤ B1
  b2 : base ≤ B2
  n1 : r.on.length = n
  n2 : r.level.length = n
def Writes (W0 : World) (Bw n B1 c1 B2 c2 : Nat) (s : Rls × List Wri) (e : Ending) (w' : World) : Prop :=
  ∃ x v, e = .returned x ∧ WrAt W0.heap.size w' Bw n B1 c1 B2 c2 v s.1 s.2 ∧ Gr W0 w'
noncomputable def wLevel (s : Rls × List Wri) (k : Nat) (x : Int) : Rls × List Wri := (⟨s.1.on, s.1.level.set k x⟩, if lvAt s.1 k = x then s.2 else s.2 ++ [⟨2, k, x⟩])
noncomputable def wSupply (s : Rls × List Wri) (k : Nat) (b : Bool) : Rls × List Wri := (⟨s.1.on.set k b, s.1.level⟩, if onAt s.1 k = b then s.2 else s.2 ++ [⟨3, k, if b = true then 1 else 0⟩])
theorem WrAt.setLv {base : Nat} {w : World} {Bw n B1 c1 B2 c2 : Nat} {v : Value} {r : Rls} {ps : List Wri} (h : WrAt base w Bw n B1 c1 B2 c2 v r ps) (k : Nat) (hk : k < n) (x : Int) : WrAt base (w.setCell ⟨B2, k, none⟩ (.int .i64 x)) Bw n B1 c1 B2 c2 v ⟨r.on, r.level.set k x⟩ ps where
  box := h.box.oth (h.lv.apart h.box.s (by decide))
  on := h.on.oth (h.lv.apart h.on (by decide))
  lv := h.lv.iset k (by have := h.n2; omega) x
  pl := owns_set h.pl h.lv (by decide)
  b0 := h.b0
  b1 := h.b1
  b2 := h.b2
  n1 := h.n1
  n2 := by simpa using h.n2
theorem WrAt.setOn {base : Nat} {w : World} {Bw n B1 c1 B2 c2 : Nat} {v : Value} {r : Rls} {ps : List Wri} (h : WrAt base w Bw n B1 c1 B2 c2 v r ps) (k : Nat) (hk : k < n) (x : Bool) : WrAt base (w.setCell ⟨B1, k, none⟩ (.bool x)) Bw n B1 c1 B2 c2 v ⟨r.on.set k x, r.level⟩ ps where
  box := h.box.oth (h.on.apart h.box.s (by decide))
  on := h.on.bset k (by have := h.n1; omega) x
  lv := h.lv.oth (h.on.apart h.lv (by decide))
  pl := owns_set h.pl h.on (by decide)
  b0 := h.b0
  b1 := h.b1
  b2 := h.b2
  n1 := by simpa using h.n1
  n2 := h.n2
theorem WrAt.push {base : Nat} {w : World} {Bw n B1 c1 B2 c2 : Nat} {v v' : Value} {r : Rls} {ps : List Wri} {o : Obj} {w1 : World} {p : Wri} (h : WrAt base w Bw n B1 c1 B2 c2 v r ps) (hg : (w.alloc o).grownBy w1 v.ownBlock)
    (ho : w1.ownsRow base 46 3 v' (ps.length + 1) (encWs ps ++ encWZ p)) : Row w1 Bw 81 [.slice (some ⟨B1, 0, none⟩) n c1, .slice (some ⟨B2, 0, none⟩) n c2, v] ∧ WrAt base (w1.setCell ⟨Bw, 2, none⟩ v') Bw n B1 c1 B2 c2 v' r (ps ++ [p]) := by
  have q0 := (h.box.alloc o).grown hg (owns_apart h.pl h.box.s (by decide))
  have q1 := (h.on.alloc o).grown hg (owns_apart h.pl h.on (by decide))
  have q2 := (h.lv.alloc o).grown hg (owns_apart h.pl h.lv (by decide))
  refine ⟨q0, ⟨?_, q1.oth (q0.s.apart q1 (by decide)), q2.oth (q0.s.apart q2 (by decide)), ?_, h.b0, h.b1, h.b2, h.n1, h.n2⟩⟩
  · exact q0.set 2 v'
  · have := owns_set (o := 2) (x := v') ho q0.s (by decide)
    rw [← encWs_snoc] at this
    simpa using this
theorem WrAt.gr {W0 : World} {w : World} {Bw n B1 c1 B2 c2 : Nat} {v : Value} {r : Rls} {ps : List Wri} {o : Obj} {w1 : World} (h : WrAt W0.heap.size w Bw n B1 c1 B2 c2 v r ps) (hw : Gr W0 w) (hg : (w.alloc o).grownBy w1 v.ownBlock) : Gr W0 w1 :=
  (hw.alloc o).grown hg (fun k e => (h.pl.lt k e).1)
theorem cell_three (w : World) (x y z : Value) (t : TypeId) : ∀ j u, [x, y, z][j]? = some u → (w.alloc (.cells #[x, y, z] t)).cell? ((⟨w.heap.size, 0, none⟩ : Addr).add j) = some u := by
  intro j u hu
  obtain ⟨hj, hu⟩ := List.getElem?_eq_some_iff.1 hu
  have : (⟨w.heap.size, 0, none⟩ : Addr).add j = ⟨w.heap.size, j, none⟩ := by unfold Addr.add; split <;> simp_all
  rw [this, (Row.new w #[x, y, z] t).cell j hj, ← hu]
theorem encW_one (p : Wri) : ∀ u ∈ encWZ p, u.oneCell' = true := by
  intro u hu
  simp only [encWZ, List.mem_cons, List.not_mem_nil, or_false] at hu
  rcases hu with rfl | rfl | rfl <;> rfl
theorem level_any (W0 : World) (Bw n B1 c1 B2 c2 : Nat) (v : Value) (r : Rls) (ps : List Wri) (k : Nat) (x : Int) (w : World) (hk : k < n) (h : WrAt W0.heap.size w Bw n B1 c1 B2 c2 v r ps) (hg : Gr W0 w) (hps : ps.length ≤ 1000) :
    Calls Try.prog 42 #[.pointer (some ⟨Bw, 0, none⟩), .int .i64 k, .int .i64 x] w (Writes W0 Bw n B1 c1 B2 c2 (wLevel (r, ps) k x)) := by
  have HH := Lib.hid h
  have HG := Lib.hid hg
  have e0 := h.box.cell 0 (by simp)
  have e1 := h.box.cell 1 (by simp)
  have e2 := h.box.cell 2 (by simp)
  simp only [List.getElem_cons_zero, List.getElem_cons_succ] at e0 e1 e2
  have e3 := h.box.free 2
  have hkl : k < r.level.length := by have := h.n2; omega
  have l0 := h.lv.iat k hkl
  rw [← lvAt_eq hkl] at l0
  have l1 := h.lv.free k
  have x0 := h.box.has
  have x1 := h.lv.has
  have t0 : Bw ≠ B2 := h.box.s.apart h.lv (by decide)
  have t1 : B1 ≠ B2 := h.on.apart h.lv (by decide)
  have t2 : Bw ≠ B1 := h.box.s.apart h.on (by decide)
  have g0 : (0 : Int) ≤ k := by omega
  have g1 : (k : Int) < n := by omega
  clear h hg
  by_cases hx : lvAt r k = x
  · have hxb : (lvAt r k != x) = false := by simpa using hx
    have HX := Lib.hid hx
    clear hx
    go_enter Try.func42, Try.ntmps42
    go_wp2_with fail
    refine bodyPost_end (v := .tuple #[]) ?_ rfl ?_
    · simp [results, Try.results42, go_sem]
    · have := HH.out
      refine ⟨_, v, rfl, ?_, HG.out⟩
      show WrAt W0.heap.size w Bw n B1 c1 B2 c2 v ⟨r.on, r.level.set k x⟩ (if lvAt r k = x then ps else _)
      rw [if_pos HX.out, set_same r.level k hkl x (by rw [← lvAt_eq hkl]; exact HX.out)]
      exact this
  · have hxb : (lvAt r k != x) = true := by simpa using hx
    have HX := Lib.hid hx
    clear hx
    obtain ⟨i0, hi, hz0, hz1, hz2⟩ := info_parts infoWri
    have H2 := Lib.hid (HH.out.setLv k hk x)
    have G2 : Hid (Gr W0 (w.setCell ⟨B2, k, none⟩ (.int .i64 x))) := Lib.hid (HG.out.setc HH.out.b2)
    go_enter Try.func42, Try.ntmps42
    go_wp2_with (at_builtin; refine wpList_append_own _ rfl _ _ 35 rfl W0.heap.size 46 i0 (.agg #[.int .i64 0, .int .i64 0, .int .i64 0]) 3 24 Try.underlying35 hi hz0 hz1 hz2 rfl (by decide) v ps.length (encWs ps) rfl (H2.out.pl.alloc _) ⟨w.heap.size, 0, none⟩ 1 1 (encWZ ⟨2, k, x⟩) rfl rfl (by have := cell_three (w.setCell ⟨B2, k, none⟩ (.int .i64 x)) (.int .i64 2) (.int .i64 k) (.int .i64 x) 46; simpa [encWZ] using this) (encW_one _) (by unfold maxLen; omega) (by omega) (by have := G2.out.size; simp at this ⊢; omega) ?_; intro v' w1 hown' hgrow hnil; have PU := Lib.hid (H2.out.push hgrow hown'); have GU := Lib.hid (H2.out.gr G2.out hgrow); obtain ⟨g', cap', rfl⟩ := ownsRow_succ hown'; have f0 := PU.out.1.free 2; have f1 := PU.out.1.cell 2 (by simp); have f2 := PU.out.1.has; clear hown' hgrow hnil)
    refine bodyPost_end (v := .tuple #[]) ?_ rfl ?_
    · simp [results, Try.results42, go_sem]
    · refine ⟨_, .slice (some ⟨g', 0, none⟩) (ps.length + 1) cap', rfl, ?_, GU.out.setc HH.out.b0⟩
      have := PU.out.2
      show WrAt W0.heap.size _ Bw n B1 c1 B2 c2 _ ⟨r.on, r.level.set k x⟩ (if lvAt r k = x then _ else ps ++ [⟨2, k, x⟩])
      rw [if_neg HX.out]
      exact this
theorem supply_any (W0 : World) (Bw n B1 c1 B2 c2 : Nat) (v : Value) (r : Rls) (ps : List Wri) (k : Nat) (x : Bool) (w : World) (hk : k < n) (h : WrAt W0.heap.size w Bw n B1 c1 B2 c2 v r ps) (hg : Gr W0 w) (hps : ps.length ≤ 1000) :
    Calls Try.prog 43 #[.pointer (some ⟨Bw, 0, none⟩), .int .i64 k, .bool x] w (Writes W0 Bw n B1 c1 B2 c2 (wSupply (r, ps) k x)) := by
  have HH := Lib.hid h
  have HG := Lib.hid hg
  have e0 := h.box.cell 0 (by simp)
  have e1 := h.box.cell 1 (by simp)
  have e2 := h.box.cell 2 (by simp)
  simp only [List.getElem_cons_zero, List.getElem_cons_succ] at e0 e1 e2
  have e3 := h.box.free 2
  have hkl : k < r.on.length := by have := h.n1; omega
  have l0 := h.on.bat k hkl
  rw [← onAt_eq hkl] at l0
  have l1 := h.on.free k
  have x0 := h.box.has
  have x1 := h.on.has
  have t0 : Bw ≠ B2 := h.box.s.apart h.lv (by decide)
  have t1 : B1 ≠ B2 := h.on.apart h.lv (by decide)
  have t2 : Bw ≠ B1 := h.box.s.apart h.on (by decide)
  have g0 : (0 : Int) ≤ k := by omega
  have g1 : (k : Int) < n := by omega
  clear h hg
  by_cases hx : onAt r k = x
  · have hxb : (onAt r k == x) = true := by simpa using hx
    have HX := Lib.hid hx
    clear hx
    go_enter Try.func43, Try.ntmps43
    go_wp2_with fail
    refine bodyPost_ret (v := .tuple #[]) ?_ rfl ?_
    · simp [results, Try.results43, go_sem]
    · have := HH.out
      refine ⟨_, v, rfl, ?_, HG.out⟩
      show WrAt W0.heap.size w Bw n B1 c1 B2 c2 v ⟨r.on.set k x, r.level⟩ (if onAt r k = x then ps else _)
      rw [if_pos HX.out, set_same r.on k hkl x (by rw [← onAt_eq hkl]; exact HX.out)]
      exact this
  · have hxb : (onAt r k == x) = false := by simpa using hx
    have HX := Lib.hid hx
    clear hx
    obtain ⟨i0, hi, hz0, hz1, hz2⟩ := info_parts infoWri
    have H2 := Lib.hid (HH.out.setOn k hk x)
    have G2 : Hid (Gr W0 (w.setCell ⟨B1, k, none⟩ (.bool x))) := Lib.hid (HG.out.setc HH.out.b1)
    cases x with
    | true =>
      go_enter Try.func43, Try.ntmps43
      go_wp2_with (at_builtin; refine wpList_append_own _ rfl _ _ 35 rfl W0.heap.size 46 i0 (.agg #[.int .i64 0, .int .i64 0, .int .i64 0]) 3 24 Try.underlying35 hi hz0 hz1 hz2 rfl (by decide) v ps.length (encWs ps) rfl (H2.out.pl.alloc _) ⟨w.heap.size, 0, none⟩ 1 1 (encWZ ⟨3, k, 1⟩) rfl rfl (by have := cell_three (w.setCell ⟨B1, k, none⟩ (.bool true)) (.int .i64 3) (.int .i64 k) (.int .i64 1) 46; simpa [encWZ] using this) (encW_one _) (by unfold maxLen; omega) (by omega) (by have := G2.out.size; simp at this ⊢; omega) ?_; intro v' w1 hown' hgrow hnil; have PU := Lib.hid (H2.out.push hgrow hown'); have GU := Lib.hid (H2.out.gr G2.out hgrow); obtain ⟨g', cap', rfl⟩ := ownsRow_succ hown'; have f0 := PU.out.1.free 2; have f1 := PU.out.1.cell 2 (by simp); have f2 := PU.out.1.has; clear hown' hgrow hnil)
      refine bodyPost_end (v := .tuple #[]) ?_ rfl ?_
      · simp [results, Try.results43, go_sem]
      · refine ⟨_, .slice (some ⟨g', 0, none⟩) (ps.length + 1) cap', rfl, ?_, GU.out.setc HH.out.b0⟩
        have := PU.out.2
        show WrAt W0.heap.size _ Bw n B1 c1 B2 c2 _ ⟨r.on.set k true, r.level⟩ (if onAt r k = true then _ else ps ++ [⟨3, k, if true = true then 1 else 0⟩])
        rw [if_neg HX.out]
        simpa using this
    | false =>
      go_enter Try.func43, Try.ntmps43
      go_wp2_with (at_builtin; refine wpList_append_own _ rfl _ _ 35 rfl W0.heap.size 46 i0 (.agg #[.int .i64 0, .int .i64 0, .int .i64 0]) 3 24 Try.underlying35 hi hz0 hz1 hz2 rfl (by decide) v ps.length (encWs ps) rfl (H2.out.pl.alloc _) ⟨w.heap.size, 0, none⟩ 1 1 (encWZ ⟨3, k, 0⟩) rfl rfl (by have := cell_three (w.setCell ⟨B1, k, none⟩ (.bool false)) (.int .i64 3) (.int .i64 k) (.int .i64 0) 46; simpa [encWZ] using this) (encW_one _) (by unfold maxLen; omega) (by omega) (by have := G2.out.size; simp at this ⊢; omega) ?_; intro v' w1 hown' hgrow hnil; have PU := Lib.hid (H2.out.push hgrow hown'); have GU := Lib.hid (H2.out.gr G2.out hgrow); obtain ⟨g', cap', rfl⟩ := ownsRow_succ hown'; have f0 := PU.out.1.free 2; have f1 := PU.out.1.cell 2 (by simp); have f2 := PU.out.1.has; clear hown' hgrow hnil)
      refine bodyPost_end (v := .tuple #[]) ?_ rfl ?_
      · simp [results, Try.results43, go_sem]
      · refine ⟨_, .slice (some ⟨g', 0, none⟩) (ps.length + 1) cap', rfl, ?_, GU.out.setc HH.out.b0⟩
        have := PU.out.2
        show WrAt W0.heap.size _ Bw n B1 c1 B2 c2 _ ⟨r.on.set k false, r.level⟩ (if onAt r k = false then _ else ps ++ [⟨3, k, if false = true then 1 else 0⟩])
        rw [if_neg HX.out]
        simpa using this
/-! What the plan is -/
noncomputable def upTo (top : Rls) (s : Rls × List Wri) : Nat → Rls × List Wri
  | 0 => s
  | k + 1 => if onAt top k = true then wSupply (wLevel (upTo top s k) k (lvAt top k)) k true else upTo top s k
noncomputable def downTo (tg : Rls) (n : Nat) (s : Rls × List Wri) : Nat → Rls × List Wri
  | 0 => s
  | m + 1 => wLevel (if onAt tg (n - 1 - m) = true then downTo tg n s m else wSupply (downTo tg n s m) (n - 1 - m) false) (n - 1 - m) (lvAt tg (n - 1 - m))
noncomputable def planL (n : Nat) (a b : Rls) : List Wri := (downTo b n (upTo (joinR a b) (a, []) n) n).2
theorem wLevel_len (s : Rls × List Wri) (k : Nat) (x : Int) : (wLevel s k x).2.length ≤ s.2.length + 1 := by
  unfold wLevel
  simp only
  split <;> simp
theorem wSupply_len (s : Rls × List Wri) (k : Nat) (x : Bool) : (wSupply s k x).2.length ≤ s.2.length + 1 := by
  unfold wSupply
  simp only
  split <;> simp
theorem upTo_len (top : Rls) (s : Rls × List Wri) (k : Nat) : (upTo top s k).2.length ≤ s.2.length + 2 * k := by
  induction k with
  | zero => simp [upTo]
  | succ k ih =>
    unfold upTo
    split
    · have h1 := wSupply_len (wLevel (upTo top s k) k (lvAt top k)) k true
      have h2 := wLevel_len (upTo top s k) k (lvAt top k)
      omega
    · omega
theorem downTo_len (tg : Rls) (n : Nat) (s : Rls × List Wri) (k : Nat) : (downTo tg n s k).2.length ≤ s.2.length + 2 * k := by
  induction k with
  | zero => simp [downTo]
  | succ k ih =>
    unfold downTo
    split
    · have h2 := wLevel_len (downTo tg n s k) (n - 1 - k) (lvAt tg (n - 1 - k))
      omega
    · have h1 := wSupply_len (downTo tg n s k) (n - 1 - k) false
      have h2 := wLevel_len (wSupply (downTo tg n s k) (n - 1 - k) false) (n - 1 - k) (lvAt tg (n - 1 - k))
      omega
def WWide (p : Wri) : Prop := Wide p.kind ∧ Wide p.unit ∧ Wide p.value
theorem wLevel_wide {s : Rls × List Wri} {k : Nat} {x : Int} (h : ∀ p ∈ s.2, WWide p) (hk : k ≤ 1000) (hx : Wide x) : ∀ p ∈ (wLevel s k x).2, WWide p := by
  unfold wLevel
  simp only
  split
  · exact h
  · intro p hp
    rcases List.mem_append.1 hp with q | q
    · exact h p q
    · rw [List.mem_singleton.1 q]; exact ⟨by unfold Wide; simp, by unfold Wide; simp only; omega, hx⟩
theorem wSupply_wide {s : Rls × List Wri} {k : Nat} {x : Bool} (h : ∀ p ∈ s.2, WWide p) (hk : k ≤ 1000) : ∀ p ∈ (wSupply s k x).2, WWide p := by
  unfold wSupply
  simp only
  split
  · exact h
  · intro p hp
    rcases List.mem_append.1 hp with q | q
    · exact h p q
    · rw [List.mem_singleton.1 q]; exact ⟨by unfold Wide; simp, by unfold Wide; simp only; omega, by cases x <;> (unfold Wide; simp)⟩
theorem upTo_wide {top : Rls} {s : Rls × List Wri} (h : ∀ p ∈ s.2, WWide p) (ht : ∀ k, Wide (lvAt top k)) (k : Nat) (hk : k ≤ 1000) : ∀ p ∈ (upTo top s k).2, WWide p := by
  induction k with
  | zero => exact h
  | succ k ih =>
    unfold upTo
    split
    · exact wSupply_wide (wLevel_wide (ih (by omega)) (by omega) (ht k)) (by omega)
    · exact ih (by omega)
theorem downTo_wide {tg : Rls} {n : Nat} {s : Rls × List Wri} (h : ∀ p ∈ s.2, WWide p) (ht : ∀ k, Wide (lvAt tg k)) (hn : n ≤ 1000) (k : Nat) : ∀ p ∈ (downTo tg n s k).2, WWide p := by
  induction k with
  | zero => exact h
  | succ k ih =>
    unfold downTo
    split
    · exact wLevel_wide ih (by omega) (ht _)
    · exact wLevel_wide (wSupply_wide ih (by omega)) (by omega) (ht _)
theorem rls_wide {l : List Sup} {r : Rls} (h : RlsOk l r) (k : Nat) : Wide (lvAt r k) := by
  by_cases hk : k < r.level.length
  · rw [lvAt_eq hk]
    have h2 := h.2.2.1
    have h3 := h.2.2.2 k (by omega) hk
    have hz := (chk_zero h.1).1
    simp only [BigZ, not_or] at hz
    have : l[k].levels.length ≤ 16 := Classical.byContradiction fun q => hz.2 ⟨k, by omega, by omega⟩
    unfold Wide; omega
  · have : lvAt r k = 0 := by simp [lvAt, List.getD_eq_getElem?_getD, List.getElem?_eq_none (Nat.le_of_not_lt hk)]
    rw [this]; unfold Wide; omega
theorem join_wide {a b : Rls} (ha : ∀ k, Wide (lvAt a k)) (hb : ∀ k, Wide (lvAt b k)) (k : Nat) : Wide (lvAt (joinR a b) k) := by
  by_cases h : k < b.level.length
  · rw [joinR_lv a b k h]
    unfold jlv
    split
    · split
      · split
        · exact hb k
        · exact ha k
      · exact ha k
    · exact hb k
  · have : lvAt (joinR a b) k = 0 := by simp [lvAt, List.getD_eq_getElem?_getD, joinR, List.getElem?_eq_none, Nat.le_of_not_lt h]
    rw [this]; unfold Wide; omega
theorem planL_wide {l : List Sup} {n : Nat} {a b : Rls} (ha : RlsOk l a) (hb : RlsOk l b) (hn : n ≤ 1000) : ∀ p ∈ planL n a b, WWide p :=
  downTo_wide (upTo_wide (by simp) (join_wide (rls_wide ha) (rls_wide hb)) n hn) (rls_wide hb) hn n
theorem planL_len (n : Nat) (a b : Rls) : (planL n a b).length ≤ 4 * n := by
  have h1 := downTo_len b n (upTo (joinR a b) (a, []) n) n
  have h2 := upTo_len (joinR a b) (a, []) n
  simp only [List.length_nil] at h2
  unfold planL
  omega
noncomputable def planE (l : List Sup) (a b : Rls) (d : List Drw) : Int := if begR l [a, b] = 0 then (if DrwsOk l d then (if MeetsAll l a d ∧ MeetsAll l b d then 0 else 7) else 1) else begR l [a, b]
noncomputable def planP (l : List Sup) (a b : Rls) (d : List Drw) : List Wri := if planE l a b d = 0 then planL l.length a b else []
theorem encWs_at (ps : List Wri) (k j : Nat) (hk : k < ps.length) (hj : j < 3) : (encWs ps)[k * 3 + j]? = (encWZ ps[k])[j]? := by
  induction ps generalizing k with
  | nil => simp at hk
  | cons x ps ih =>
    have e : encWs (x :: ps) = encWZ x ++ encWs ps := rfl
    rw [e]
    have hx : (encWZ x).length = 3 := rfl
    cases k with
    | zero => rw [List.getElem?_append_left (by omega)]; simp
    | succ k =>
      rw [List.getElem?_append_right (by omega), hx, show (k + 1) * 3 + j - 3 = k * 3 + j by omega, ih k (by simpa using hk)]
      simp
theorem owns_slW {w : World} {base n : Nat} {v : Value} {ps : List Wri} (h : w.ownsRow base 46 3 v n (encWs ps)) (hp : ∀ p ∈ ps, WWide p) : ∃ a c, v = .slice a ps.length c ∧ ps.length ≤ c ∧ SlOf 3 RWri w a ps := by
  have hn : n = ps.length := by have := h.1; rw [encWs_len] at this; omega
  subst hn
  obtain ⟨h0, ⟨rfl, h1⟩ | ⟨g, cap, cur, rfl, hb, hg, hn, _, hs, ht⟩⟩ := h
  · have : ps = [] := List.eq_nil_of_length_eq_zero h1
    subst this
    exact ⟨none, 0, rfl, Nat.le_refl _, SlOf.nil _ _ _ _⟩
  · refine ⟨_, cap, rfl, hn, fun k hk => ⟨g, 0, rfl, ?_⟩⟩
    have key : ∀ j, (hj : j < 3) → w.cell? ⟨g, 0 + k * 3 + j, none⟩ = (encWZ ps[k])[j]? := fun j hj => by
      rw [← encWs_at ps k j hk hj, ← ht, List.getElem?_take, if_pos (by omega)]
      simp [World.cell?, hg]
    have hw := hp _ (List.getElem_mem hk)
    exact ⟨⟨key 0 (by omega), hw.1⟩, ⟨key 1 (by omega), hw.2.1⟩, ⟨key 2 (by omega), hw.2.2⟩⟩
theorem two_rls {w : World} {B : Nat} {a b : Rls} {a1 a2 a3 a4 : Option Addr} {c1 c2 c3 c4 : Nat} (e0 : w.cell? ⟨B, 0, none⟩ = some (.slice a1 a.on.length c1)) (e1 : w.cell? ⟨B, 1, none⟩ = some (.slice a2 a.level.length c2)) (e2 : w.cell? ⟨B, 2, none⟩ = some (.slice a3 b.on.length c3)) (e3 : w.cell? ⟨B, 3, none⟩ = some (.slice a4 b.level.length c4))
    (h1 : SlOf 1 RB w a1 a.on) (h2 : SlOf 1 RI w a2 a.level) (h3 : SlOf 1 RB w a3 b.on) (h4 : SlOf 1 RI w a4 b.level) (k1 : a.on.length ≤ c1) (k2 : a.level.length ≤ c2) (k3 : b.on.length ≤ c3) (k4 : b.level.length ≤ c4) (f1 : Fit a.on.length) (f2 : Fit a.level.length) (f3 : Fit b.on.length) (f4 : Fit b.level.length) :
    SlOf 2 RRls w (some ⟨B, 0, none⟩) [a, b] := by
  intro k hk
  refine ⟨B, 0, rfl, ?_⟩
  have : k = 0 ∨ k = 1 := by simp at hk; omega
  rcases this with rfl | rfl
  · exact ⟨⟨a1, c1, e0, k1, f1, h1⟩, ⟨a2, c2, e1, k2, f2, h2⟩⟩
  · exact ⟨⟨a3, c3, e2, k3, f3, h3⟩, ⟨a4, c4, e3, k4, f4, h4⟩⟩
def GivesWs (w : World) (ps : List Wri) (x : Int) (e : Ending) (w' : World) : Prop :=
  ∃ ao cap, e = .returned (.tuple #[.slice ao ps.length cap, .int .i64 x]) ∧ ps.length ≤ cap ∧ SlOf 3 RWri w' ao ps ∧ Gr w w'
theorem givesWs_nil {w w' : World} {ps : List Wri} {x : Int} (hp : ps = []) (hg : Gr w w') : GivesWs w ps x (.returned (.tuple #[.slice none 0 0, .int .i64 x])) w' := by
  subst hp
  exact ⟨none, 0, rfl, Nat.le_refl _, SlOf.nil _ _ _ _, hg⟩
theorem plan_anyZ (l : List Sup) (a b : Rls) (d : List Drw) (ao a1 a2 a3 a4 a5 : Option Addr) (cap c1 c2 c3 c4 c5 : Nat) (w : World) (h : SlOf 5 RSup w ao l) (hf : Fit l.length) (h1 : SlOf 1 RB w a1 a.on) (h2 : SlOf 1 RI w a2 a.level) (h3 : SlOf 1 RB w a3 b.on) (h4 : SlOf 1 RI w a4 b.level) (h5 : SlOf 4 RDrw w a5 d)
    (k1 : a.on.length ≤ c1) (k2 : a.level.length ≤ c2) (k3 : b.on.length ≤ c3) (k4 : b.level.length ≤ c4) (f1 : Fit a.on.length) (f2 : Fit a.level.length) (f3 : Fit b.on.length) (f4 : Fit b.level.length) (f5 : Fit d.length) :
    Calls Try.prog 13 #[.slice ao l.length cap, .agg #[.slice a1 a.on.length c1, .slice a2 a.level.length c2], .agg #[.slice a3 b.on.length c3, .slice a4 b.level.length c4], .slice a5 d.length c5] w (GivesWs w (planP l a b d) (planE l a b d)) := by
  have H := Lib.hid h
  have H1 := Lib.hid h1
  have H2 := Lib.hid h2
  have H3 := Lib.hid h3
  have H4 := Lib.hid h4
  have H5 := Lib.hid h5
  have HF := Lib.hid hf
  have F1 := Lib.hid f1
  have F2 := Lib.hid f2
  have F3 := Lib.hid f3
  have F4 := Lib.hid f4
  have F5 := Lib.hid f5
  clear h h1 h2 h3 h4 h5 hf f1 f2 f3 f4 f5
  have K : Hid (a.on.length ≤ c1 ∧ a.level.length ≤ c2 ∧ b.on.length ≤ c3 ∧ b.level.length ≤ c4) := Lib.hid ⟨k1, k2, k3, k4⟩
  clear k1 k2 k3 k4
  go_enter Try.func13, Try.ntmps13
  go_wp2_with fail
  refine (begin_anyZ l [a, b] ao (some ⟨w.heap.size + 2, 0, none⟩) cap 2 _ (sups_gr H.out (by repeat (first | with_reducible exact Gr.refl _ | with_reducible refine Gr.alloc _ ?_ | with_reducible refine Gr.xt _ _ ?_ | with_reducible refine Gr.drew ?_))) HF.out (two_rls (a1 := a1) (a2 := a2) (a3 := a3) (a4 := a4) (c1 := c1) (c2 := c2) (c3 := c3) (c4 := c4) (by simp [go_sem]) (by simp [go_sem]) (by simp [go_sem]) (by simp [go_sem]) (H1.out.giB (by repeat (first | with_reducible exact Gr.refl _ | with_reducible refine Gr.alloc _ ?_ | with_reducible refine Gr.xt _ _ ?_ | with_reducible refine Gr.drew ?_))) (H2.out.giI (by repeat (first | with_reducible exact Gr.refl _ | with_reducible refine Gr.alloc _ ?_ | with_reducible refine Gr.xt _ _ ?_ | with_reducible refine Gr.drew ?_))) (H3.out.giB (by repeat (first | with_reducible exact Gr.refl _ | with_reducible refine Gr.alloc _ ?_ | with_reducible refine Gr.xt _ _ ?_ | with_reducible refine Gr.drew ?_))) (H4.out.giI (by repeat (first | with_reducible exact Gr.refl _ | with_reducible refine Gr.alloc _ ?_ | with_reducible refine Gr.xt _ _ ?_ | with_reducible refine Gr.drew ?_))) K.out.1 K.out.2.1 K.out.2.2.1 K.out.2.2.2 F1.out F2.out F3.out F4.out) (by unfold Fit; simp)).mono ?_
  rintro e w' ⟨rfl, O1, d1, rfl⟩
  by_cases hb : begR l [a, b] = 0
  · have HB := Lib.hid hb
    rw [hb]
    have hz := begR_zero hb
    have ra := Lib.hid (hz.2 a (by simp))
    have rb := Lib.hid (hz.2 b (by simp))
    clear hz hb
    by_cases hd : DrwsOk l d
    · have hdb : decide (DrwsOk l d) = true := by simp [hd]
      have HD := Lib.hid hd
      clear hd
      go_wp2_with fail
      refine (draws_any l d ao a5 cap c5 _ (sups_gr H.out (by repeat (first | with_reducible exact Gr.refl _ | with_reducible refine Gr.alloc _ ?_ | with_reducible refine Gr.xt _ _ ?_ | with_reducible refine Gr.drew ?_))) HF.out (drws_gr H5.out (by repeat (first | with_reducible exact Gr.refl _ | with_reducible refine Gr.alloc _ ?_ | with_reducible refine Gr.xt _ _ ?_ | with_reducible refine Gr.drew ?_))) F5.out).mono ?_
      rw [hdb]
      clear hdb
      rintro e w' ⟨rfl, O2, d2, rfl⟩
      by_cases hma : MeetsAll l a d
      · have hmb : decide (MeetsAll l a d) = true := by simp [hma]
        have MA := Lib.hid hma
        clear hma
        go_wp2_with fail
        refine (meets_any l a d ao a1 a2 a5 cap c1 c2 c5 _ (sups_gr H.out (by repeat (first | with_reducible exact Gr.refl _ | with_reducible refine Gr.alloc _ ?_ | with_reducible refine Gr.xt _ _ ?_ | with_reducible refine Gr.drew ?_))) HF.out (H1.out.giB (by repeat (first | with_reducible exact Gr.refl _ | with_reducible refine Gr.alloc _ ?_ | with_reducible refine Gr.xt _ _ ?_ | with_reducible refine Gr.drew ?_))) (H2.out.giI (by repeat (first | with_reducible exact Gr.refl _ | with_reducible refine Gr.alloc _ ?_ | with_reducible refine Gr.xt _ _ ?_ | with_reducible refine Gr.drew ?_))) (drws_gr H5.out (by repeat (first | with_reducible exact Gr.refl _ | with_reducible refine Gr.alloc _ ?_ | with_reducible refine Gr.xt _ _ ?_ | with_reducible refine Gr.drew ?_))) F1.out F2.out F5.out).mono ?_
        rw [hmb]
        clear hmb
        rintro e w' ⟨rfl, O3, d3, rfl⟩
        by_cases hmc : MeetsAll l b d
        · have hmb : decide (MeetsAll l b d) = true := by simp [hmc]
          have MB := Lib.hid hmc
          clear hmc
          go_wp2_with fail
          refine (meets_any l b d ao a3 a4 a5 cap c3 c4 c5 _ (sups_gr H.out (by repeat (first | with_reducible exact Gr.refl _ | with_reducible refine Gr.alloc _ ?_ | with_reducible refine Gr.xt _ _ ?_ | with_reducible refine Gr.drew ?_))) HF.out (H3.out.giB (by repeat (first | with_reducible exact Gr.refl _ | with_reducible refine Gr.alloc _ ?_ | with_reducible refine Gr.xt _ _ ?_ | with_reducible refine Gr.drew ?_))) (H4.out.giI (by repeat (first | with_reducible exact Gr.refl _ | with_reducible refine Gr.alloc _ ?_ | with_reducible refine Gr.xt _ _ ?_ | with_reducible refine Gr.drew ?_))) (drws_gr H5.out (by repeat (first | with_reducible exact Gr.refl _ | with_reducible refine Gr.alloc _ ?_ | with_reducible refine Gr.xt _ _ ?_ | with_reducible refine Gr.drew ?_))) F3.out F4.out F5.out).mono ?_
          rw [hmb]
          clear hmb
          rintro e w' ⟨rfl, O4, d4, rfl⟩
          have hE : planE l a b d = 0 := by rw [planE, if_pos HB.out, if_pos HD.out, if_pos ⟨MA.out, MB.out⟩]
          have hP : planP l a b d = planL l.length a b := by rw [planP, if_pos hE]
          have HE := Lib.hid hE
          have HP := Lib.hid hP
          clear hE hP
          have hz := chk_zero HD.out.1
          have n16 : l.length ≤ 16 := by
            have := hz.1
            simp only [BigZ, not_or] at this
            omega
          clear hz
          go_wp2_with fail
          refine (join_any a b l.length a1 a2 a3 a4 c1 c2 c3 c4 _ (H1.out.giB (by repeat (first | with_reducible exact Gr.refl _ | with_reducible refine Gr.alloc _ ?_ | with_reducible refine Gr.xt _ _ ?_ | with_reducible refine Gr.drew ?_))) (H2.out.giI (by repeat (first | with_reducible exact Gr.refl _ | with_reducible refine Gr.alloc _ ?_ | with_reducible refine Gr.xt _ _ ?_ | with_reducible refine Gr.drew ?_))) (H3.out.giB (by repeat (first | with_reducible exact Gr.refl _ | with_reducible refine Gr.alloc _ ?_ | with_reducible refine Gr.xt _ _ ?_ | with_reducible refine Gr.drew ?_))) (H4.out.giI (by repeat (first | with_reducible exact Gr.refl _ | with_reducible refine Gr.alloc _ ?_ | with_reducible refine Gr.xt _ _ ?_ | with_reducible refine Gr.drew ?_))) ra.out.2.1 ra.out.2.2.1 rb.out.2.1 rb.out.2.2.1 n16).mono ?_
          rintro e W2 ⟨a6, c6, a7, c7, rfl, hc6, hc7, o1, o2, hg⟩
          have hg2 : Gr w W2 := Gr.trans (by repeat (first | with_reducible exact Gr.refl _ | with_reducible refine Gr.alloc _ ?_ | with_reducible refine Gr.xt _ _ ?_ | with_reducible refine Gr.drew ?_)) hg
          have e0 : W2.cell? ⟨w.heap.size, 0, none⟩ = some (.slice a1 a.on.length c1) := cell_gr hg (by simp [go_sem])
          have e1 : W2.cell? ⟨w.heap.size, 1, none⟩ = some (.slice a2 a.level.length c2) := cell_gr hg (by simp [go_sem])
          have e2 : W2.cell? ⟨w.heap.size + 1, 0, none⟩ = some (.slice a3 b.on.length c3) := cell_gr hg (by simp [go_sem])
          have e3 : W2.cell? ⟨w.heap.size + 1, 1, none⟩ = some (.slice a4 b.level.length c4) := cell_gr hg (by simp [go_sem])
          have x0 := has_of_cell e0
          have x1 := has_of_cell e2
          have O6 := Lib.hid (o1.low (Nat.zero_le _))
          have O7 := Lib.hid (o2.low (Nat.zero_le _))
          have G2 := Lib.hid hg2
          have E2 := Lib.hid e2
          have E3 := Lib.hid e3
          clear o1 o2 hg hg2
          clear O1 O2 O3 O4 d1 d2 d3 d4
          go_wp2_with fail
          refine (copied_any a a1 a2 c1 c2 _ (H1.out.giB (G2.out.alloc _)) (H2.out.giI (G2.out.alloc _)) (by have := ra.out.2.1; omega) (by have := ra.out.2.2.1; omega)).mono ?_
          rintro e W4 ⟨a8, c8, a9, c9, rfl, hc8, hc9, o8, o9, hg4⟩
          have G4 := Lib.hid hg4
          have O8 := Lib.hid o8
          have O9 := Lib.hid o9
          clear o8 o9 hg4 e0 e1 e2 e3 x0 x1
          go_wp2_with fail
          obtain ⟨W3, hW3⟩ : ∃ W3 : World, Hid (W3 = W2.alloc (.cells #[.slice a6 (joinR a b).on.length c6, .slice a7 (joinR a b).level.length c7] 31)) := ⟨_, Lib.hid rfl⟩
          have GW : Hid (Gr w W3) := Lib.hid (by rw [hW3.out]; exact G2.out.alloc _)
          have G23 : Hid (Gr W2 W3) := Lib.hid (by rw [hW3.out]; exact (Gr.refl _).alloc _)
          have T0 : Hid (W3.cell? ⟨W2.heap.size, 0, none⟩ = some (.slice a6 (joinR a b).on.length c6)) := Lib.hid (by rw [hW3.out]; simp [go_sem])
          have T1 : Hid (W3.cell? ⟨W2.heap.size, 1, none⟩ = some (.slice a7 (joinR a b).level.length c7)) := Lib.hid (by rw [hW3.out]; simp [go_sem])
          rw [← hW3.out] at G4 O8 O9
          clear hW3
          rcases Nat.eq_zero_or_pos l.length with hn0 | hn0
          · have hN : Hid (planL l.length a b = []) := Lib.hid (by have := planL_len l.length a b; exact List.eq_nil_of_length_eq_zero (by omega))
            have W5G : Hid (Gr w (W4.alloc (.cells #[.slice a8 a.on.length c8, .slice a9 a.level.length c9, .slice none 0 0] 81))) := Lib.hid ((GW.out.trans G4.out).alloc _)
            obtain ⟨W5, hW5⟩ : ∃ W5 : World, Hid (W5 = W4.alloc (.cells #[.slice a8 a.on.length c8, .slice a9 a.level.length c9, .slice none 0 0] 81)) := ⟨_, Lib.hid rfl⟩
            have hp0 : W5.cell? ⟨W4.heap.size, 2, none⟩ = some (.slice none 0 0) := by rw [hW5.out]; simp [go_sem]
            have hph := has_of_cell hp0
            rw [← hW5.out] at W5G ⊢
            clear hW5
            rw [hn0]
            go_loopw [50] (fun i wr => i = .int .i64 0 ∧ W5 = wr) (fun i _ => 0)
            case atStart => exact ⟨rfl, rfl⟩
            case round =>
              obtain ⟨rfl, rfl⟩ := hrel
              go_wp2_with fail
              go_loopw [14] (fun i wr => i = .int .i64 (-1) ∧ W5 = wr) (fun i _ => 0)
              case atStart => exact ⟨rfl, rfl⟩
              case round =>
                obtain ⟨rfl, rfl⟩ := hrel
                go_wp2_with fail
                refine bodyPost_ret (v := .tuple #[.slice none 0 0, .int .i64 0]) ?_ rfl ?_
                · simp [results, Try.results13, go_sem]
                · rw [HE.out, HP.out, hN.out]
                  exact givesWs_nil rfl W5G.out
          · have na : a.on.length = l.length := ra.out.2.1
            have na2 : a.level.length = l.length := ra.out.2.2.1
            have nb : b.on.length = l.length := rb.out.2.1
            have nb2 : b.level.length = l.length := rb.out.2.2.1
            have nT : (joinR a b).on.length = l.length := by rw [joinR_on_len]; exact nb
            have nT2 : (joinR a b).level.length = l.length := by rw [joinR_lv_len]; exact nb2
            obtain ⟨B1, rfl, hB1, q1⟩ := O8.out.at (by simp [bools]; omega)
            obtain ⟨B2, rfl, hB2, q2⟩ := O9.out.at (by simp [nums]; omega)
            obtain ⟨B6, rfl, _, q6⟩ := O6.out.at (by simp [bools]; omega)
            obtain ⟨B7, rfl, _, q7⟩ := O7.out.at (by simp [nums]; omega)
            have w0 : WrAt W3.heap.size (W4.alloc (.cells #[.slice (some ⟨B1, 0, none⟩) a.on.length c8, .slice (some ⟨B2, 0, none⟩) a.level.length c9, .slice none 0 0] 81)) W4.heap.size l.length B1 c8 B2 c9 (.slice none 0 0) a [] :=
              ⟨by have := Row.new W4 #[.slice (some ⟨B1, 0, none⟩) a.on.length c8, .slice (some ⟨B2, 0, none⟩) a.level.length c9, .slice none 0 0] 81; rw [na, na2] at this ⊢; exact this, q1.alloc _, q2.alloc _, World.ownsRow_nil _ _ _ _, G4.out.size, hB1, hB2, na, na2⟩
            have WS := Lib.hid w0
            have GS : Hid (Gr W3 (W4.alloc (.cells #[.slice (some ⟨B1, 0, none⟩) a.on.length c8, .slice (some ⟨B2, 0, none⟩) a.level.length c9, .slice none 0 0] 81))) := Lib.hid (G4.out.alloc _)
            have Q6 := Lib.hid (q6.gr G23.out)
            have Q7 := Lib.hid (q7.gr G23.out)
            have NT := Lib.hid nT
            have NT2 := Lib.hid nT2
            have NB := Lib.hid nb
            have NB2 := Lib.hid nb2
            clear q1 q2 q6 q7 w0 O6 O7 O8 O9 na na2 nT nT2 nb nb2
            obtain ⟨Bw, hBw⟩ : ∃ Bw, Bw = W4.heap.size := ⟨_, rfl⟩
            rw [← hBw] at WS ⊢
            obtain ⟨W5, hW5⟩ : ∃ W5 : World, Hid (W5 = W4.alloc (.cells #[.slice (some ⟨B1, 0, none⟩) a.on.length c8, .slice (some ⟨B2, 0, none⟩) a.level.length c9, .slice none 0 0] 81)) := ⟨_, Lib.hid rfl⟩
            rw [← hW5.out] at WS GS ⊢
            clear hW5 hBw
            go_loopw [50] (fun i wr => ∃ k : Nat, k ≤ l.length ∧ i = .int .i64 k ∧ Gr W3 wr ∧ ∃ v, WrAt W3.heap.size wr Bw l.length B1 c8 B2 c9 v (upTo (joinR a b) (a, []) k).1 (upTo (joinR a b) (a, []) k).2) (fun i _ => l.length - (intOf i).toNat)
            case atStart => exact ⟨0, Nat.zero_le _, rfl, GS.out, _, WS.out⟩
            case round =>
              clear WS GS
              obtain ⟨k, hk, rfl, hg, v, hw⟩ := hrel
              have HG := Lib.hid hg
              have HW := Lib.hid hw
              clear hg hw
              by_cases hlt : k < l.length
              · have t0 := cell_gr HG.out T0.out
                have t1 := cell_gr HG.out T1.out
                have kT : k < (joinR a b).on.length := by have := NT.out; omega
                have kT2 : k < (joinR a b).level.length := by have := NT2.out; omega
                have t2 := (Q6.out.gr HG.out).bat k kT
                have t3 := (Q7.out.gr HG.out).iat k kT2
                rw [← onAt_eq kT] at t2
                rw [← lvAt_eq kT2] at t3
                have x0 := has_of_cell t0
                have x1 := has_of_cell t2
                have x2 := has_of_cell t3
                have g0 : (0 : Int) ≤ k := by omega
                have g1 : (k : Int) < (joinR a b).on.length := by omega
                have g2 : (k : Int) < (joinR a b).level.length := by omega
                have hl1 := upTo_len (joinR a b) (a, []) k
                have hl2 := wLevel_len (upTo (joinR a b) (a, []) k) k (lvAt (joinR a b) k)
                simp only [List.length_nil] at hl1
                have L1 : Hid ((upTo (joinR a b) (a, []) k).2.length ≤ 1000) := Lib.hid (by omega)
                have L2 : Hid ((wLevel (upTo (joinR a b) (a, []) k) k (lvAt (joinR a b) k)).2.length ≤ 1000) := Lib.hid (by omega)
                clear hl1 hl2
                rcases Bool.eq_false_or_eq_true (onAt (joinR a b) k) with ho | ho
                · have HO := Lib.hid ho
                  rw [ho] at t2
                  clear ho
                  go_wp2_with fail
                  refine (level_any W3 Bw l.length B1 c8 B2 c9 v _ _ k (lvAt (joinR a b) k) _ hlt HW.out HG.out L1.out).mono ?_
                  rintro e w2 ⟨x, v2, rfl, hw2, hg2⟩
                  have HW2 := Lib.hid hw2
                  have HG2 := Lib.hid hg2
                  clear hw2 hg2 t0 t1 t2 t3 x0 x1 x2
                  go_wp2_with fail
                  refine (supply_any W3 Bw l.length B1 c8 B2 c9 v2 _ _ k true _ hlt HW2.out HG2.out L2.out).mono ?_
                  rintro e w3 ⟨x3, v3, rfl, hw3, hg3⟩
                  have HW3 := Lib.hid hw3
                  have HG3 := Lib.hid hg3
                  clear hw3 hg3
                  go_wp2_with fail
                  go_roundw
                  case rel =>
                    refine ⟨k + 1, by omega, by go_num, HG3.out, v3, ?_⟩
                    have := HW3.out
                    rw [show upTo (joinR a b) (a, []) (k + 1) = wSupply (wLevel (upTo (joinR a b) (a, []) k) k (lvAt (joinR a b) k)) k true by rw [upTo, if_pos HO.out]]
                    exact this
                  case measure => simp [intOf]; omega
                · have HO := Lib.hid ho
                  rw [ho] at t2
                  clear ho
                  go_wp2_with fail
                  go_roundw
                  case rel =>
                    refine ⟨k + 1, by omega, by go_num, HG.out, v, ?_⟩
                    rw [show upTo (joinR a b) (a, []) (k + 1) = upTo (joinR a b) (a, []) k by rw [upTo, if_neg (by rw [HO.out]; decide)]]
                    exact HW.out
                  case measure => simp [intOf]; omega
              · have hkn : k = l.length := by omega
                subst hkn
                obtain ⟨w1, rfl⟩ : ∃ w1 : World, w1 = wr := ⟨_, rfl⟩
                obtain ⟨s0, hs0⟩ : ∃ s0, s0 = upTo (joinR a b) (a, []) l.length := ⟨_, rfl⟩
                have hl0 : Hid (s0.2.length ≤ 32) := Lib.hid (by have := upTo_len (joinR a b) (a, []) l.length; rw [hs0]; simp only [List.length_nil] at this; omega)
                rw [← hs0] at HW
                have HS0 := Lib.hid hs0
                clear hs0 hlt
                go_wp2_with fail
                go_loopw [14] (fun i wr => ∃ m : Nat, m ≤ l.length ∧ i = .int .i64 ((l.length : Int) - 1 - m) ∧ Gr W3 wr ∧ ∃ v, WrAt W3.heap.size wr Bw l.length B1 c8 B2 c9 v (downTo b l.length s0 m).1 (downTo b l.length s0 m).2) (fun i _ => (intOf i + 1).toNat)
                case atStart => exact ⟨0, Nat.zero_le _, by simp, HG.out, _, HW.out⟩
                case round =>
                  clear HW HG
                  obtain ⟨m, hm, rfl, hg, v', hw⟩ := hrel
                  have HG := Lib.hid hg
                  have HW := Lib.hid hw
                  clear hg hw
                  by_cases hlt : m < l.length
                  · obtain ⟨j, hj⟩ : ∃ j, j = l.length - 1 - m := ⟨_, rfl⟩
                    have J := Lib.hid hj
                    have hjl : j < l.length := by omega
                    rw [show (l.length : Int) - 1 - m = (j : Int) by omega]
                    clear hj
                    have jb : j < b.on.length := by have := NB.out; omega
                    have jb2 : j < b.level.length := by have := NB2.out; omega
                    have t0 := cell_gr (G23.out.trans HG.out) E2.out
                    have t1 := cell_gr (G23.out.trans HG.out) E3.out
                    obtain ⟨v1, w1, rfl, s1⟩ := (H3.out.giB (GW.out.trans HG.out)).one j jb
                    obtain ⟨v2, w2, rfl, s2, s2w⟩ := (H4.out.giI (GW.out.trans HG.out)).one j jb2
                    unfold RB at s1
                    rw [← onAt_eq jb] at s1
                    rw [← lvAt_eq jb2] at s2
                    have x0 := has_of_cell t0
                    have x1 := has_of_cell s1
                    have x2 := has_of_cell s2
                    have g0 : (0 : Int) ≤ j := by omega
                    have g1 : (j : Int) < b.on.length := by omega
                    have g2 : (j : Int) < b.level.length := by omega
                    clear s2w
                    have hl1 := downTo_len b l.length s0 m
                    have hl2 := wSupply_len (downTo b l.length s0 m) j false
                    have hl3 := hl0.out
                    have L1 : Hid ((downTo b l.length s0 m).2.length ≤ 1000) := Lib.hid (by omega)
                    have L2 : Hid ((wSupply (downTo b l.length s0 m) j false).2.length ≤ 1000) := Lib.hid (by omega)
                    clear hl1 hl2 hl3
                    rcases Bool.eq_false_or_eq_true (onAt b j) with ho | ho
                    · have HO := Lib.hid ho
                      rw [ho] at s1
                      clear ho
                      go_wp2_with fail
                      refine (level_any W3 Bw l.length B1 c8 B2 c9 v' _ _ j (lvAt b j) _ hjl HW.out HG.out L1.out).mono ?_
                      rintro e w3 ⟨x3, v3, rfl, hw3, hg3⟩
                      have HW3 := Lib.hid hw3
                      have HG3 := Lib.hid hg3
                      clear hw3 hg3
                      go_wp2_with fail
                      go_roundw
                      case rel =>
                        refine ⟨m + 1, by omega, by have := J.out; go_num, HG3.out, v3, ?_⟩
                        have := HW3.out
                        rw [show downTo b l.length s0 (m + 1) = wLevel (downTo b l.length s0 m) j (lvAt b j) by rw [downTo, ← J.out, if_pos HO.out]]
                        exact this
                      case measure => simp [intOf]
                    · have HO := Lib.hid ho
                      rw [ho] at s1
                      clear ho
                      go_wp2_with fail
                      refine (supply_any W3 Bw l.length B1 c8 B2 c9 v' _ _ j false _ hjl HW.out HG.out L1.out).mono ?_
                      rintro e w3 ⟨x3, v3, rfl, hw3, hg3⟩
                      have HW3 := Lib.hid hw3
                      have HG3 := Lib.hid hg3
                      clear hw3 hg3
                      clear t0 t1 s1 s2 x0 x1 x2
                      have t1 := cell_gr (G23.out.trans HG3.out) E3.out
                      obtain ⟨v2', w2', ee, s2, s2w⟩ := (H4.out.giI (GW.out.trans HG3.out)).one j jb2
                      cases ee
                      rw [← lvAt_eq jb2] at s2
                      have x0 := has_of_cell t1
                      have x2 := has_of_cell s2
                      clear s2w
                      go_wp2_with fail
                      refine (level_any W3 Bw l.length B1 c8 B2 c9 v3 _ _ j (lvAt b j) _ hjl HW3.out HG3.out L2.out).mono ?_
                      rintro e w4 ⟨x4, v4, rfl, hw4, hg4⟩
                      have HW4 := Lib.hid hw4
                      have HG4 := Lib.hid hg4
                      clear hw4 hg4
                      go_wp2_with fail
                      go_roundw
                      case rel =>
                        refine ⟨m + 1, by omega, by have := J.out; go_num, HG4.out, v4, ?_⟩
                        have := HW4.out
                        rw [show downTo b l.length s0 (m + 1) = wLevel (wSupply (downTo b l.length s0 m) j false) j (lvAt b j) by rw [downTo, ← J.out, if_neg (by rw [HO.out]; decide)]]
                        exact this
                      case measure => simp [intOf]
                  · have hmn : m = l.length := by omega
                    subst hmn
                    rw [show (l.length : Int) - 1 - l.length = -1 by omega]
                    have hpl : (downTo b l.length s0 l.length).2 = planL l.length a b := by rw [HS0.out]; rfl
                    have hw := HW.out
                    rw [hpl] at hw
                    obtain ⟨pa, pc, rfl, hpc, hsl⟩ := owns_slW hw.pl (planL_wide ra.out rb.out (by omega))
                    have p0 := hw.box.cell 2 (by simp)
                    have p1 := hw.box.has
                    simp only [List.getElem_cons_zero, List.getElem_cons_succ] at p0
                    have SL := Lib.hid hsl
                    clear hsl hw hpl
                    go_wp2_with fail
                    refine bodyPost_ret (v := .tuple #[.slice pa (planL l.length a b).length pc, .int .i64 0]) ?_ rfl ?_
                    · simp [results, Try.results13, go_sem]
                    · rw [HE.out, HP.out]
                      exact ⟨pa, pc, rfl, hpc, SL.out, GW.out.trans HG.out⟩
        · have hmb : decide (MeetsAll l b d) = false := by simp [hmc]
          have MB := Lib.hid hmc
          clear hmc
          go_wp2_with fail
          refine (meets_any l b d ao a3 a4 a5 cap c3 c4 c5 _ (sups_gr H.out (by repeat (first | with_reducible exact Gr.refl _ | with_reducible refine Gr.alloc _ ?_ | with_reducible refine Gr.xt _ _ ?_ | with_reducible refine Gr.drew ?_))) HF.out (H3.out.giB (by repeat (first | with_reducible exact Gr.refl _ | with_reducible refine Gr.alloc _ ?_ | with_reducible refine Gr.xt _ _ ?_ | with_reducible refine Gr.drew ?_))) (H4.out.giI (by repeat (first | with_reducible exact Gr.refl _ | with_reducible refine Gr.alloc _ ?_ | with_reducible refine Gr.xt _ _ ?_ | with_reducible refine Gr.drew ?_))) (drws_gr H5.out (by repeat (first | with_reducible exact Gr.refl _ | with_reducible refine Gr.alloc _ ?_ | with_reducible refine Gr.xt _ _ ?_ | with_reducible refine Gr.drew ?_))) F3.out F4.out F5.out).mono ?_
          rw [hmb]
          clear hmb
          rintro e w' ⟨rfl, O4, d4, rfl⟩
          have hE : planE l a b d = 7 := by rw [planE, if_pos HB.out, if_pos HD.out, if_neg (fun q => MB.out q.2)]
          have hP : planP l a b d = [] := by rw [planP, if_neg (by omega)]
          have HE := Lib.hid hE
          have HP := Lib.hid hP
          clear hE hP
          go_wp2_with fail
          refine bodyPost_ret (v := .tuple #[.slice none 0 0, .int .i64 7]) ?_ rfl ?_
          · simp [results, Try.results13, go_sem]
          · rw [HE.out, HP.out]
            exact givesWs_nil rfl (by repeat (first | with_reducible exact Gr.refl _ | with_reducible refine Gr.alloc _ ?_ | with_reducible refine Gr.xt _ _ ?_ | with_reducible refine Gr.drew ?_))
      · have hmb : decide (MeetsAll l a d) = false := by simp [hma]
        have MA := Lib.hid hma
        clear hma
        go_wp2_with fail
        refine (meets_any l a d ao a1 a2 a5 cap c1 c2 c5 _ (sups_gr H.out (by repeat (first | with_reducible exact Gr.refl _ | with_reducible refine Gr.alloc _ ?_ | with_reducible refine Gr.xt _ _ ?_ | with_reducible refine Gr.drew ?_))) HF.out (H1.out.giB (by repeat (first | with_reducible exact Gr.refl _ | with_reducible refine Gr.alloc _ ?_ | with_reducible refine Gr.xt _ _ ?_ | with_reducible refine Gr.drew ?_))) (H2.out.giI (by repeat (first | with_reducible exact Gr.refl _ | with_reducible refine Gr.alloc _ ?_ | with_reducible refine Gr.xt _ _ ?_ | with_reducible refine Gr.drew ?_))) (drws_gr H5.out (by repeat (first | with_reducible exact Gr.refl _ | with_reducible refine Gr.alloc _ ?_ | with_reducible refine Gr.xt _ _ ?_ | with_reducible refine Gr.drew ?_))) F1.out F2.out F5.out).mono ?_
        rw [hmb]
        clear hmb
        rintro e w' ⟨rfl, O3, d3, rfl⟩
        have hE : planE l a b d = 7 := by rw [planE, if_pos HB.out, if_pos HD.out, if_neg (fun q => MA.out q.1)]
        have hP : planP l a b d = [] := by rw [planP, if_neg (by omega)]
        have HE := Lib.hid hE
        have HP := Lib.hid hP
        clear hE hP
        go_wp2_with fail
        refine bodyPost_ret (v := .tuple #[.slice none 0 0, .int .i64 7]) ?_ rfl ?_
        · simp [results, Try.results13, go_sem]
        · rw [HE.out, HP.out]
          exact givesWs_nil rfl (by repeat (first | with_reducible exact Gr.refl _ | with_reducible refine Gr.alloc _ ?_ | with_reducible refine Gr.xt _ _ ?_ | with_reducible refine Gr.drew ?_))
    · have hdb : decide (DrwsOk l d) = false := by simp [hd]
      have hE : planE l a b d = 1 := by rw [planE, if_pos HB.out, if_neg hd]
      have hP : planP l a b d = [] := by rw [planP, if_neg (by omega)]
      have HE := Lib.hid hE
      have HP := Lib.hid hP
      clear hd hE hP
      go_wp2_with fail
      refine (draws_any l d ao a5 cap c5 _ (sups_gr H.out (by repeat (first | with_reducible exact Gr.refl _ | with_reducible refine Gr.alloc _ ?_ | with_reducible refine Gr.xt _ _ ?_ | with_reducible refine Gr.drew ?_))) HF.out (drws_gr H5.out (by repeat (first | with_reducible exact Gr.refl _ | with_reducible refine Gr.alloc _ ?_ | with_reducible refine Gr.xt _ _ ?_ | with_reducible refine Gr.drew ?_))) F5.out).mono ?_
      rw [hdb]
      rintro e w' ⟨rfl, O2, d2, rfl⟩
      go_wp2_with fail
      refine bodyPost_ret (v := .tuple #[.slice none 0 0, .int .i64 1]) ?_ rfl ?_
      · simp [results, Try.results13, go_sem]
      · rw [HE.out, HP.out]
        exact givesWs_nil rfl (by repeat (first | with_reducible exact Gr.refl _ | with_reducible refine Gr.alloc _ ?_ | with_reducible refine Gr.xt _ _ ?_ | with_reducible refine Gr.drew ?_))
  · have hE : planE l a b d = begR l [a, b] := by rw [planE, if_neg hb]
    have hP : planP l a b d = [] := by rw [planP, if_neg (by omega)]
    have HE := Lib.hid hE
    have HP := Lib.hid hP
    clear hE hP
    have hbb : (begR l [a, b] != 0) = true := by simpa using hb
    clear hb
    go_wp2_with fail
    refine bodyPost_ret (v := .tuple #[.slice none 0 0, .int .i64 (begR l [a, b])]) ?_ rfl ?_
    · simp [results, Try.results13, go_sem]
    · rw [HE.out, HP.out]
      exact givesWs_nil rfl (by repeat (first | with_reducible exact Gr.refl _ | with_reducible refine Gr.alloc _ ?_ | with_reducible refine Gr.xt _ _ ?_ | with_reducible refine Gr.drew ?_))
end Go.Proofs.Ytoenkcojfogmmaa
