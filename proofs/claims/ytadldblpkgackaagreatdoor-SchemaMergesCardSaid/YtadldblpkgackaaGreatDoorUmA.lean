/- slices.Clone of texts and of rules; schema.copied. A statement of schema.copied by an invariant (printed by wip/tools/um5.py). schema.copied. -/
import Derived.Test.YtadldblpkgackaaGreatDoorUgB
import Derived.Test.YtadldblpkgackaaGreatDoorUhA
import Derived.Test.YtadldblpkgackaaGreatDoorUdE
import Derived.Test.YtadldblpkgackaaGreatDoorUeD
set_option linter.unusedVariables false
set_option linter.unusedSimpArgs false
namespace Go.Proofs.YtadldblpkgackaaGreatDoor
open Go.RowKit
open Classical

set_option maxRecDepth 100000 in
set_option maxHeartbeats 1000000 in
theorem cloneW_any (l : List St) (ao : Option Addr) (cap : Nat) (w : World) (h : SlOf 1 RS w ao l) (hf : l.length ≤ 1000000) :
    Calls Tryz.prog 89 #[.slice ao l.length cap] w fun e w' => ∃ v, e = .returned v ∧ w'.ownsRow w.heap.size 9 1 v l.length (strV l) ∧ Gr w w' := by
  have H := Lib.hid h
  clear h
  obtain ⟨i0, hi, hz0, hz1, hz2⟩ := info_parts infoStr
  cases ao with
  | none =>
    have := sl_none H.out
    subst this
    have he : ∀ w : World, (binOp .eql 26 (.slice none 0 cap) (.slice none 0 0)).run Tryz.prog w = .ok (.bool true) w := fun _ => rfl
    simp only [List.length_nil]
    go_enter Tryz.func89, Tryz.ntmps89
    go_wp2_with fail
    go_ret
    exact ⟨_, rfl, World.ownsRow_nil _ _ _ _, Gr.refl _⟩
  | some a =>
    obtain ⟨b, o, s⟩ := a
    have he : ∀ w : World, (binOp .eql 26 (.slice (some ⟨b, o, s⟩) l.length cap) (.slice none 0 0)).run Tryz.prog w = .ok (.bool false) w := fun _ => rfl
    go_enter Tryz.func89, Tryz.ntmps89
    go_wp2_with (at_builtin; refine wpList_append_gets _ rfl _ _ 26 rfl w.heap.size 9 i0 (.string ⟨#[]⟩) 1 16 Tryz.underlying26 hi hz0 hz1 hz2 rfl (by decide) _ 0 [] rfl (World.ownsRow_made w #[] 0 (Nat.le_refl _) (by simp) rfl) (some ⟨b, o, s⟩) l.length cap (strV l) rfl (gets_words (H.out.gr RS.mono ((Gr.refl _).alloc _))) (strV_one l) (by unfold maxLen; omega) (by omega) (by simp) ?_; intro v' w1 hown' hgrow hnil)
    rw [Nat.zero_add, List.nil_append] at hown'
    go_ret
    exact ⟨v', rfl, hown', ((Gr.refl w).alloc _).grown hgrow (fun k e => by cases e; exact Nat.le_refl _)⟩
theorem rms_of {w : World} {a : Option Addr} {l : List Rul} (h : SlOf 7 RRul w a l) : ∃ rs : List RM, rs.map RM.r = l ∧ Gets w a l.length 7 (rs.flatMap RM.enc) ∧ ∀ x ∈ rs, SlOf 1 RS w x.a x.r.words ∧ x.r.words.length ≤ x.c := by
  have hx : ∀ k : Fin l.length, ∃ p : Option Addr × Nat, ∃ b o, a = some ⟨b, o, none⟩ ∧ w.cell? ⟨b, o + k.1 * 7, none⟩ = some (.string (bs l[k.1].name)) ∧ w.cell? ⟨b, o + k.1 * 7 + 1, none⟩ = some (.bool l[k.1].req) ∧ w.cell? ⟨b, o + k.1 * 7 + 2, none⟩ = some (.int .i64 l[k.1].kind) ∧ w.cell? ⟨b, o + k.1 * 7 + 3, none⟩ = some (.int .i64 l[k.1].low) ∧ w.cell? ⟨b, o + k.1 * 7 + 4, none⟩ = some (.int .i64 l[k.1].high) ∧ w.cell? ⟨b, o + k.1 * 7 + 5, none⟩ = some (.int .i64 l[k.1].count) ∧ w.cell? ⟨b, o + k.1 * 7 + 6, none⟩ = some (.slice p.1 l[k.1].words.length p.2) ∧ SlOf 1 RS w p.1 l[k.1].words ∧ l[k.1].words.length ≤ p.2 := by
    intro k
    obtain ⟨b, o, e, c0, c1, c2, c3, c4, c5, ⟨pa, pc, c6, hq, hf, hs⟩⟩ := h k.1 k.2
    exact ⟨(pa, pc), b, o, e, c0.1, c1, c2.1, c3.1, c4.1, c5.1, c6, hs, hq⟩
  refine ⟨List.ofFn (fun k : Fin l.length => (⟨l[k.1], (hx k).choose.1, (hx k).choose.2⟩ : RM)), ?_, ⟨?_, fun hn => ?_⟩, fun x hm => ?_⟩
  · rw [List.map_ofFn]
    exact List.ofFn_getElem
  · have key : ∀ rs : List RM, (rs.flatMap RM.enc).length = rs.length * 7 := by
      intro rs
      induction rs with
      | nil => rfl
      | cons x rs ih => rw [List.flatMap_cons, List.length_append, ih, RM.enc_len, List.length_cons]; omega
    rw [key, List.length_ofFn]
  · obtain ⟨b, o, e, _⟩ := (hx ⟨0, by omega⟩).choose_spec
    refine ⟨_, e, fun j u hu => ?_⟩
    have key : ∀ rs : List RM, (rs.flatMap RM.enc).length = rs.length * 7 := by
      intro rs
      induction rs with
      | nil => rfl
      | cons x rs ih => rw [List.flatMap_cons, List.length_append, ih, RM.enc_len, List.length_cons]; omega
    have hj2 : j < l.length * 7 := by
      have := (List.getElem?_eq_some_iff.1 hu).1
      rw [key, List.length_ofFn] at this
      exact this
    have hk : j / 7 < l.length := by omega
    have hr : j % 7 < 7 := Nat.mod_lt _ (by omega)
    have e2 := flat_at RM.enc 7 RM.enc_len (List.ofFn (fun k : Fin l.length => (⟨l[k.1], (hx k).choose.1, (hx k).choose.2⟩ : RM))) (j / 7) (j % 7) (by rw [List.length_ofFn]; exact hk) hr
    rw [show j / 7 * 7 + j % 7 = j by omega, hu, List.getElem_ofFn] at e2
    obtain ⟨b2, o2, e3, c0, c1, c2, c3, c4, c5, c6, _⟩ := (hx ⟨j / 7, hk⟩).choose_spec
    rw [e] at e3
    cases e3
    rw [Addr.add_lit]
    obtain q | q | q | q | q | q | q : j % 7 = 0 ∨ j % 7 = 1 ∨ j % 7 = 2 ∨ j % 7 = 3 ∨ j % 7 = 4 ∨ j % 7 = 5 ∨ j % 7 = 6 := by omega
    · rw [q] at e2; simp [RM.enc] at e2; rw [e2, ← c0]; congr 2; simp only []; omega
    · rw [q] at e2; simp [RM.enc] at e2; rw [e2, ← c1]; congr 2; simp only []; omega
    · rw [q] at e2; simp [RM.enc] at e2; rw [e2, ← c2]; congr 2; simp only []; omega
    · rw [q] at e2; simp [RM.enc] at e2; rw [e2, ← c3]; congr 2; simp only []; omega
    · rw [q] at e2; simp [RM.enc] at e2; rw [e2, ← c4]; congr 2; simp only []; omega
    · rw [q] at e2; simp [RM.enc] at e2; rw [e2, ← c5]; congr 2; simp only []; omega
    · rw [q] at e2; simp [RM.enc] at e2; rw [e2, ← c6]; congr 2; simp only []; omega
  · rw [List.mem_ofFn] at hm
    obtain ⟨k, rfl⟩ := hm
    obtain ⟨b, o, _, _, _, _, _, _, _, _, h1, h2⟩ := (hx k).choose_spec
    exact ⟨h1, h2⟩
theorem rm_one (rs : List RM) : ∀ u ∈ rs.flatMap RM.enc, u.oneCell' = true := by
  intro u hu
  obtain ⟨x, _, hx⟩ := List.mem_flatMap.1 hu
  simp only [RM.enc, List.mem_cons, List.not_mem_nil, or_false] at hx
  rcases hx with q | q | q | q | q | q | q <;> subst q <;> rfl
set_option maxRecDepth 100000 in
set_option maxHeartbeats 1000000 in
theorem cloneR_any (rs : List RM) (ao : Option Addr) (cap : Nat) (w : World) (h : Gets w ao rs.length 7 (rs.flatMap RM.enc)) (hf : rs.length ≤ 1000000) :
    Calls Tryz.prog 88 #[.slice ao rs.length cap] w fun e w' => ∃ v, e = .returned v ∧ w'.ownsRow w.heap.size 28 7 v rs.length (rs.flatMap RM.enc) ∧ Gr w w' := by
  have H := Lib.hid h
  clear h
  obtain ⟨i0, hi, hz0, hz1, hz2⟩ := info_parts infoRul
  have hgr : ∀ w', Gr w w' → Gets w' ao rs.length 7 (rs.flatMap RM.enc) := fun w' hg => ⟨H.out.1, fun hn => by
    obtain ⟨ad, e, hc⟩ := H.out.2 hn
    exact ⟨ad, e, fun j u hu => cell_gr hg (hc j u hu)⟩⟩
  have HG := Lib.hid hgr
  clear hgr
  cases ao with
  | none =>
    have : rs = [] := by
      cases rs with
      | nil => rfl
      | cons x l => obtain ⟨ad, e, _⟩ := H.out.2 (by simp); cases e
    subst this
    have he : ∀ w : World, (binOp .eql 22 (.slice none 0 cap) (.slice none 0 0)).run Tryz.prog w = .ok (.bool true) w := fun _ => rfl
    simp only [List.length_nil]
    go_enter Tryz.func88, Tryz.ntmps88
    go_wp2_with fail
    go_ret
    exact ⟨_, rfl, World.ownsRow_nil _ _ _ _, Gr.refl _⟩
  | some a =>
    obtain ⟨b, o, s⟩ := a
    have he : ∀ w : World, (binOp .eql 22 (.slice (some ⟨b, o, s⟩) rs.length cap) (.slice none 0 0)).run Tryz.prog w = .ok (.bool false) w := fun _ => rfl
    go_enter Tryz.func88, Tryz.ntmps88
    go_wp2_with (at_builtin; refine wpList_append_gets _ rfl _ _ 22 rfl w.heap.size 28 i0 (.agg #[.string (bs []), .bool false, .int .i64 0, .int .i64 0, .int .i64 0, .int .i64 0, .slice none 0 0]) 7 80 Tryz.underlying22 hi hz0 hz1 hz2 rfl (by decide) _ 0 [] rfl (World.ownsRow_made w #[] 0 (Nat.le_refl _) (by simp) rfl) (some ⟨b, o, s⟩) rs.length cap (rs.flatMap RM.enc) rfl (HG.out _ ((Gr.refl _).alloc _)) (rm_one rs) (by unfold maxLen; omega) (by omega) (by simp) ?_; intro v' w1 hown' hgrow hnil)
    rw [Nat.zero_add, List.nil_append] at hown'
    go_ret
    exact ⟨v', rfl, hown', ((Gr.refl w).alloc _).grown hgrow (fun k e => by cases e; exact Nat.le_refl _)⟩
end Go.Proofs.YtadldblpkgackaaGreatDoor
set_option linter.unusedVariables false
set_option linter.unusedSimpArgs false
namespace Go.Proofs.YtadldblpkgackaaGreatDoor
open Go.RowKit
open Classical

/-- After the store. -/
def FinC (wr : World) (g o : Nat) (l : List St) (w : World) : Prop :=
  ∃ (w1 : World) (v : Value), w = w1.setCell ⟨g, o, none⟩ v ∧ Gr wr w1 ∧ w1.ownsRow wr.heap.size 9 1 v l.length (strV l)
/-- What is known of each slot as soon as its operation is done. -/
def um5F (wr : World) (PB g n vc k : Nat) (wa : Option Addr) (wl : List St) (wc : Nat) (t14 t15 t16 t17 t18 t19 t20 t21 t22 t23 t24 t25 : Value) (d : Array Bool) (w : World) : Prop :=
  (d.getD 12 false = false → Gr wr w) ∧ (d.getD 0 false = true → t14 = .pointer (some ⟨PB, 2, none⟩)) ∧
  (d.getD 1 false = true → t15 = .slice (some ⟨g, 0, none⟩) n vc) ∧
  (d.getD 2 false = true → t16 = .int .i64 (k : Int)) ∧
  (d.getD 3 false = true → t17 = .pointer (some ⟨PB, 2, none⟩)) ∧
  (d.getD 4 false = true → t18 = .slice (some ⟨g, 0, none⟩) n vc) ∧
  (d.getD 5 false = true → t19 = .int .i64 (k : Int)) ∧
  (d.getD 6 false = true → t20 = .pointer (some ⟨g, k * 7, none⟩)) ∧
  (d.getD 7 false = true → t21 = .pointer (some ⟨g, k * 7 + 6, none⟩)) ∧
  (d.getD 8 false = true → t22 = .slice wa wl.length wc) ∧
  (d.getD 9 false = true → (d.getD 12 false = false → w.ownsRow wr.heap.size 9 1 t23 wl.length (strV wl))) ∧
  (d.getD 10 false = true → t24 = .pointer (some ⟨g, k * 7, none⟩)) ∧
  (d.getD 11 false = true → (t25 = .pointer (some ⟨g, k * 7 + 6, none⟩) ∧ d.getD 10 false = true)) ∧
  (d.getD 12 false = true → ((∀ j, j < 12 → d.getD j false = true) ∧ FinC wr g (k * 7 + 6) wl w))
/-- The frame. -/
def um5A (PB k : Nat) (t14 t15 t16 t17 t18 t19 t20 t21 t22 t23 t24 t25 s0 s2 s4 s5 s6 s7 s8 s9 s10 s11 s12 s13 s26 s27 : Value) : Act := { tmps := #[s0, .pointer (some ⟨PB, 0, none⟩), s2, .int .i64 (k : Int), s4, s5, s6, s7, s8, s9, s10, s11, s12, s13, t14, t15, t16, t17, t18, t19, t20, t21, t22, t23, t24, t25, s26, s27], defers := [] }

set_option maxRecDepth 100000 in
set_option maxHeartbeats 4000000 in
theorem um5 {Q : Exit → Act → World → Prop} {wr : World} {PB g n vc k : Nat} {wa : Option Addr} {wl : List St} {wc : Nat}  {s0 s2 s4 s5 s6 s7 s8 s9 s10 s11 s12 s13 s14 s15 s16 s17 s18 s19 s20 s21 s22 s23 s24 s25 s26 s27 : Value} {ps vs : List Value} (hps : Row wr PB 24 ps) (h2 : ps[2]? = some (.slice (some ⟨g, 0, none⟩) n vc)) (hrow : Row wr g 28 vs) (h6 : vs[k * 7 + 6]? = some (.slice wa wl.length wc)) (hsl : SlOf 1 RS wr wa wl) (hk : k < n) (hml : wl.length ≤ 16)
    (h' : ∀ t14 t15 t16 t17 t18 t19 t20 t21 t22 t23 t24 t25 wx, FinC wr g (k * 7 + 6) wl wx → Q .normal (um5A PB k t14 t15 t16 t17 t18 t19 t20 t21 t22 t23 t24 t25 s0 s2 s4 s5 s6 s7 s8 s9 s10 s11 s12 s13 s26 s27) wx) :
    (Code.region 5 (regIn 5 Tryz.f57) true).wp Tryz.prog Q { tmps := #[s0, .pointer (some ⟨PB, 0, none⟩), s2, .int .i64 (k : Int), s4, s5, s6, s7, s8, s9, s10, s11, s12, s13, s14, s15, s16, s17, s18, s19, s20, s21, s22, s23, s24, s25, s26, s27], defers := [] } wr := by
  have HPS := PLift.up hps
  have HV2 := PLift.up h2
  have HRW := PLift.up hrow
  have HV6 := PLift.up h6
  have HSL := PLift.up hsl
  have HK1 := PLift.up hk
  have HML := PLift.up hml
  clear hps h2 hrow h6 hsl hk hml
  simp only [regIn, Tryz.f57, regOps, Option.bind_some, Option.getD_some, Nat.beq, cond_true, cond_false]
  refine wp_region_steps (fun done a w => ∃ t14 t15 t16 t17 t18 t19 t20 t21 t22 t23 t24 t25, a = um5A PB k t14 t15 t16 t17 t18 t19 t20 t21 t22 t23 t24 t25 s0 s2 s4 s5 s6 s7 s8 s9 s10 s11 s12 s13 s26 s27 ∧ um5F wr PB g n vc k wa wl wc t14 t15 t16 t17 t18 t19 t20 t21 t22 t23 t24 t25 done w) (by kernel_rfl) (by kernel_rfl) ?_ ⟨?_, ?_, ?_, ?_, ?_, ?_, ?_, ?_, ?_, ?_, ?_, ?_, ?_, trivial⟩ ?_
  · exact ⟨s14, s15, s16, s17, s18, s19, s20, s21, s22, s23, s24, s25, rfl, fun _ => (Gr.refl _).drew, fun q => absurd q (by decide), fun q => absurd q (by decide), fun q => absurd q (by decide), fun q => absurd q (by decide), fun q => absurd q (by decide), fun q => absurd q (by decide), fun q => absurd q (by decide), fun q => absurd q (by decide), fun q => absurd q (by decide), fun q => absurd q (by decide), fun q => absurd q (by decide), fun q => absurd q (by decide), fun q => absurd q (by decide)⟩
  · rintro done a w hsz hnot hdep ⟨t14, t15, t16, t17, t18, t19, t20, t21, t22, t23, t24, t25, rfl, gw, f0, f1, f2, f3, f4, f5, f6, f7, f8, f9, f10, f11, f12⟩ K hK
    have hn : ¬ done.getD 0 false = true := by rw [getD_both hnot]; decide
    have n12 : done.getD 12 false = false := by
      cases e : done.getD 12 false with
      | false => rfl
      | true => exact absurd ((f12 e).1 0 (by decide)) hn
    replace gw := gw n12
    have HK := PLift.up hK
    clear hK 
    simp only [um5A]
    go_simp
    have gg : Gr w w := Gr.refl _
    refine HK.down _ _ ⟨_, _, _, _, _, _, _, _, _, _, _, _, rfl, fun _ => gw, fun _ => rfl, fun q => f1 (done_old q (by decide)), fun q => f2 (done_old q (by decide)), fun q => f3 (done_old q (by decide)), fun q => f4 (done_old q (by decide)), fun q => f5 (done_old q (by decide)), fun q => f6 (done_old q (by decide)), fun q => f7 (done_old q (by decide)), fun q => f8 (done_old q (by decide)), fun q q2 => Gr.owns (f9 (done_old q (by decide)) n12) gg, fun q => f10 (done_old q (by decide)), fun q => (let h := f11 (done_old q (by decide)); ⟨h.1, getD_set_true h.2⟩), fun q => absurd ((f12 (done_old q (by decide))).1 0 (by decide)) hn⟩
  · rintro done a w hsz hnot hdep ⟨t14, t15, t16, t17, t18, t19, t20, t21, t22, t23, t24, t25, rfl, gw, f0, f1, f2, f3, f4, f5, f6, f7, f8, f9, f10, f11, f12⟩ K hK
    have hn : ¬ done.getD 1 false = true := by rw [getD_both hnot]; decide
    have d0 := hdep 0 (by kernel_rfl)
    obtain rfl := f0 d0
    have n12 : done.getD 12 false = false := by
      cases e : done.getD 12 false with
      | false => rfl
      | true => exact absurd ((f12 e).1 1 (by decide)) hn
    replace gw := gw n12
    have px := HPS.down.gr gw
    have c2 : w.cell? ⟨PB, 2, none⟩ = some (.slice (some ⟨g, 0, none⟩) n vc) := by rw [px.cell 2 (List.getElem?_eq_some_iff.1 HV2.down).1]; exact congrArg some (List.getElem?_eq_some_iff.1 HV2.down).2
    have ch := has_of_cell c2
    clear px
    have HK := PLift.up hK
    clear hK d0
    simp only [um5A]
    go_simp
    have gg : Gr w w := Gr.refl _
    refine HK.down _ _ ⟨_, _, _, _, _, _, _, _, _, _, _, _, rfl, fun _ => gw, fun q => f0 (done_old q (by decide)), fun _ => rfl, fun q => f2 (done_old q (by decide)), fun q => f3 (done_old q (by decide)), fun q => f4 (done_old q (by decide)), fun q => f5 (done_old q (by decide)), fun q => f6 (done_old q (by decide)), fun q => f7 (done_old q (by decide)), fun q => f8 (done_old q (by decide)), fun q q2 => Gr.owns (f9 (done_old q (by decide)) n12) gg, fun q => f10 (done_old q (by decide)), fun q => (let h := f11 (done_old q (by decide)); ⟨h.1, getD_set_true h.2⟩), fun q => absurd ((f12 (done_old q (by decide))).1 1 (by decide)) hn⟩
  · rintro done a w hsz hnot hdep ⟨t14, t15, t16, t17, t18, t19, t20, t21, t22, t23, t24, t25, rfl, gw, f0, f1, f2, f3, f4, f5, f6, f7, f8, f9, f10, f11, f12⟩ K hK
    have hn : ¬ done.getD 2 false = true := by rw [getD_both hnot]; decide
    have n12 : done.getD 12 false = false := by
      cases e : done.getD 12 false with
      | false => rfl
      | true => exact absurd ((f12 e).1 2 (by decide)) hn
    replace gw := gw n12
    have HK := PLift.up hK
    clear hK 
    simp only [um5A]
    go_simp
    have gg : Gr w w := Gr.refl _
    refine HK.down _ _ ⟨_, _, _, _, _, _, _, _, _, _, _, _, rfl, fun _ => gw, fun q => f0 (done_old q (by decide)), fun q => f1 (done_old q (by decide)), fun _ => rfl, fun q => f3 (done_old q (by decide)), fun q => f4 (done_old q (by decide)), fun q => f5 (done_old q (by decide)), fun q => f6 (done_old q (by decide)), fun q => f7 (done_old q (by decide)), fun q => f8 (done_old q (by decide)), fun q q2 => Gr.owns (f9 (done_old q (by decide)) n12) gg, fun q => f10 (done_old q (by decide)), fun q => (let h := f11 (done_old q (by decide)); ⟨h.1, getD_set_true h.2⟩), fun q => absurd ((f12 (done_old q (by decide))).1 2 (by decide)) hn⟩
  · rintro done a w hsz hnot hdep ⟨t14, t15, t16, t17, t18, t19, t20, t21, t22, t23, t24, t25, rfl, gw, f0, f1, f2, f3, f4, f5, f6, f7, f8, f9, f10, f11, f12⟩ K hK
    have hn : ¬ done.getD 3 false = true := by rw [getD_both hnot]; decide
    have n12 : done.getD 12 false = false := by
      cases e : done.getD 12 false with
      | false => rfl
      | true => exact absurd ((f12 e).1 3 (by decide)) hn
    replace gw := gw n12
    have HK := PLift.up hK
    clear hK 
    simp only [um5A]
    go_simp
    have gg : Gr w w := Gr.refl _
    refine HK.down _ _ ⟨_, _, _, _, _, _, _, _, _, _, _, _, rfl, fun _ => gw, fun q => f0 (done_old q (by decide)), fun q => f1 (done_old q (by decide)), fun q => f2 (done_old q (by decide)), fun _ => rfl, fun q => f4 (done_old q (by decide)), fun q => f5 (done_old q (by decide)), fun q => f6 (done_old q (by decide)), fun q => f7 (done_old q (by decide)), fun q => f8 (done_old q (by decide)), fun q q2 => Gr.owns (f9 (done_old q (by decide)) n12) gg, fun q => f10 (done_old q (by decide)), fun q => (let h := f11 (done_old q (by decide)); ⟨h.1, getD_set_true h.2⟩), fun q => absurd ((f12 (done_old q (by decide))).1 3 (by decide)) hn⟩
  · rintro done a w hsz hnot hdep ⟨t14, t15, t16, t17, t18, t19, t20, t21, t22, t23, t24, t25, rfl, gw, f0, f1, f2, f3, f4, f5, f6, f7, f8, f9, f10, f11, f12⟩ K hK
    have hn : ¬ done.getD 4 false = true := by rw [getD_both hnot]; decide
    have d3 := hdep 3 (by kernel_rfl)
    obtain rfl := f3 d3
    have n12 : done.getD 12 false = false := by
      cases e : done.getD 12 false with
      | false => rfl
      | true => exact absurd ((f12 e).1 4 (by decide)) hn
    replace gw := gw n12
    have px := HPS.down.gr gw
    have c2 : w.cell? ⟨PB, 2, none⟩ = some (.slice (some ⟨g, 0, none⟩) n vc) := by rw [px.cell 2 (List.getElem?_eq_some_iff.1 HV2.down).1]; exact congrArg some (List.getElem?_eq_some_iff.1 HV2.down).2
    have ch := has_of_cell c2
    clear px
    have HK := PLift.up hK
    clear hK d3
    simp only [um5A]
    go_simp
    have gg : Gr w w := Gr.refl _
    refine HK.down _ _ ⟨_, _, _, _, _, _, _, _, _, _, _, _, rfl, fun _ => gw, fun q => f0 (done_old q (by decide)), fun q => f1 (done_old q (by decide)), fun q => f2 (done_old q (by decide)), fun q => f3 (done_old q (by decide)), fun _ => rfl, fun q => f5 (done_old q (by decide)), fun q => f6 (done_old q (by decide)), fun q => f7 (done_old q (by decide)), fun q => f8 (done_old q (by decide)), fun q q2 => Gr.owns (f9 (done_old q (by decide)) n12) gg, fun q => f10 (done_old q (by decide)), fun q => (let h := f11 (done_old q (by decide)); ⟨h.1, getD_set_true h.2⟩), fun q => absurd ((f12 (done_old q (by decide))).1 4 (by decide)) hn⟩
  · rintro done a w hsz hnot hdep ⟨t14, t15, t16, t17, t18, t19, t20, t21, t22, t23, t24, t25, rfl, gw, f0, f1, f2, f3, f4, f5, f6, f7, f8, f9, f10, f11, f12⟩ K hK
    have hn : ¬ done.getD 5 false = true := by rw [getD_both hnot]; decide
    have n12 : done.getD 12 false = false := by
      cases e : done.getD 12 false with
      | false => rfl
      | true => exact absurd ((f12 e).1 5 (by decide)) hn
    replace gw := gw n12
    have HK := PLift.up hK
    clear hK 
    simp only [um5A]
    go_simp
    have gg : Gr w w := Gr.refl _
    refine HK.down _ _ ⟨_, _, _, _, _, _, _, _, _, _, _, _, rfl, fun _ => gw, fun q => f0 (done_old q (by decide)), fun q => f1 (done_old q (by decide)), fun q => f2 (done_old q (by decide)), fun q => f3 (done_old q (by decide)), fun q => f4 (done_old q (by decide)), fun _ => rfl, fun q => f6 (done_old q (by decide)), fun q => f7 (done_old q (by decide)), fun q => f8 (done_old q (by decide)), fun q q2 => Gr.owns (f9 (done_old q (by decide)) n12) gg, fun q => f10 (done_old q (by decide)), fun q => (let h := f11 (done_old q (by decide)); ⟨h.1, getD_set_true h.2⟩), fun q => absurd ((f12 (done_old q (by decide))).1 5 (by decide)) hn⟩
  · rintro done a w hsz hnot hdep ⟨t14, t15, t16, t17, t18, t19, t20, t21, t22, t23, t24, t25, rfl, gw, f0, f1, f2, f3, f4, f5, f6, f7, f8, f9, f10, f11, f12⟩ K hK
    have hn : ¬ done.getD 6 false = true := by rw [getD_both hnot]; decide
    have d4 := hdep 4 (by kernel_rfl)
    have d5 := hdep 5 (by kernel_rfl)
    obtain rfl := f4 d4
    obtain rfl := f5 d5
    have n12 : done.getD 12 false = false := by
      cases e : done.getD 12 false with
      | false => rfl
      | true => exact absurd ((f12 e).1 6 (by decide)) hn
    replace gw := gw n12
    have k1 := HK1.down
    have k2 : (k : Int) < n := by omega
    have k3 : k < n := by omega
    have HK := PLift.up hK
    clear hK d4 d5
    simp only [um5A]
    go_simp
    have gg : Gr w w := Gr.refl _
    refine HK.down _ _ ⟨_, _, _, _, _, _, _, _, _, _, _, _, rfl, fun _ => gw, fun q => f0 (done_old q (by decide)), fun q => f1 (done_old q (by decide)), fun q => f2 (done_old q (by decide)), fun q => f3 (done_old q (by decide)), fun q => f4 (done_old q (by decide)), fun q => f5 (done_old q (by decide)), fun _ => rfl, fun q => f7 (done_old q (by decide)), fun q => f8 (done_old q (by decide)), fun q q2 => Gr.owns (f9 (done_old q (by decide)) n12) gg, fun q => f10 (done_old q (by decide)), fun q => (let h := f11 (done_old q (by decide)); ⟨h.1, getD_set_true h.2⟩), fun q => absurd ((f12 (done_old q (by decide))).1 6 (by decide)) hn⟩
  · rintro done a w hsz hnot hdep ⟨t14, t15, t16, t17, t18, t19, t20, t21, t22, t23, t24, t25, rfl, gw, f0, f1, f2, f3, f4, f5, f6, f7, f8, f9, f10, f11, f12⟩ K hK
    have hn : ¬ done.getD 7 false = true := by rw [getD_both hnot]; decide
    have d6 := hdep 6 (by kernel_rfl)
    obtain rfl := f6 d6
    have n12 : done.getD 12 false = false := by
      cases e : done.getD 12 false with
      | false => rfl
      | true => exact absurd ((f12 e).1 7 (by decide)) hn
    replace gw := gw n12
    have HK := PLift.up hK
    clear hK d6
    simp only [um5A]
    go_simp
    have gg : Gr w w := Gr.refl _
    refine HK.down _ _ ⟨_, _, _, _, _, _, _, _, _, _, _, _, rfl, fun _ => gw, fun q => f0 (done_old q (by decide)), fun q => f1 (done_old q (by decide)), fun q => f2 (done_old q (by decide)), fun q => f3 (done_old q (by decide)), fun q => f4 (done_old q (by decide)), fun q => f5 (done_old q (by decide)), fun q => f6 (done_old q (by decide)), fun _ => rfl, fun q => f8 (done_old q (by decide)), fun q q2 => Gr.owns (f9 (done_old q (by decide)) n12) gg, fun q => f10 (done_old q (by decide)), fun q => (let h := f11 (done_old q (by decide)); ⟨h.1, getD_set_true h.2⟩), fun q => absurd ((f12 (done_old q (by decide))).1 7 (by decide)) hn⟩
  · rintro done a w hsz hnot hdep ⟨t14, t15, t16, t17, t18, t19, t20, t21, t22, t23, t24, t25, rfl, gw, f0, f1, f2, f3, f4, f5, f6, f7, f8, f9, f10, f11, f12⟩ K hK
    have hn : ¬ done.getD 8 false = true := by rw [getD_both hnot]; decide
    have d7 := hdep 7 (by kernel_rfl)
    obtain rfl := f7 d7
    have n12 : done.getD 12 false = false := by
      cases e : done.getD 12 false with
      | false => rfl
      | true => exact absurd ((f12 e).1 8 (by decide)) hn
    replace gw := gw n12
    have gx := HRW.down.gr gw
    have c6 : w.cell? ⟨g, k * 7 + 6, none⟩ = some (.slice wa wl.length wc) := by rw [gx.cell _ (List.getElem?_eq_some_iff.1 HV6.down).1]; exact congrArg some (List.getElem?_eq_some_iff.1 HV6.down).2
    have ch := has_of_cell c6
    clear gx
    have HK := PLift.up hK
    clear hK d7
    simp only [um5A]
    go_simp
    have gg : Gr w w := Gr.refl _
    refine HK.down _ _ ⟨_, _, _, _, _, _, _, _, _, _, _, _, rfl, fun _ => gw, fun q => f0 (done_old q (by decide)), fun q => f1 (done_old q (by decide)), fun q => f2 (done_old q (by decide)), fun q => f3 (done_old q (by decide)), fun q => f4 (done_old q (by decide)), fun q => f5 (done_old q (by decide)), fun q => f6 (done_old q (by decide)), fun q => f7 (done_old q (by decide)), fun _ => rfl, fun q q2 => Gr.owns (f9 (done_old q (by decide)) n12) gg, fun q => f10 (done_old q (by decide)), fun q => (let h := f11 (done_old q (by decide)); ⟨h.1, getD_set_true h.2⟩), fun q => absurd ((f12 (done_old q (by decide))).1 8 (by decide)) hn⟩
  · rintro done a w hsz hnot hdep ⟨t14, t15, t16, t17, t18, t19, t20, t21, t22, t23, t24, t25, rfl, gw, f0, f1, f2, f3, f4, f5, f6, f7, f8, f9, f10, f11, f12⟩ K hK
    have hn : ¬ done.getD 9 false = true := by rw [getD_both hnot]; decide
    have d8 := hdep 8 (by kernel_rfl)
    obtain rfl := f8 d8
    have n12 : done.getD 12 false = false := by
      cases e : done.getD 12 false with
      | false => rfl
      | true => exact absurd ((f12 e).1 9 (by decide)) hn
    replace gw := gw n12
    have HK := PLift.up hK
    clear hK d8
    simp only [um5A]
    go_simp
    refine (cloneW_any wl wa wc w (HSL.down.gr RS.mono gw) (by have := HML.down; omega)).mono ?_
    rintro e w2 ⟨v, rfl, hv, gg⟩
    (try go_simp)
    refine HK.down _ _ ⟨_, _, _, _, _, _, _, _, _, _, _, _, rfl, fun _ => gw.trans gg, fun q => f0 (done_old q (by decide)), fun q => f1 (done_old q (by decide)), fun q => f2 (done_old q (by decide)), fun q => f3 (done_old q (by decide)), fun q => f4 (done_old q (by decide)), fun q => f5 (done_old q (by decide)), fun q => f6 (done_old q (by decide)), fun q => f7 (done_old q (by decide)), fun q => f8 (done_old q (by decide)), ?_, fun q => f10 (done_old q (by decide)), fun q => (let h := f11 (done_old q (by decide)); ⟨h.1, getD_set_true h.2⟩), fun q => absurd ((f12 (done_old q (by decide))).1 9 (by decide)) hn⟩
    exact fun _ _ => ⟨hv.1, hv.2.imp id (fun ⟨g, cap, cur, a1, a2, a3⟩ => ⟨g, cap, cur, a1, Nat.le_trans gw.size a2, a3⟩)⟩
  · rintro done a w hsz hnot hdep ⟨t14, t15, t16, t17, t18, t19, t20, t21, t22, t23, t24, t25, rfl, gw, f0, f1, f2, f3, f4, f5, f6, f7, f8, f9, f10, f11, f12⟩ K hK
    have hn : ¬ done.getD 10 false = true := by rw [getD_both hnot]; decide
    have d1 := hdep 1 (by kernel_rfl)
    have d2 := hdep 2 (by kernel_rfl)
    obtain rfl := f1 d1
    obtain rfl := f2 d2
    have n12 : done.getD 12 false = false := by
      cases e : done.getD 12 false with
      | false => rfl
      | true => exact absurd ((f12 e).1 10 (by decide)) hn
    replace gw := gw n12
    have k1 := HK1.down
    have k2 : (k : Int) < n := by omega
    have k3 : k < n := by omega
    have HK := PLift.up hK
    clear hK d1 d2
    simp only [um5A]
    go_simp
    have gg : Gr w w := Gr.refl _
    refine HK.down _ _ ⟨_, _, _, _, _, _, _, _, _, _, _, _, rfl, fun _ => gw, fun q => f0 (done_old q (by decide)), fun q => f1 (done_old q (by decide)), fun q => f2 (done_old q (by decide)), fun q => f3 (done_old q (by decide)), fun q => f4 (done_old q (by decide)), fun q => f5 (done_old q (by decide)), fun q => f6 (done_old q (by decide)), fun q => f7 (done_old q (by decide)), fun q => f8 (done_old q (by decide)), fun q q2 => Gr.owns (f9 (done_old q (by decide)) n12) gg, fun _ => rfl, fun q => (let h := f11 (done_old q (by decide)); ⟨h.1, getD_set_true h.2⟩), fun q => absurd ((f12 (done_old q (by decide))).1 10 (by decide)) hn⟩
  · rintro done a w hsz hnot hdep ⟨t14, t15, t16, t17, t18, t19, t20, t21, t22, t23, t24, t25, rfl, gw, f0, f1, f2, f3, f4, f5, f6, f7, f8, f9, f10, f11, f12⟩ K hK
    have hn : ¬ done.getD 11 false = true := by rw [getD_both hnot]; decide
    have d10 := hdep 10 (by kernel_rfl)
    obtain rfl := f10 d10
    have n12 : done.getD 12 false = false := by
      cases e : done.getD 12 false with
      | false => rfl
      | true => exact absurd ((f12 e).1 11 (by decide)) hn
    replace gw := gw n12
    have D10 := PLift.up (hdep 10 (by kernel_rfl))
    have HK := PLift.up hK
    clear hK d10
    simp only [um5A]
    go_simp
    have gg : Gr w w := Gr.refl _
    refine HK.down _ _ ⟨_, _, _, _, _, _, _, _, _, _, _, _, rfl, fun _ => gw, fun q => f0 (done_old q (by decide)), fun q => f1 (done_old q (by decide)), fun q => f2 (done_old q (by decide)), fun q => f3 (done_old q (by decide)), fun q => f4 (done_old q (by decide)), fun q => f5 (done_old q (by decide)), fun q => f6 (done_old q (by decide)), fun q => f7 (done_old q (by decide)), fun q => f8 (done_old q (by decide)), fun q q2 => Gr.owns (f9 (done_old q (by decide)) n12) gg, fun q => f10 (done_old q (by decide)), ?_, fun q => absurd ((f12 (done_old q (by decide))).1 11 (by decide)) hn⟩
    exact fun _ => ⟨rfl, getD_set_true D10.down⟩
  · rintro done a w hsz hnot hdep ⟨t14, t15, t16, t17, t18, t19, t20, t21, t22, t23, t24, t25, rfl, gw, f0, f1, f2, f3, f4, f5, f6, f7, f8, f9, f10, f11, f12⟩ K hK
    have hn : ¬ done.getD 12 false = true := by rw [getD_both hnot]; decide
    have d0 := hdep 0 (by kernel_rfl)
    have d1 := hdep 1 (by kernel_rfl)
    have d2 := hdep 2 (by kernel_rfl)
    have d3 := hdep 3 (by kernel_rfl)
    have d4 := hdep 4 (by kernel_rfl)
    have d5 := hdep 5 (by kernel_rfl)
    have d6 := hdep 6 (by kernel_rfl)
    have d7 := hdep 7 (by kernel_rfl)
    have d8 := hdep 8 (by kernel_rfl)
    have d9 := hdep 9 (by kernel_rfl)
    have d11 := hdep 11 (by kernel_rfl)
    obtain rfl := f0 d0
    obtain rfl := f1 d1
    obtain rfl := f2 d2
    obtain rfl := f3 d3
    obtain rfl := f4 d4
    obtain rfl := f5 d5
    obtain rfl := f6 d6
    obtain rfl := f7 d7
    obtain rfl := f8 d8
    obtain ⟨rfl, d10⟩ := f11 d11
    obtain rfl := f10 d10
    have n12 := getD_both hnot
    have g1 := gw n12
    have gx := HRW.down.gr g1
    have cf := gx.free (k * 7 + 6)
    have c6 : w.cell? ⟨g, k * 7 + 6, none⟩ = some (.slice wa wl.length wc) := by rw [gx.cell _ (List.getElem?_eq_some_iff.1 HV6.down).1]; exact congrArg some (List.getElem?_eq_some_iff.1 HV6.down).2
    have ch := has_of_cell c6
    clear gx
    have o9 := f9 d9 n12
    have FN := PLift.up (show FinC wr g (k * 7 + 6) wl (w.setCell ⟨g, k * 7 + 6, none⟩ t23) from ⟨w, t23, rfl, g1, o9⟩)
    have DD := PLift.up (show ∀ j, j < 12 → done.getD j false = true from by intro j hj; match j, hj with | 0, _ => exact d0 | 1, _ => exact d1 | 2, _ => exact d2 | 3, _ => exact d3 | 4, _ => exact d4 | 5, _ => exact d5 | 6, _ => exact d6 | 7, _ => exact d7 | 8, _ => exact d8 | 9, _ => exact d9 | 10, _ => exact d10 | 11, _ => exact d11)
    obtain ⟨v9, n9, rfl⟩ := owns_slice o9
    have HK := PLift.up hK
    clear hK d0 d1 d2 d3 d4 d5 d6 d7 d8
    simp only [um5A]
    go_simp
    refine HK.down _ _ ⟨_, _, _, _, _, _, _, _, _, _, _, _, rfl, fun q => absurd q (by rw [getD_set_same (by rw [hsz]; decide)]; decide), fun q => f0 (done_old q (by decide)), fun q => f1 (done_old q (by decide)), fun q => f2 (done_old q (by decide)), fun q => f3 (done_old q (by decide)), fun q => f4 (done_old q (by decide)), fun q => f5 (done_old q (by decide)), fun q => f6 (done_old q (by decide)), fun q => f7 (done_old q (by decide)), fun q => f8 (done_old q (by decide)), fun q q2 => absurd q2 (by rw [getD_set_same (by rw [hsz]; decide)]; decide), fun q => f10 (done_old q (by decide)), fun _ => ⟨rfl, getD_set_true (DD.down 10 (by decide))⟩, ?_⟩
    exact fun _ => ⟨fun j hj => getD_set_true (DD.down j hj), FN.down⟩
  · rintro done a w hall ⟨t14, t15, t16, t17, t18, t19, t20, t21, t22, t23, t24, t25, rfl, gw, f0, f1, f2, f3, f4, f5, f6, f7, f8, f9, f10, f11, f12⟩
    exact h' _ _ _ _ _ _ _ _ _ _ _ _ w (f12 (hall 12 (by decide))).2
end Go.Proofs.YtadldblpkgackaaGreatDoor
set_option linter.unusedVariables false
set_option linter.unusedSimpArgs false
namespace Go.Proofs.YtadldblpkgackaaGreatDoor
open Go.RowKit
open Classical

theorem flat_put {α : Type} (f : α → List Value) (n : Nat) (hf : ∀ x, (f x).length = n) (x' : α) (v : Value) (j : Nat) (hj : j < n) : ∀ (ts : List α) (k : Nat) (hk : k < ts.length), f x' = (f ts[k]).set j v → (ts.flatMap f).set (k * n + j) v = (ts.set k x').flatMap f := by
  intro ts
  induction ts with
  | nil => intro k hk; simp at hk
  | cons x ts ih =>
    intro k hk h
    cases k with
    | zero =>
      simp only [List.getElem_cons_zero] at h
      rw [List.set_cons_zero, List.flatMap_cons, List.flatMap_cons, h, Nat.zero_mul, Nat.zero_add, List.set_append_left _ _ (by rw [hf]; exact hj)]
    | succ k =>
      simp only [List.getElem_cons_succ] at h
      rw [List.set_cons_succ, List.flatMap_cons, List.flatMap_cons, ← ih k (by simpa using hk) h, List.set_append_right _ _ (by rw [hf, Nat.succ_mul]; omega), hf]
      congr 2
      rw [Nat.succ_mul]; omega
/-- The rules whose words are new so far. -/
structure CpAt (base : Nat) (wr : World) (v : Value) (rs ms : List RM) (k : Nat) : Prop where
  own : wr.ownsRow base 28 7 v rs.length (ms.flatMap RM.enc)
  same : ms.map RM.r = rs.map RM.r
  new : ∀ j (h : j < ms.length), j < k → WAt wr ms[j].a ms[j].r.words ∧ ms[j].r.words.length ≤ ms[j].c
  old : ∀ j, k ≤ j → ms[j]? = rs[j]?
theorem CpAt.len {base : Nat} {wr : World} {v : Value} {rs ms : List RM} {k : Nat} (h : CpAt base wr v rs ms k) : ms.length = rs.length := by
  have := congrArg List.length h.same; simpa using this
theorem CpAt.step {base : Nat} {wr w1 : World} {g n c : Nat} {rs ms : List RM} {k : Nat} (h : CpAt base wr (.slice (some ⟨g, 0, none⟩) n c) rs ms k) (hn : n = rs.length) (hk : k < rs.length) (hg : Gr wr w1) {wb : Nat} {va : Option Addr} {vc : Nat} (hl : ∀ y ∈ rs[k].r.words, y.length ≤ 1000000)
    (ho : w1.ownsRow wb 9 1 (.slice va rs[k].r.words.length vc) rs[k].r.words.length (strV rs[k].r.words)) :
    ∃ ms', CpAt base (w1.setCell ⟨g, k * 7 + 6, none⟩ (.slice va rs[k].r.words.length vc)) (.slice (some ⟨g, 0, none⟩) n c) rs ms' (k + 1) := by
  subst hn
  have hlen := h.len
  have hkm : k < ms.length := by omega
  have e1 : ms[k] = rs[k] := by
    have := h.old k (Nat.le_refl _)
    rw [List.getElem?_eq_getElem hkm, List.getElem?_eq_getElem hk] at this
    exact Option.some.inj this
  have hw : WAt w1 va rs[k].r.words := by
    by_cases hz : rs[k].r.words.length = 0
    · exact .inl (List.length_eq_zero_iff.1 hz)
    · obtain ⟨g2, us, rfl, hr, hu, _⟩ := owns_row ho (by omega)
      refine .inr ⟨g2, 0, us, rfl, hr, fun j hj => ⟨?_, hl _ (List.getElem_mem hj)⟩⟩
      rw [Nat.zero_add, hu j (by omega), List.getElem?_eq_getElem (by simpa [strV] using hj), strV_get hj]
  have gty : Ty w1 g 28 := owns_ty (Gr.owns h.own hg) rfl
  have gset := grownBy_set w1 g (k * 7 + 6) (.slice va rs[k].r.words.length vc)
  have strne : ∀ B, Ty w1 B 9 → some B ≠ some g := fun B hB e => hB.apart gty (by decide) (Option.some.inj e)
  refine ⟨ms.set k ⟨rs[k].r, va, vc⟩, ?_, ?_, fun j hj hjk => ?_, fun j hj => ?_⟩
  · rw [← flat_put RM.enc 7 (fun _ => rfl) ⟨rs[k].r, va, vc⟩ (.slice va rs[k].r.words.length vc) 6 (by omega) ms k hkm (by rw [e1]; rfl)]
    exact owns_put (Gr.owns h.own hg) (by omega) _
  · rw [← h.same, List.map_set]
    refine List.ext_getElem (by simp) (fun j h1 h2 => ?_)
    rw [List.getElem_set]
    split
    · rename_i q; subst q; rw [List.getElem_map, e1]
    · rfl
  · by_cases q : j = k
    · subst q
      rw [List.getElem_set_self]
      exact ⟨hw.kept gset strne, owns_cap ho⟩
    · have hj2 : j < ms.length := by simpa using hj
      rw [List.getElem_set_ne (Ne.symm q)]
      have := h.new j hj2 (by omega)
      exact ⟨(this.1.gr hg).kept gset strne, this.2⟩
  · rw [List.getElem?_set_ne (by omega)]
    exact h.old j (by omega)
theorem CpAt.oth {base : Nat} {wr : World} {v : Value} {rs ms : List RM} {k B o : Nat} {u : Value} (h : CpAt base wr v rs ms k) (ht : Ty wr B 24) : CpAt base (wr.setCell ⟨B, o, none⟩ u) v rs ms k :=
  ⟨h.own.kept (grownBy_set wr B o u) (by
    cases hz : v.ownBlock with
    | none => exact .inl rfl
    | some b => exact .inr (fun e => (owns_ty h.own hz).apart ht (by decide) (Option.some.inj e))), h.same, fun j hj hk => ⟨(h.new j hj hk).1.kept (grownBy_set wr B o u) (fun C hC e => hC.apart ht (by decide) (Option.some.inj e)), (h.new j hj hk).2⟩, h.old⟩
theorem CpAt.start {base : Nat} {w : World} {v : Value} {rs : List RM} (h : w.ownsRow base 28 7 v rs.length (rs.flatMap RM.enc)) : CpAt base w v rs rs 0 := ⟨h, rfl, fun j _ q => absurd q (by omega), fun _ _ => rfl⟩
theorem CpAt.fin {base : Nat} {w : World} {v : Value} {rs ms : List RM} {s : Sch} (h : CpAt base w v rs ms rs.length) (hs : rs.map RM.r = s.rules) (ok : OkS s) : ∃ m : SM, m.enc = [.string (bs s.comp), .bool s.closed, v] ∧ m.sch = s ∧ RlsAt base w m := by
  refine ⟨⟨s.comp, s.closed, ms, v⟩, rfl, ?_, ?_⟩
  · unfold SM.sch
    rw [h.same, hs]
  · have hl : rs.length = s.rules.length := by rw [← hs, List.length_map]
    have hm : ∀ x ∈ ms, x.r ∈ s.rules := fun x hx => by rw [← hs, ← h.same]; exact List.mem_map_of_mem hx
    refine ⟨by show w.ownsRow base _ 7 v ms.length _; rw [h.len]; exact h.own, fun x hx => ?_, fun x hx => ?_, ?_, ?_⟩
    · obtain ⟨j, hj, rfl⟩ := List.getElem_of_mem hx
      exact (h.new j hj (by rw [← h.len]; exact hj)).1
    · obtain ⟨j, hj, rfl⟩ := List.getElem_of_mem hx
      have hr := ok.rls _ (hm _ hx)
      exact ⟨hr, by have := rule_name hr; omega, (h.new j hj (by rw [← h.len]; exact hj)).2⟩
    · show ms.length ≤ 16
      have := ok.few
      rw [h.len]; omega
    · have := vis_len ok.comp
      show s.comp.length ≤ 1000000
      omega
set_option maxRecDepth 100000 in
set_option maxHeartbeats 4000000 in
theorem copied_any (s : Sch) (a : Option Addr) (c : Nat) (w : World) (h : SlOf 7 RRul w a s.rules) (ho : OkS s) :
    Calls Tryz.prog 57 #[.agg #[.string (bs s.comp), .bool s.closed, .slice a s.rules.length c]] w fun e w' => ∃ m : SM, e = .returned (.agg m.enc.toArray) ∧ m.sch = s ∧ RlsAt w.heap.size w' m ∧ Gr w w' := by
  have H := Lib.hid h
  have OK := Lib.hid ho
  clear h ho
  go_enter Tryz.func57, Tryz.ntmps57
  obtain ⟨rs, hrs, hgets, hwd⟩ := rms_of H.out
  have RSL : Hid (rs.length = s.rules.length) := Lib.hid (by rw [← hrs, List.length_map])
  have RS0 := Lib.hid hrs
  have WD := Lib.hid hwd
  have GT := Lib.hid hgets
  clear hrs hwd hgets
  have l16 := OK.out.few
  rw [← RSL.out] at GT ⊢
  go_wp2_with fail
  have RP : Hid (Row ((w.alloc (.cells #[.string (bs s.comp), .bool s.closed, .slice a rs.length c] 24)).alloc (.cells #[.string ⟨#[]⟩, .bool false, .slice none 0 0] 24)) w.heap.size 24 [.string (bs s.comp), .bool s.closed, .slice a rs.length c]) := Lib.hid ((Row.new w #[.string (bs s.comp), .bool s.closed, .slice a rs.length c] _).alloc _)
  have RR : Hid (Row ((w.alloc (.cells #[.string (bs s.comp), .bool s.closed, .slice a rs.length c] 24)).alloc (.cells #[.string ⟨#[]⟩, .bool false, .slice none 0 0] 24)) (w.heap.size + 1) 24 [.string ⟨#[]⟩, .bool false, .slice none 0 0]) := Lib.hid (by
    have q := Row.new (w.alloc (.cells #[.string (bs s.comp), .bool s.closed, .slice a rs.length c] 24)) #[.string ⟨#[]⟩, .bool false, .slice none 0 0] 24
    have e : (w.alloc (.cells #[.string (bs s.comp), .bool s.closed, .slice a rs.length c] 24)).heap.size = w.heap.size + 1 := by simp
    rw [e] at q
    exact q)
  obtain ⟨W1, hW1⟩ : ∃ W : World, Hid (W = (w.alloc (.cells #[.string (bs s.comp), .bool s.closed, .slice a rs.length c] 24)).alloc (.cells #[.string ⟨#[]⟩, .bool false, .slice none 0 0] 24)) := ⟨_, Lib.hid rfl⟩
  have G1 : Hid (Gr w W1) := Lib.hid (by rw [hW1.out]; exact ((Gr.refl _).alloc _).alloc _)
  rw [← hW1.out] at RP RR ⊢
  obtain ⟨PB, hPB⟩ : ∃ B : Nat, Hid (w.heap.size = B) := ⟨_, Lib.hid rfl⟩
  rw [hPB.out] at RP RR ⊢
  clear hW1
  refine (cloneR_any rs a c _ ⟨GT.out.1, fun hn => by
    obtain ⟨ad, e, hc⟩ := GT.out.2 hn
    exact ⟨ad, e, fun j u hu => cell_gr G1.out (hc j u hu)⟩⟩ (by have := RSL.out; omega)).mono ?_
  rintro e w1 ⟨v, rfl, hown, hg⟩
  obtain ⟨va, vc, rfl⟩ := owns_slice hown
  have OWN := Lib.hid hown
  have RP1 := Lib.hid (RP.out.gr hg)
  have G12 := Lib.hid hg
  have G2 := Lib.hid (G1.out.trans hg)
  have hs1 : Hid (PB < w1.heap.size) := Lib.hid RP1.out.has
  clear hown hg
  have c2 := RP1.out.cell 2 (by simp)
  have hh := has_of_cell c2
  have f2 := RP1.out.free 2
  go_wp2_with fail
  have HB := Lib.hid hPB.out
  have RR1 := Lib.hid (RR.out.gr G12.out)
  have OW : Hid (w1.ownsRow PB 28 7 (.slice va rs.length vc) rs.length (rs.flatMap RM.enc)) := Lib.hid (owns_low OWN.out (by have := G1.out.size; rw [HB.out] at this; exact this))
  obtain ⟨n, hn⟩ : ∃ n, rs.length = n := ⟨_, rfl⟩
  have NL := Lib.hid hn
  have n16 : n ≤ 16 := by have := RSL.out; omega
  rw [hn] at OW RP1 ⊢
  obtain ⟨WS, hWS⟩ : ∃ W : World, Hid (W = w1.setCell ⟨PB, 2, none⟩ (.slice va n vc)) := ⟨_, Lib.hid rfl⟩
  have RPS : Hid (Row WS PB 24 [.string (bs s.comp), .bool s.closed, .slice va n vc]) := Lib.hid (by rw [hWS.out]; exact RP1.out.set 2 _)
  have RRS : Hid (Row WS (PB + 1) 24 [.string ⟨#[]⟩, .bool false, .slice none 0 0]) := Lib.hid (by rw [hWS.out]; exact RR1.out.other _ _ (by show PB ≠ PB + 1; omega))
  have OWS : Hid (CpAt PB WS (.slice va n vc) rs rs 0) := Lib.hid (CpAt.start (by
    rw [hWS.out, hn]; exact OW.out.kept (grownBy_set w1 PB 2 _) (by
      cases hz : (Value.slice va n vc).ownBlock with
      | none => exact .inl rfl
      | some b => exact .inr (fun e => (owns_ty OW.out hz).apart RP1.out.ty (by decide) (Option.some.inj e)))))
  have GS : Hid (Gr w WS) := Lib.hid (by rw [hWS.out]; exact G2.out.setc (by rw [HB.out]; exact Nat.le_refl _))
  rw [← hWS.out]
  clear hn hWS c2 hh f2 RP RR RP1 RR1 OWN OW hPB
  go_loopw [11] (fun i wr => ∃ k : Nat, k ≤ n ∧ i = .int .i64 k ∧ (∃ ms, CpAt PB wr (.slice va n vc) rs ms k) ∧ Row wr PB 24 [.string (bs s.comp), .bool s.closed, .slice va n vc] ∧ Row wr (PB + 1) 24 [.string ⟨#[]⟩, .bool false, .slice none 0 0] ∧ Gr w wr) (fun i _ => n - (intOf i).toNat)
  case atStart => exact ⟨0, Nat.zero_le _, rfl, ⟨rs, OWS.out⟩, RPS.out, RRS.out, GS.out⟩
  case round =>
    obtain ⟨k, hk, rfl, ⟨ms, hcp⟩, hrp, hrr, hg⟩ := hrel
    have CP := Lib.hid hcp
    have RPK := Lib.hid hrp
    have RRK := Lib.hid hrr
    have HG := Lib.hid hg
    clear hcp hrp hrr hg
    by_cases hlt : k < n
    · have hkr : k < rs.length := by rw [NL.out]; exact hlt
      have hkm : k < ms.length := by rw [CP.out.len]; exact hkr
      have e1 : ms[k] = rs[k] := by
        have := CP.out.old k (Nat.le_refl _)
        rw [List.getElem?_eq_getElem hkm, List.getElem?_eq_getElem hkr] at this
        exact Option.some.inj this
      obtain ⟨g, us, ea, hrow, hus, hbg⟩ := owns_row (n := n) (by have q := CP.out.own; rw [NL.out] at q; exact q) (by omega)
      subst ea
      have H6 : us[k * 7 + 6]? = some (.slice rs[k].a rs[k].r.words.length rs[k].c) := by
        rw [hus (k * 7 + 6) (by omega), flat_at RM.enc 7 (fun _ => rfl) ms k 6 hkm (by omega), e1]
        rfl
      have hmem : rs[k] ∈ rs := List.getElem_mem hkr
      have W6 := WD.out _ hmem
      have hru : rs[k].r ∈ s.rules := by rw [← RS0.out]; exact List.mem_map_of_mem hmem
      have hrl := OK.out.rls _ hru
      have WL := Lib.hid (words_len hrl)
      have SW := Lib.hid (W6.1.gr RS.mono HG.out)
      have WV : Hid (∀ y ∈ rs[k].r.words, y.length ≤ 1000000) := Lib.hid (by
        have hw : rs[k].r.words.all visP = true := by unfold ruleP at hrl; simp only [Bool.and_eq_true] at hrl; exact hrl.2
        exact fun y hy => by have := vis_len (List.all_eq_true.1 hw y hy); omega)
      have HR := Lib.hid hrow
      have H6' := Lib.hid H6
      have HBG := Lib.hid hbg
      clear H6 hrow hus W6 hru hrl e1 hbg
      go_wp2_with fail
      refine wp_code_eq (c := Code.region 5 (regIn 5 Tryz.f57) true) (by kernel_rfl) (um5 (wr := wr) (PB := PB) (g := g) (n := n) (vc := vc) (k := k) (wa := rs[k].a) (wl := rs[k].r.words) (wc := rs[k].c) RPK.out rfl HR.out H6'.out SW.out hlt WL.out ?_)
      intro t14 t15 t16 t17 t18 t19 t20 t21 t22 t23 t24 t25 wx hfin
      have FN := Lib.hid hfin
      clear hfin
      unfold um5A
      go_wp2_with fail
      go_roundw
      case rel =>
        obtain ⟨w3, v3, rfl, hg3, ho3⟩ := FN.out
        obtain ⟨xa, xc, rfl⟩ := owns_slice ho3
        have hpg : PB ≠ g := fun e => by
          subst e
          exact HR.out.ty.apart RPK.out.ty (by decide) rfl
        have hpg2 : PB + 1 ≠ g := fun e => by
          subst e
          exact HR.out.ty.apart RRK.out.ty (by decide) rfl
        exact ⟨k + 1, by omega, by go_num, CP.out.step NL.out.symm hkr hg3 WV.out ho3, (RPK.out.gr hg3).oth (Ne.symm hpg), (RRK.out.gr hg3).oth (Ne.symm hpg2), (HG.out.trans hg3).setc (by rw [HB.out]; exact HBG.out)⟩
      case measure => simp [intOf]; omega
    · obtain rfl : k = n := by omega
      have c0 := RPK.out.cell 0 (by simp)
      have c1 := RPK.out.cell 1 (by simp)
      have c2 := RPK.out.cell 2 (by simp)
      have d0 := RRK.out.cell 0 (by simp)
      have d1 := RRK.out.cell 1 (by simp)
      have d2 := RRK.out.cell 2 (by simp)
      have f0 := RRK.out.free 0
      have f1 := RRK.out.free 1
      have f2 := RRK.out.free 2
      have hh := has_of_cell c0
      have hh2 := has_of_cell d0
      go_wp2_with fail
      have RF := Lib.hid (((RRK.out.set 0 (.string (bs s.comp))).set 1 (.bool s.closed)).set 2 (.slice va k vc))
      obtain ⟨W3, hW3⟩ : ∃ W : World, Hid (W = ((wr.setCell ⟨PB + 1, 0, none⟩ (.string (bs s.comp))).setCell ⟨PB + 1, 1, none⟩ (.bool s.closed)).setCell ⟨PB + 1, 2, none⟩ (.slice va k vc)) := ⟨_, Lib.hid rfl⟩
      have GF : Hid (Gr w W3) := Lib.hid (by
        have := HB.out
        rw [hW3.out]; exact ((HG.out.setc (by omega)).setc (by omega)).setc (by omega))
      have CPF : Hid (CpAt PB W3 (.slice va k vc) rs ms k) := Lib.hid (by
        rw [hW3.out]
        exact ((CP.out.oth RRK.out.ty).oth (RRK.out.set 0 _).ty).oth ((RRK.out.set 0 _).set 1 _).ty)
      rw [← hW3.out] at RF ⊢
      have e0 : W3.cell? ⟨PB + 1, 0, none⟩ = some (.string (bs s.comp)) := RF.out.cell 0 (by simp)
      have e1 : W3.cell? ⟨PB + 1, 1, none⟩ = some (.bool s.closed) := RF.out.cell 1 (by simp)
      have e2 : W3.cell? ⟨PB + 1, 2, none⟩ = some (.slice va k vc) := RF.out.cell 2 (by simp)
      clear hW3 c0 c1 c2 d0 d1 d2 f0 f1 f2 hh hh2
      refine bodyPost_ret (v := .agg #[.string (bs s.comp), .bool s.closed, .slice va k vc]) (by simp [results, Tryz.results57, e0, e1, e2, go_sem]) rfl ?_
      obtain ⟨m, h1, h2, h3⟩ := CpAt.fin (by rw [NL.out]; exact CPF.out) RS0.out OK.out
      exact ⟨m, by rw [h1], h2, by rw [HB.out]; exact h3, GF.out⟩
end Go.Proofs.YtadldblpkgackaaGreatDoor
