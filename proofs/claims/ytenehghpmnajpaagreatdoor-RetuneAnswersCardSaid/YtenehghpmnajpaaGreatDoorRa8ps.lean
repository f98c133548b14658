/- Lemmas and contracts for the proof of RetuneAnswers (several texts in one, printed by wip/tools/pack.py): Ku. -/
import Derived.Test.YtenehghpmnajpaaGreatDoorRa8pm
import Derived.Test.YtenehghpmnajpaaGreatDoorRa8pp
import Derived.Test.YtenehghpmnajpaaGreatDoorRa8pk
import Derived.Test.YtenehghpmnajpaaGreatDoorRa8ph
import Derived.Laws.OwnMore
set_option maxRecDepth 100000
set_option maxHeartbeats 16000000

/-! Plain: the settings of a plan. No program in sight. -/
set_option linter.unusedVariables false
set_option linter.unusedSimpArgs false
namespace Go.Proofs.YtenehghpmnajpaaGreatDoor
open Classical
def WrOk (l : List Clk) (p : Int × Int) : Prop := ∃ u v : Nat, p = ((u : Int), (v : Int)) ∧ u < l.length ∧ (v : Int) < kOf l u
def putS (s : List Int) (p : Int × Int) : List Int := s.set p.1.toNat p.2
theorem putS_ok {l : List Clk} {s : List Int} {p : Int × Int} (hs : SetOk l s) (h : WrOk l p) : SetOk l (putS s p) := by
  obtain ⟨u, v, rfl, hu, hv⟩ := h
  exact hs.set hu (by omega) hv
theorem putS_len (s : List Int) (p : Int × Int) : (putS s p).length = s.length := by simp [putS]
def tailS (s : List Int) : List (Int × Int) → List (List Int)
  | [] => []
  | p :: ps => putS s p :: tailS (putS s p) ps
def pathS (s : List Int) (ps : List (Int × Int)) : List (List Int) := s :: tailS s ps
theorem tailS_len (ps : List (Int × Int)) : ∀ s, (tailS s ps).length = ps.length := by
  induction ps with
  | nil => intro _; rfl
  | cons p ps ih => intro s; simp [tailS, ih]
theorem pathS_len (s : List Int) (ps : List (Int × Int)) : (pathS s ps).length = ps.length + 1 := by simp [pathS, tailS_len]
theorem pathS_step (ps : List (Int × Int)) : ∀ (s : List Int) (i : Nat) (hi : i < ps.length), (pathS s ps)[i + 1]'(by rw [pathS_len]; omega) = putS ((pathS s ps)[i]'(by rw [pathS_len]; omega)) ps[i] := by
  induction ps with
  | nil => intro s i hi; simp at hi
  | cons p ps ih =>
    intro s i hi
    cases i with
    | zero => simp [pathS, tailS]
    | succ i =>
      have := ih (putS s p) i (by simpa using hi)
      simp only [pathS, tailS, List.getElem_cons_succ] at this ⊢
      exact this
theorem pathS_ok {l : List Clk} (ps : List (Int × Int)) {s : List Int} (hs : SetOk l s) (hw : ∀ p ∈ ps, WrOk l p) (i : Nat) (hi : i < (pathS s ps).length) : SetOk l (pathS s ps)[i] := by
  induction i with
  | zero => exact hs
  | succ i ih =>
    have hi' : i < ps.length := by rw [pathS_len] at hi; omega
    rw [pathS_step ps s i hi']
    exact putS_ok (ih (by rw [pathS_len]; omega)) (hw _ (List.getElem_mem hi'))
section
variable {l : List Clk} {cal : List Int → Bool} {src : List Int} {D : List Int → Option Int}
theorem planB_ok (h : DistOk l cal src D) : ∀ (f : Nat) (x : List Int), D x = some (f : Int) →
    (∀ p ∈ planB (nbS l cal) (dz D) f x, WrOk l p) ∧ (∀ i (hi : i < (pathS x (planB (nbS l cal) (dz D) f x)).length), D (pathS x (planB (nbS l cal) (dz D) f x))[i] = some ((f : Int) - i)) := by
  intro f
  induction f with
  | zero =>
    intro x hx
    refine ⟨fun p hp => by simp [planB] at hp, fun i hi => ?_⟩
    have : i = 0 := by simp [planB, pathS, tailS] at hi; exact hi
    subst this
    simp [planB, pathS, hx]
  | succ f ih =>
    intro x hx
    have hz : dz D x = ((f + 1 : Nat) : Int) := by simp [dz, hx]
    obtain ⟨t, h1, h2, h3⟩ := h.found hx (by omega)
    obtain ⟨u, v, hu, hv, hne, hcal, rfl⟩ := mem_nbS.1 h2
    obtain ⟨i1, i2⟩ := ih (x.set u (v : Int)) (by rw [h3]; congr 1; omega)
    have e : planB (nbS l cal) (dz D) (f + 1) x = ((u : Int), (v : Int)) :: planB (nbS l cal) (dz D) f (x.set u (v : Int)) := by
      simp only [planB]
      rw [if_pos (by omega), h1]
    rw [e]
    refine ⟨fun p hp => ?_, fun i hi => ?_⟩
    · rcases List.mem_cons.1 hp with rfl | hp
      · exact ⟨u, v, rfl, hu, hv⟩
      · exact i1 p hp
    · cases i with
      | zero => simp [pathS, hx]
      | succ i =>
        have := i2 i (by simpa [pathS, tailS, putS] using hi)
        simp only [pathS, tailS, putS, List.getElem_cons_succ, Int.toNat_natCast] at this ⊢
        rw [this]; congr 1; omega
theorem planS_ok (h : DistOk l cal src D) {x : List Int} {d : Int} (hx : D x = some d) :
    (∀ p ∈ planS l cal D x, WrOk l p) ∧ (∀ i (hi : i < (pathS x (planS l cal D x)).length), D (pathS x (planS l cal D x))[i] = some (d - i)) := by
  have h0 := h.dist.nonneg x d hx
  have hz : dz D x = d := by simp [dz, hx]
  have := planB_ok h d.toNat x (by rw [hx]; congr 1; omega)
  rw [planS, hz]
  refine ⟨this.1, fun i hi => ?_⟩
  rw [this.2 i hi]; congr 1; omega
end
end Go.Proofs.YtenehghpmnajpaaGreatDoor
/-! A statement of Settings by an invariant (printed by wip/tools/pt.py). -/
set_option linter.unusedVariables false
set_option linter.unusedSimpArgs false
namespace Go.Proofs.YtenehghpmnajpaaGreatDoor
open Go.RowKit
open Classical
def SetV (wr : World) (L : Nat) (x : List Int) (w : World) (v : Value) : Prop := ∃ B c, v = .slice (some ⟨B, 0, none⟩) L c ∧ RowS w B 3 (nums x) ∧ wr.heap.size ≤ B
theorem SetV.gr {wr : World} {L : Nat} {x : List Int} {w w' : World} {v : Value} (h : SetV wr L x w v) (hg : Gr w w') : SetV wr L x w' v := let ⟨B, c, e, hr, hb⟩ := h; ⟨B, c, e, hr.gr hg, hb⟩
def r5F (wr : World) (l : List Clk) (x : List Int) (u v k : Nat) (al : Option Addr) (cl cx c g B P : Nat) (t11 t12 t23 t24 t25 t26 t27 t28 t29 t30 t31 t32 t33 t34 : Value) (d : Array Bool) (w : World) : Prop :=
  Gr wr w ∧ (d.getD 0 false = true → t24 = .slice al l.length cl) ∧
  (d.getD 1 false = true → t25 = .slice (some ⟨g, 0, none⟩) (k + 1) c) ∧
  (d.getD 2 false = true → t26 = .slice (some ⟨g, 0, none⟩) (k + 1) c) ∧
  (d.getD 3 false = true → t27 = .int .i64 ((k + 1 : Nat) : Int)) ∧
  (d.getD 4 false = true → t28 = .int .i64 (k : Int)) ∧
  (d.getD 5 false = true → t29 = .pointer (some ⟨g, k, none⟩)) ∧
  (d.getD 6 false = true → t30 = .slice (some ⟨B, 0, none⟩) x.length cx) ∧
  (d.getD 7 false = true → t31 = .agg #[.int .i64 1, .int .i64 u, .int .i64 v]) ∧
  (d.getD 8 false = true → (∃ y, t32 = .tuple #[y, .int .i64 0] ∧ SetV wr x.length (x.set u (v : Int)) w y)) ∧
  (d.getD 9 false = true → (∃ y, t23 = .tuple #[y, .int .i64 0] ∧ SetV wr x.length (x.set u (v : Int)) w y)) ∧
  (d.getD 10 false = true → SetV wr x.length (x.set u (v : Int)) w t33) ∧
  (d.getD 11 false = true → t34 = .int .i64 0) ∧
  (d.getD 12 false = true → SetV wr x.length (x.set u (v : Int)) w t11) ∧
  (d.getD 13 false = true → t12 = .int .i64 0)
def r5A (l : List Clk) (k : Nat) (al : Option Addr) (cl c g P : Nat) (t11 t12 t23 t24 t25 t26 t27 t28 t29 t30 t31 t32 t33 t34 s1 s2 s3 s4 s5 s6 s7 s9 s13 s14 s15 s16 s17 s18 s19 s20 s21 s22 s35 s36 s37 s38 s39 s40 s41 s42 s43 : Value) : Act := { tmps := #[.slice al l.length cl, s1, s2, s3, s4, s5, s6, s7, .slice (some ⟨g, 0, none⟩) (k + 1) c, s9, .pointer (some ⟨P, 0, none⟩), t11, t12, s13, s14, s15, s16, s17, s18, s19, s20, s21, s22, t23, t24, t25, t26, t27, t28, t29, t30, t31, t32, t33, t34, s35, s36, s37, s38, s39, s40, s41, s42, s43], defers := [] }
theorem r5 {Q : Exit → Act → World → Prop} {wr : World} {l : List Clk} {x : List Int} {u v k : Nat} {al : Option Addr} {cl cx c g B P : Nat}  {s1 s2 s3 s4 s5 s6 s7 s9 s11 s12 s13 s14 s15 s16 s17 s18 s19 s20 s21 s22 s23 s24 s25 s26 s27 s28 s29 s30 s31 s32 s33 s34 s35 s36 s37 s38 s39 s40 s41 s42 s43 : Value} (RX : Row wr P 65 [.int .i64 1, .int .i64 u, .int .i64 v]) (he : SlOf 5 RClk wr al l) (hc : cchk l = 0) (hset : SetOk l x) (hq : wr.cell? ⟨g, k, none⟩ = some (.slice (some ⟨B, 0, none⟩) x.length cx)) (QR : RowS wr B 3 (nums x)) (hu : u < l.length) (hv : (v : Int) < kOf l u) (hk : k ≤ 4096)
    (h' : ∀ t23 t24 t25 t26 t27 t28 t29 t30 t31 t32 t33 t34 B2 c2 wx, Gr wr wx → RowS wx B2 3 (nums (x.set u (v : Int))) → wr.heap.size ≤ B2 → Q .normal (r5A l k al cl c g P (.slice (some ⟨B2, 0, none⟩) x.length c2) (.int .i64 0) t23 t24 t25 t26 t27 t28 t29 t30 t31 t32 t33 t34 s1 s2 s3 s4 s5 s6 s7 s9 s13 s14 s15 s16 s17 s18 s19 s20 s21 s22 s35 s36 s37 s38 s39 s40 s41 s42 s43) wx) :
    (Code.region 5 (regIn 5 Tryz.f44) true).wp Tryz.prog Q { tmps := #[.slice al l.length cl, s1, s2, s3, s4, s5, s6, s7, .slice (some ⟨g, 0, none⟩) (k + 1) c, s9, .pointer (some ⟨P, 0, none⟩), s11, s12, s13, s14, s15, s16, s17, s18, s19, s20, s21, s22, s23, s24, s25, s26, s27, s28, s29, s30, s31, s32, s33, s34, s35, s36, s37, s38, s39, s40, s41, s42, s43], defers := [] } wr := by
  have HE := PLift.up he
  have HT := PLift.up hset
  have HC := PLift.up hc
  clear he hset hc
  simp only [regIn, Tryz.f44, regOps, Option.bind_some, Option.getD_some, Nat.beq, cond_true, cond_false]
  refine wp_region_steps (fun done a w => ∃ t11 t12 t23 t24 t25 t26 t27 t28 t29 t30 t31 t32 t33 t34, a = r5A l k al cl c g P t11 t12 t23 t24 t25 t26 t27 t28 t29 t30 t31 t32 t33 t34 s1 s2 s3 s4 s5 s6 s7 s9 s13 s14 s15 s16 s17 s18 s19 s20 s21 s22 s35 s36 s37 s38 s39 s40 s41 s42 s43 ∧ r5F wr l x u v k al cl cx c g B P t11 t12 t23 t24 t25 t26 t27 t28 t29 t30 t31 t32 t33 t34 done w) (by kernel_rfl) (by kernel_rfl) ?_ ⟨?_, ?_, ?_, ?_, ?_, ?_, ?_, ?_, ?_, ?_, ?_, ?_, ?_, ?_, trivial⟩ ?_
  · exact ⟨s11, s12, s23, s24, s25, s26, s27, s28, s29, s30, s31, s32, s33, s34, rfl, (Gr.refl _).drew, fun q => absurd q (by decide), fun q => absurd q (by decide), fun q => absurd q (by decide), fun q => absurd q (by decide), fun q => absurd q (by decide), fun q => absurd q (by decide), fun q => absurd q (by decide), fun q => absurd q (by decide), fun q => absurd q (by decide), fun q => absurd q (by decide), fun q => absurd q (by decide), fun q => absurd q (by decide), fun q => absurd q (by decide), fun q => absurd q (by decide)⟩
  · rintro done a w hsz hnot hdep ⟨t11, t12, t23, t24, t25, t26, t27, t28, t29, t30, t31, t32, t33, t34, rfl, gw, f0, f1, f2, f3, f4, f5, f6, f7, f8, f9, f10, f11, f12, f13⟩ K hK
    have hn : ¬ done.getD 0 false = true := by rw [getD_both hnot]; decide
    have HK := PLift.up hK
    clear hK 
    simp only [r5A]
    go_simp
    have gg : Gr w w := Gr.refl _
    refine HK.down _ _ ⟨_, _, _, _, _, _, _, _, _, _, _, _, _, _, rfl, gw, fun _ => rfl, kp f1, kp f2, kp f3, kp f4, kp f5, kp f6, kp f7, fun q => (let ⟨y, e, h2⟩ := f8 (done_old q (by decide)); ⟨y, e, h2.gr gg⟩), fun q => (let ⟨y, e, h2⟩ := f9 (done_old q (by decide)); ⟨y, e, h2.gr gg⟩), fun q => (f10 (done_old q (by decide))).gr gg, kp f11, fun q => (f12 (done_old q (by decide))).gr gg, kp f13⟩
  · rintro done a w hsz hnot hdep ⟨t11, t12, t23, t24, t25, t26, t27, t28, t29, t30, t31, t32, t33, t34, rfl, gw, f0, f1, f2, f3, f4, f5, f6, f7, f8, f9, f10, f11, f12, f13⟩ K hK
    have hn : ¬ done.getD 1 false = true := by rw [getD_both hnot]; decide
    have HK := PLift.up hK
    clear hK 
    simp only [r5A]
    go_simp
    have gg : Gr w w := Gr.refl _
    refine HK.down _ _ ⟨_, _, _, _, _, _, _, _, _, _, _, _, _, _, rfl, gw, kp f0, fun _ => rfl, kp f2, kp f3, kp f4, kp f5, kp f6, kp f7, fun q => (let ⟨y, e, h2⟩ := f8 (done_old q (by decide)); ⟨y, e, h2.gr gg⟩), fun q => (let ⟨y, e, h2⟩ := f9 (done_old q (by decide)); ⟨y, e, h2.gr gg⟩), fun q => (f10 (done_old q (by decide))).gr gg, kp f11, fun q => (f12 (done_old q (by decide))).gr gg, kp f13⟩
  · rintro done a w hsz hnot hdep ⟨t11, t12, t23, t24, t25, t26, t27, t28, t29, t30, t31, t32, t33, t34, rfl, gw, f0, f1, f2, f3, f4, f5, f6, f7, f8, f9, f10, f11, f12, f13⟩ K hK
    have hn : ¬ done.getD 2 false = true := by rw [getD_both hnot]; decide
    have HK := PLift.up hK
    clear hK 
    simp only [r5A]
    go_simp
    have gg : Gr w w := Gr.refl _
    refine HK.down _ _ ⟨_, _, _, _, _, _, _, _, _, _, _, _, _, _, rfl, gw, kp f0, kp f1, fun _ => rfl, kp f3, kp f4, kp f5, kp f6, kp f7, fun q => (let ⟨y, e, h2⟩ := f8 (done_old q (by decide)); ⟨y, e, h2.gr gg⟩), fun q => (let ⟨y, e, h2⟩ := f9 (done_old q (by decide)); ⟨y, e, h2.gr gg⟩), fun q => (f10 (done_old q (by decide))).gr gg, kp f11, fun q => (f12 (done_old q (by decide))).gr gg, kp f13⟩
  · rintro done a w hsz hnot hdep ⟨t11, t12, t23, t24, t25, t26, t27, t28, t29, t30, t31, t32, t33, t34, rfl, gw, f0, f1, f2, f3, f4, f5, f6, f7, f8, f9, f10, f11, f12, f13⟩ K hK
    have hn : ¬ done.getD 3 false = true := by rw [getD_both hnot]; decide
    have d2 := hdep 2 (by kernel_rfl)
    obtain rfl := f2 d2
    have HK := PLift.up hK
    clear hK d2
    simp only [r5A]
    go_simp
    have gg : Gr w w := Gr.refl _
    refine HK.down _ _ ⟨_, _, _, _, _, _, _, _, _, _, _, _, _, _, rfl, gw, kp f0, kp f1, kp f2, fun _ => rfl, kp f4, kp f5, kp f6, kp f7, fun q => (let ⟨y, e, h2⟩ := f8 (done_old q (by decide)); ⟨y, e, h2.gr gg⟩), fun q => (let ⟨y, e, h2⟩ := f9 (done_old q (by decide)); ⟨y, e, h2.gr gg⟩), fun q => (f10 (done_old q (by decide))).gr gg, kp f11, fun q => (f12 (done_old q (by decide))).gr gg, kp f13⟩
  · rintro done a w hsz hnot hdep ⟨t11, t12, t23, t24, t25, t26, t27, t28, t29, t30, t31, t32, t33, t34, rfl, gw, f0, f1, f2, f3, f4, f5, f6, f7, f8, f9, f10, f11, f12, f13⟩ K hK
    have hn : ¬ done.getD 4 false = true := by rw [getD_both hnot]; decide
    have d3 := hdep 3 (by kernel_rfl)
    obtain rfl := f3 d3
    have kw : IntKind.i64.wrap (k : Int) = (k : Int) := by rw [IntKind.wrap_i64]; omega
    have HK := PLift.up hK
    clear hK d3
    simp only [r5A]
    go_simp
    have gg : Gr w w := Gr.refl _
    refine HK.down _ _ ⟨_, _, _, _, _, _, _, _, _, _, _, _, _, _, rfl, gw, kp f0, kp f1, kp f2, kp f3, fun _ => rfl, kp f5, kp f6, kp f7, fun q => (let ⟨y, e, h2⟩ := f8 (done_old q (by decide)); ⟨y, e, h2.gr gg⟩), fun q => (let ⟨y, e, h2⟩ := f9 (done_old q (by decide)); ⟨y, e, h2.gr gg⟩), fun q => (f10 (done_old q (by decide))).gr gg, kp f11, fun q => (f12 (done_old q (by decide))).gr gg, kp f13⟩
  · rintro done a w hsz hnot hdep ⟨t11, t12, t23, t24, t25, t26, t27, t28, t29, t30, t31, t32, t33, t34, rfl, gw, f0, f1, f2, f3, f4, f5, f6, f7, f8, f9, f10, f11, f12, f13⟩ K hK
    have hn : ¬ done.getD 5 false = true := by rw [getD_both hnot]; decide
    have d1 := hdep 1 (by kernel_rfl)
    have d4 := hdep 4 (by kernel_rfl)
    obtain rfl := f1 d1
    obtain rfl := f4 d4
    have q0 := cell_gr gw hq
    have hh := has_of_cell q0
    have kk : (k : Int) < (k : Int) + 1 := by omega
    have HK := PLift.up hK
    clear hK d1 d4
    simp only [r5A]
    go_simp
    have gg : Gr w w := Gr.refl _
    refine HK.down _ _ ⟨_, _, _, _, _, _, _, _, _, _, _, _, _, _, rfl, gw, kp f0, kp f1, kp f2, kp f3, kp f4, fun _ => rfl, kp f6, kp f7, fun q => (let ⟨y, e, h2⟩ := f8 (done_old q (by decide)); ⟨y, e, h2.gr gg⟩), fun q => (let ⟨y, e, h2⟩ := f9 (done_old q (by decide)); ⟨y, e, h2.gr gg⟩), fun q => (f10 (done_old q (by decide))).gr gg, kp f11, fun q => (f12 (done_old q (by decide))).gr gg, kp f13⟩
  · rintro done a w hsz hnot hdep ⟨t11, t12, t23, t24, t25, t26, t27, t28, t29, t30, t31, t32, t33, t34, rfl, gw, f0, f1, f2, f3, f4, f5, f6, f7, f8, f9, f10, f11, f12, f13⟩ K hK
    have hn : ¬ done.getD 6 false = true := by rw [getD_both hnot]; decide
    have d5 := hdep 5 (by kernel_rfl)
    obtain rfl := f5 d5
    have q0 := cell_gr gw hq
    have hh := has_of_cell q0
    have HK := PLift.up hK
    clear hK d5
    simp only [r5A]
    go_simp
    have gg : Gr w w := Gr.refl _
    refine HK.down _ _ ⟨_, _, _, _, _, _, _, _, _, _, _, _, _, _, rfl, gw, kp f0, kp f1, kp f2, kp f3, kp f4, kp f5, fun _ => rfl, kp f7, fun q => (let ⟨y, e, h2⟩ := f8 (done_old q (by decide)); ⟨y, e, h2.gr gg⟩), fun q => (let ⟨y, e, h2⟩ := f9 (done_old q (by decide)); ⟨y, e, h2.gr gg⟩), fun q => (f10 (done_old q (by decide))).gr gg, kp f11, fun q => (f12 (done_old q (by decide))).gr gg, kp f13⟩
  · rintro done a w hsz hnot hdep ⟨t11, t12, t23, t24, t25, t26, t27, t28, t29, t30, t31, t32, t33, t34, rfl, gw, f0, f1, f2, f3, f4, f5, f6, f7, f8, f9, f10, f11, f12, f13⟩ K hK
    have hn : ¬ done.getD 7 false = true := by rw [getD_both hnot]; decide
    have r := RX.gr gw
    have c0 := r.cell 0 (by simp)
    have c1 := r.cell 1 (by simp)
    have c2 := r.cell 2 (by simp)
    have ch := r.has
    simp only [List.getElem_cons_zero, List.getElem_cons_succ] at c0 c1 c2
    clear r
    have HK := PLift.up hK
    clear hK 
    simp only [r5A]
    go_simp
    have gg : Gr w w := Gr.refl _
    refine HK.down _ _ ⟨_, _, _, _, _, _, _, _, _, _, _, _, _, _, rfl, gw, kp f0, kp f1, kp f2, kp f3, kp f4, kp f5, kp f6, fun _ => rfl, fun q => (let ⟨y, e, h2⟩ := f8 (done_old q (by decide)); ⟨y, e, h2.gr gg⟩), fun q => (let ⟨y, e, h2⟩ := f9 (done_old q (by decide)); ⟨y, e, h2.gr gg⟩), fun q => (f10 (done_old q (by decide))).gr gg, kp f11, fun q => (f12 (done_old q (by decide))).gr gg, kp f13⟩
  · rintro done a w hsz hnot hdep ⟨t11, t12, t23, t24, t25, t26, t27, t28, t29, t30, t31, t32, t33, t34, rfl, gw, f0, f1, f2, f3, f4, f5, f6, f7, f8, f9, f10, f11, f12, f13⟩ K hK
    have hn : ¬ done.getD 8 false = true := by rw [getD_both hnot]; decide
    have d0 := hdep 0 (by kernel_rfl)
    have d6 := hdep 6 (by kernel_rfl)
    have d7 := hdep 7 (by kernel_rfl)
    obtain rfl := f0 d0
    obtain rfl := f6 d6
    obtain rfl := f7 d7
    have HK := PLift.up hK
    clear hK d0 d6 d7
    simp only [r5A]
    go_simp
    refine (refApply_any l x u v al (some ⟨B, 0, none⟩) cl cx w (clks_gr HE.down gw) ((QR.gr gw).slI (setOk_wide HC.down HT.down)) HC.down HT.down hu hv).mono ?_
    rintro e w2 ⟨B2, c2, rfl, hr, hb, hg⟩
    have gg : Gr w w2 := hg
    clear hg
    (try go_simp)
    refine HK.down _ _ ⟨_, _, _, _, _, _, _, _, _, _, _, _, _, _, rfl, gw.trans gg, kp f0, kp f1, kp f2, kp f3, kp f4, kp f5, kp f6, kp f7, ?_, fun q => (let ⟨y, e, h2⟩ := f9 (done_old q (by decide)); ⟨y, e, h2.gr gg⟩), fun q => (f10 (done_old q (by decide))).gr gg, kp f11, fun q => (f12 (done_old q (by decide))).gr gg, kp f13⟩
    exact fun _ => ⟨_, rfl, B2, c2, rfl, hr, Nat.le_trans gw.size hb⟩
  · rintro done a w hsz hnot hdep ⟨t11, t12, t23, t24, t25, t26, t27, t28, t29, t30, t31, t32, t33, t34, rfl, gw, f0, f1, f2, f3, f4, f5, f6, f7, f8, f9, f10, f11, f12, f13⟩ K hK
    have hn : ¬ done.getD 9 false = true := by rw [getD_both hnot]; decide
    have d8 := hdep 8 (by kernel_rfl)
    obtain ⟨y, rfl, hy⟩ := f8 d8
    have HY := PLift.up hy
    clear hy
    have HK := PLift.up hK
    clear hK 
    simp only [r5A]
    go_simp
    have gg : Gr w w := Gr.refl _
    refine HK.down _ _ ⟨_, _, _, _, _, _, _, _, _, _, _, _, _, _, rfl, gw, kp f0, kp f1, kp f2, kp f3, kp f4, kp f5, kp f6, kp f7, fun _ => ⟨y, rfl, HY.down⟩, ?_, fun q => (f10 (done_old q (by decide))).gr gg, kp f11, fun q => (f12 (done_old q (by decide))).gr gg, kp f13⟩
    exact fun _ => ⟨y, rfl, HY.down⟩
  · rintro done a w hsz hnot hdep ⟨t11, t12, t23, t24, t25, t26, t27, t28, t29, t30, t31, t32, t33, t34, rfl, gw, f0, f1, f2, f3, f4, f5, f6, f7, f8, f9, f10, f11, f12, f13⟩ K hK
    have hn : ¬ done.getD 10 false = true := by rw [getD_both hnot]; decide
    have d9 := hdep 9 (by kernel_rfl)
    obtain ⟨y, rfl, hy⟩ := f9 d9
    have HY := PLift.up hy
    clear hy
    have HK := PLift.up hK
    clear hK 
    simp only [r5A]
    go_simp
    have gg : Gr w w := Gr.refl _
    refine HK.down _ _ ⟨_, _, _, _, _, _, _, _, _, _, _, _, _, _, rfl, gw, kp f0, kp f1, kp f2, kp f3, kp f4, kp f5, kp f6, kp f7, fun q => (let ⟨y, e, h2⟩ := f8 (done_old q (by decide)); ⟨y, e, h2.gr gg⟩), fun _ => ⟨y, rfl, HY.down⟩, ?_, kp f11, fun q => (f12 (done_old q (by decide))).gr gg, kp f13⟩
    exact fun _ => HY.down
  · rintro done a w hsz hnot hdep ⟨t11, t12, t23, t24, t25, t26, t27, t28, t29, t30, t31, t32, t33, t34, rfl, gw, f0, f1, f2, f3, f4, f5, f6, f7, f8, f9, f10, f11, f12, f13⟩ K hK
    have hn : ¬ done.getD 11 false = true := by rw [getD_both hnot]; decide
    have d9 := hdep 9 (by kernel_rfl)
    obtain ⟨y, rfl, hy⟩ := f9 d9
    have HY := PLift.up hy
    clear hy
    have HK := PLift.up hK
    clear hK 
    simp only [r5A]
    go_simp
    have gg : Gr w w := Gr.refl _
    refine HK.down _ _ ⟨_, _, _, _, _, _, _, _, _, _, _, _, _, _, rfl, gw, kp f0, kp f1, kp f2, kp f3, kp f4, kp f5, kp f6, kp f7, fun q => (let ⟨y, e, h2⟩ := f8 (done_old q (by decide)); ⟨y, e, h2.gr gg⟩), fun _ => ⟨y, rfl, HY.down⟩, fun q => (f10 (done_old q (by decide))).gr gg, fun _ => rfl, fun q => (f12 (done_old q (by decide))).gr gg, kp f13⟩
  · rintro done a w hsz hnot hdep ⟨t11, t12, t23, t24, t25, t26, t27, t28, t29, t30, t31, t32, t33, t34, rfl, gw, f0, f1, f2, f3, f4, f5, f6, f7, f8, f9, f10, f11, f12, f13⟩ K hK
    have hn : ¬ done.getD 12 false = true := by rw [getD_both hnot]; decide
    have d10 := hdep 10 (by kernel_rfl)
    have HY := PLift.up (f10 d10)
    have HK := PLift.up hK
    clear hK 
    simp only [r5A]
    go_simp
    have gg : Gr w w := Gr.refl _
    refine HK.down _ _ ⟨_, _, _, _, _, _, _, _, _, _, _, _, _, _, rfl, gw, kp f0, kp f1, kp f2, kp f3, kp f4, kp f5, kp f6, kp f7, fun q => (let ⟨y, e, h2⟩ := f8 (done_old q (by decide)); ⟨y, e, h2.gr gg⟩), fun q => (let ⟨y, e, h2⟩ := f9 (done_old q (by decide)); ⟨y, e, h2.gr gg⟩), fun q => (f10 (done_old q (by decide))).gr gg, kp f11, ?_, kp f13⟩
    exact fun _ => HY.down
  · rintro done a w hsz hnot hdep ⟨t11, t12, t23, t24, t25, t26, t27, t28, t29, t30, t31, t32, t33, t34, rfl, gw, f0, f1, f2, f3, f4, f5, f6, f7, f8, f9, f10, f11, f12, f13⟩ K hK
    have hn : ¬ done.getD 13 false = true := by rw [getD_both hnot]; decide
    have d11 := hdep 11 (by kernel_rfl)
    obtain rfl := f11 d11
    have HK := PLift.up hK
    clear hK d11
    simp only [r5A]
    go_simp
    have gg : Gr w w := Gr.refl _
    refine HK.down _ _ ⟨_, _, _, _, _, _, _, _, _, _, _, _, _, _, rfl, gw, kp f0, kp f1, kp f2, kp f3, kp f4, kp f5, kp f6, kp f7, fun q => (let ⟨y, e, h2⟩ := f8 (done_old q (by decide)); ⟨y, e, h2.gr gg⟩), fun q => (let ⟨y, e, h2⟩ := f9 (done_old q (by decide)); ⟨y, e, h2.gr gg⟩), fun q => (f10 (done_old q (by decide))).gr gg, kp f11, fun q => (f12 (done_old q (by decide))).gr gg, fun _ => rfl⟩
  · rintro done a w hall ⟨t11, t12, t23, t24, t25, t26, t27, t28, t29, t30, t31, t32, t33, t34, rfl, gw, f0, f1, f2, f3, f4, f5, f6, f7, f8, f9, f10, f11, f12, f13⟩
    obtain ⟨B2, c2, rfl, hr, hb⟩ := f12 (hall 12 (by decide))
    obtain rfl := f13 (hall 13 (by decide))
    exact h' _ _ _ _ _ _ _ _ _ _ _ _ B2 c2 w gw hr hb
def p5F (wr : World) (l : List Clk) (x : List Int) (u v k : Nat) (al : Option Addr) (cl cx c g B P : Nat) (t11 t12 t22 t23 t24 t25 t26 t27 t28 t29 t30 t31 t32 t33 : Value) (d : Array Bool) (w : World) : Prop :=
  Gr wr w ∧ (d.getD 0 false = true → t23 = .slice al l.length cl) ∧
  (d.getD 1 false = true → t24 = .slice (some ⟨g, 0, none⟩) (k + 1) c) ∧
  (d.getD 2 false = true → t25 = .slice (some ⟨g, 0, none⟩) (k + 1) c) ∧
  (d.getD 3 false = true → t26 = .int .i64 ((k + 1 : Nat) : Int)) ∧
  (d.getD 4 false = true → t27 = .int .i64 (k : Int)) ∧
  (d.getD 5 false = true → t28 = .pointer (some ⟨g, k, none⟩)) ∧
  (d.getD 6 false = true → t29 = .slice (some ⟨B, 0, none⟩) x.length cx) ∧
  (d.getD 7 false = true → t30 = .agg #[.int .i64 1, .int .i64 u, .int .i64 v]) ∧
  (d.getD 8 false = true → (∃ y, t31 = .tuple #[y, .int .i64 0] ∧ SetV wr x.length (x.set u (v : Int)) w y)) ∧
  (d.getD 9 false = true → (∃ y, t22 = .tuple #[y, .int .i64 0] ∧ SetV wr x.length (x.set u (v : Int)) w y)) ∧
  (d.getD 10 false = true → SetV wr x.length (x.set u (v : Int)) w t32) ∧
  (d.getD 11 false = true → t33 = .int .i64 0) ∧
  (d.getD 12 false = true → SetV wr x.length (x.set u (v : Int)) w t11) ∧
  (d.getD 13 false = true → t12 = .int .i64 0)
def p5A (l : List Clk) (k : Nat) (al : Option Addr) (cl c g P : Nat) (t11 t12 t22 t23 t24 t25 t26 t27 t28 t29 t30 t31 t32 t33 s1 s2 s3 s4 s5 s6 s7 s9 s13 s14 s15 s16 s17 s18 s19 s20 s21 s34 s35 s36 s37 s38 s39 s40 s41 s42 : Value) : Act := { tmps := #[.slice al l.length cl, s1, s2, s3, s4, s5, s6, s7, .slice (some ⟨g, 0, none⟩) (k + 1) c, s9, .pointer (some ⟨P, 0, none⟩), t11, t12, s13, s14, s15, s16, s17, s18, s19, s20, s21, t22, t23, t24, t25, t26, t27, t28, t29, t30, t31, t32, t33, s34, s35, s36, s37, s38, s39, s40, s41, s42], defers := [] }
theorem p5 {Q : Exit → Act → World → Prop} {wr : World} {l : List Clk} {x : List Int} {u v k : Nat} {al : Option Addr} {cl cx c g B P : Nat}  {s1 s2 s3 s4 s5 s6 s7 s9 s11 s12 s13 s14 s15 s16 s17 s18 s19 s20 s21 s22 s23 s24 s25 s26 s27 s28 s29 s30 s31 s32 s33 s34 s35 s36 s37 s38 s39 s40 s41 s42 : Value} (RX : Row wr P 65 [.int .i64 1, .int .i64 u, .int .i64 v]) (he : SlOf 5 RClk wr al l) (hc : cchk l = 0) (hset : SetOk l x) (hq : wr.cell? ⟨g, k, none⟩ = some (.slice (some ⟨B, 0, none⟩) x.length cx)) (QR : RowS wr B 3 (nums x)) (hu : u < l.length) (hv : (v : Int) < kOf l u) (hk : k ≤ 4096)
    (h' : ∀ t22 t23 t24 t25 t26 t27 t28 t29 t30 t31 t32 t33 B2 c2 wx, Gr wr wx → RowS wx B2 3 (nums (x.set u (v : Int))) → wr.heap.size ≤ B2 → Q .normal (p5A l k al cl c g P (.slice (some ⟨B2, 0, none⟩) x.length c2) (.int .i64 0) t22 t23 t24 t25 t26 t27 t28 t29 t30 t31 t32 t33 s1 s2 s3 s4 s5 s6 s7 s9 s13 s14 s15 s16 s17 s18 s19 s20 s21 s34 s35 s36 s37 s38 s39 s40 s41 s42) wx) :
    (Code.region 5 (regIn 5 Tryz.f43) true).wp Tryz.prog Q { tmps := #[.slice al l.length cl, s1, s2, s3, s4, s5, s6, s7, .slice (some ⟨g, 0, none⟩) (k + 1) c, s9, .pointer (some ⟨P, 0, none⟩), s11, s12, s13, s14, s15, s16, s17, s18, s19, s20, s21, s22, s23, s24, s25, s26, s27, s28, s29, s30, s31, s32, s33, s34, s35, s36, s37, s38, s39, s40, s41, s42], defers := [] } wr := by
  have HE := PLift.up he
  have HT := PLift.up hset
  have HC := PLift.up hc
  clear he hset hc
  simp only [regIn, Tryz.f43, regOps, Option.bind_some, Option.getD_some, Nat.beq, cond_true, cond_false]
  refine wp_region_steps (fun done a w => ∃ t11 t12 t22 t23 t24 t25 t26 t27 t28 t29 t30 t31 t32 t33, a = p5A l k al cl c g P t11 t12 t22 t23 t24 t25 t26 t27 t28 t29 t30 t31 t32 t33 s1 s2 s3 s4 s5 s6 s7 s9 s13 s14 s15 s16 s17 s18 s19 s20 s21 s34 s35 s36 s37 s38 s39 s40 s41 s42 ∧ p5F wr l x u v k al cl cx c g B P t11 t12 t22 t23 t24 t25 t26 t27 t28 t29 t30 t31 t32 t33 done w) (by kernel_rfl) (by kernel_rfl) ?_ ⟨?_, ?_, ?_, ?_, ?_, ?_, ?_, ?_, ?_, ?_, ?_, ?_, ?_, ?_, trivial⟩ ?_
  · exact ⟨s11, s12, s22, s23, s24, s25, s26, s27, s28, s29, s30, s31, s32, s33, rfl, (Gr.refl _).drew, fun q => absurd q (by decide), fun q => absurd q (by decide), fun q => absurd q (by decide), fun q => absurd q (by decide), fun q => absurd q (by decide), fun q => absurd q (by decide), fun q => absurd q (by decide), fun q => absurd q (by decide), fun q => absurd q (by decide), fun q => absurd q (by decide), fun q => absurd q (by decide), fun q => absurd q (by decide), fun q => absurd q (by decide), fun q => absurd q (by decide)⟩
  · rintro done a w hsz hnot hdep ⟨t11, t12, t22, t23, t24, t25, t26, t27, t28, t29, t30, t31, t32, t33, rfl, gw, f0, f1, f2, f3, f4, f5, f6, f7, f8, f9, f10, f11, f12, f13⟩ K hK
    have hn : ¬ done.getD 0 false = true := by rw [getD_both hnot]; decide
    have HK := PLift.up hK
    clear hK 
    simp only [p5A]
    go_simp
    have gg : Gr w w := Gr.refl _
    refine HK.down _ _ ⟨_, _, _, _, _, _, _, _, _, _, _, _, _, _, rfl, gw, fun _ => rfl, kp f1, kp f2, kp f3, kp f4, kp f5, kp f6, kp f7, fun q => (let ⟨y, e, h2⟩ := f8 (done_old q (by decide)); ⟨y, e, h2.gr gg⟩), fun q => (let ⟨y, e, h2⟩ := f9 (done_old q (by decide)); ⟨y, e, h2.gr gg⟩), fun q => (f10 (done_old q (by decide))).gr gg, kp f11, fun q => (f12 (done_old q (by decide))).gr gg, kp f13⟩
  · rintro done a w hsz hnot hdep ⟨t11, t12, t22, t23, t24, t25, t26, t27, t28, t29, t30, t31, t32, t33, rfl, gw, f0, f1, f2, f3, f4, f5, f6, f7, f8, f9, f10, f11, f12, f13⟩ K hK
    have hn : ¬ done.getD 1 false = true := by rw [getD_both hnot]; decide
    have HK := PLift.up hK
    clear hK 
    simp only [p5A]
    go_simp
    have gg : Gr w w := Gr.refl _
    refine HK.down _ _ ⟨_, _, _, _, _, _, _, _, _, _, _, _, _, _, rfl, gw, kp f0, fun _ => rfl, kp f2, kp f3, kp f4, kp f5, kp f6, kp f7, fun q => (let ⟨y, e, h2⟩ := f8 (done_old q (by decide)); ⟨y, e, h2.gr gg⟩), fun q => (let ⟨y, e, h2⟩ := f9 (done_old q (by decide)); ⟨y, e, h2.gr gg⟩), fun q => (f10 (done_old q (by decide))).gr gg, kp f11, fun q => (f12 (done_old q (by decide))).gr gg, kp f13⟩
  · rintro done a w hsz hnot hdep ⟨t11, t12, t22, t23, t24, t25, t26, t27, t28, t29, t30, t31, t32, t33, rfl, gw, f0, f1, f2, f3, f4, f5, f6, f7, f8, f9, f10, f11, f12, f13⟩ K hK
    have hn : ¬ done.getD 2 false = true := by rw [getD_both hnot]; decide
    have HK := PLift.up hK
    clear hK 
    simp only [p5A]
    go_simp
    have gg : Gr w w := Gr.refl _
    refine HK.down _ _ ⟨_, _, _, _, _, _, _, _, _, _, _, _, _, _, rfl, gw, kp f0, kp f1, fun _ => rfl, kp f3, kp f4, kp f5, kp f6, kp f7, fun q => (let ⟨y, e, h2⟩ := f8 (done_old q (by decide)); ⟨y, e, h2.gr gg⟩), fun q => (let ⟨y, e, h2⟩ := f9 (done_old q (by decide)); ⟨y, e, h2.gr gg⟩), fun q => (f10 (done_old q (by decide))).gr gg, kp f11, fun q => (f12 (done_old q (by decide))).gr gg, kp f13⟩
  · rintro done a w hsz hnot hdep ⟨t11, t12, t22, t23, t24, t25, t26, t27, t28, t29, t30, t31, t32, t33, rfl, gw, f0, f1, f2, f3, f4, f5, f6, f7, f8, f9, f10, f11, f12, f13⟩ K hK
    have hn : ¬ done.getD 3 false = true := by rw [getD_both hnot]; decide
    have d2 := hdep 2 (by kernel_rfl)
    obtain rfl := f2 d2
    have HK := PLift.up hK
    clear hK d2
    simp only [p5A]
    go_simp
    have gg : Gr w w := Gr.refl _
    refine HK.down _ _ ⟨_, _, _, _, _, _, _, _, _, _, _, _, _, _, rfl, gw, kp f0, kp f1, kp f2, fun _ => rfl, kp f4, kp f5, kp f6, kp f7, fun q => (let ⟨y, e, h2⟩ := f8 (done_old q (by decide)); ⟨y, e, h2.gr gg⟩), fun q => (let ⟨y, e, h2⟩ := f9 (done_old q (by decide)); ⟨y, e, h2.gr gg⟩), fun q => (f10 (done_old q (by decide))).gr gg, kp f11, fun q => (f12 (done_old q (by decide))).gr gg, kp f13⟩
  · rintro done a w hsz hnot hdep ⟨t11, t12, t22, t23, t24, t25, t26, t27, t28, t29, t30, t31, t32, t33, rfl, gw, f0, f1, f2, f3, f4, f5, f6, f7, f8, f9, f10, f11, f12, f13⟩ K hK
    have hn : ¬ done.getD 4 false = true := by rw [getD_both hnot]; decide
    have d3 := hdep 3 (by kernel_rfl)
    obtain rfl := f3 d3
    have kw : IntKind.i64.wrap (k : Int) = (k : Int) := by rw [IntKind.wrap_i64]; omega
    have HK := PLift.up hK
    clear hK d3
    simp only [p5A]
    go_simp
    have gg : Gr w w := Gr.refl _
    refine HK.down _ _ ⟨_, _, _, _, _, _, _, _, _, _, _, _, _, _, rfl, gw, kp f0, kp f1, kp f2, kp f3, fun _ => rfl, kp f5, kp f6, kp f7, fun q => (let ⟨y, e, h2⟩ := f8 (done_old q (by decide)); ⟨y, e, h2.gr gg⟩), fun q => (let ⟨y, e, h2⟩ := f9 (done_old q (by decide)); ⟨y, e, h2.gr gg⟩), fun q => (f10 (done_old q (by decide))).gr gg, kp f11, fun q => (f12 (done_old q (by decide))).gr gg, kp f13⟩
  · rintro done a w hsz hnot hdep ⟨t11, t12, t22, t23, t24, t25, t26, t27, t28, t29, t30, t31, t32, t33, rfl, gw, f0, f1, f2, f3, f4, f5, f6, f7, f8, f9, f10, f11, f12, f13⟩ K hK
    have hn : ¬ done.getD 5 false = true := by rw [getD_both hnot]; decide
    have d1 := hdep 1 (by kernel_rfl)
    have d4 := hdep 4 (by kernel_rfl)
    obtain rfl := f1 d1
    obtain rfl := f4 d4
    have q0 := cell_gr gw hq
    have hh := has_of_cell q0
    have kk : (k : Int) < (k : Int) + 1 := by omega
    have HK := PLift.up hK
    clear hK d1 d4
    simp only [p5A]
    go_simp
    have gg : Gr w w := Gr.refl _
    refine HK.down _ _ ⟨_, _, _, _, _, _, _, _, _, _, _, _, _, _, rfl, gw, kp f0, kp f1, kp f2, kp f3, kp f4, fun _ => rfl, kp f6, kp f7, fun q => (let ⟨y, e, h2⟩ := f8 (done_old q (by decide)); ⟨y, e, h2.gr gg⟩), fun q => (let ⟨y, e, h2⟩ := f9 (done_old q (by decide)); ⟨y, e, h2.gr gg⟩), fun q => (f10 (done_old q (by decide))).gr gg, kp f11, fun q => (f12 (done_old q (by decide))).gr gg, kp f13⟩
  · rintro done a w hsz hnot hdep ⟨t11, t12, t22, t23, t24, t25, t26, t27, t28, t29, t30, t31, t32, t33, rfl, gw, f0, f1, f2, f3, f4, f5, f6, f7, f8, f9, f10, f11, f12, f13⟩ K hK
    have hn : ¬ done.getD 6 false = true := by rw [getD_both hnot]; decide
    have d5 := hdep 5 (by kernel_rfl)
    obtain rfl := f5 d5
    have q0 := cell_gr gw hq
    have hh := has_of_cell q0
    have HK := PLift.up hK
    clear hK d5
    simp only [p5A]
    go_simp
    have gg : Gr w w := Gr.refl _
    refine HK.down _ _ ⟨_, _, _, _, _, _, _, _, _, _, _, _, _, _, rfl, gw, kp f0, kp f1, kp f2, kp f3, kp f4, kp f5, fun _ => rfl, kp f7, fun q => (let ⟨y, e, h2⟩ := f8 (done_old q (by decide)); ⟨y, e, h2.gr gg⟩), fun q => (let ⟨y, e, h2⟩ := f9 (done_old q (by decide)); ⟨y, e, h2.gr gg⟩), fun q => (f10 (done_old q (by decide))).gr gg, kp f11, fun q => (f12 (done_old q (by decide))).gr gg, kp f13⟩
  · rintro done a w hsz hnot hdep ⟨t11, t12, t22, t23, t24, t25, t26, t27, t28, t29, t30, t31, t32, t33, rfl, gw, f0, f1, f2, f3, f4, f5, f6, f7, f8, f9, f10, f11, f12, f13⟩ K hK
    have hn : ¬ done.getD 7 false = true := by rw [getD_both hnot]; decide
    have r := RX.gr gw
    have c0 := r.cell 0 (by simp)
    have c1 := r.cell 1 (by simp)
    have c2 := r.cell 2 (by simp)
    have ch := r.has
    simp only [List.getElem_cons_zero, List.getElem_cons_succ] at c0 c1 c2
    clear r
    have HK := PLift.up hK
    clear hK 
    simp only [p5A]
    go_simp
    have gg : Gr w w := Gr.refl _
    refine HK.down _ _ ⟨_, _, _, _, _, _, _, _, _, _, _, _, _, _, rfl, gw, kp f0, kp f1, kp f2, kp f3, kp f4, kp f5, kp f6, fun _ => rfl, fun q => (let ⟨y, e, h2⟩ := f8 (done_old q (by decide)); ⟨y, e, h2.gr gg⟩), fun q => (let ⟨y, e, h2⟩ := f9 (done_old q (by decide)); ⟨y, e, h2.gr gg⟩), fun q => (f10 (done_old q (by decide))).gr gg, kp f11, fun q => (f12 (done_old q (by decide))).gr gg, kp f13⟩
  · rintro done a w hsz hnot hdep ⟨t11, t12, t22, t23, t24, t25, t26, t27, t28, t29, t30, t31, t32, t33, rfl, gw, f0, f1, f2, f3, f4, f5, f6, f7, f8, f9, f10, f11, f12, f13⟩ K hK
    have hn : ¬ done.getD 8 false = true := by rw [getD_both hnot]; decide
    have d0 := hdep 0 (by kernel_rfl)
    have d6 := hdep 6 (by kernel_rfl)
    have d7 := hdep 7 (by kernel_rfl)
    obtain rfl := f0 d0
    obtain rfl := f6 d6
    obtain rfl := f7 d7
    have HK := PLift.up hK
    clear hK d0 d6 d7
    simp only [p5A]
    go_simp
    refine (proApply_any l x u v al (some ⟨B, 0, none⟩) cl cx w (clks_gr HE.down gw) ((QR.gr gw).slI (setOk_wide HC.down HT.down)) HC.down HT.down hu hv).mono ?_
    rintro e w2 ⟨B2, c2, rfl, hr, hb, hg⟩
    have gg : Gr w w2 := hg
    clear hg
    (try go_simp)
    refine HK.down _ _ ⟨_, _, _, _, _, _, _, _, _, _, _, _, _, _, rfl, gw.trans gg, kp f0, kp f1, kp f2, kp f3, kp f4, kp f5, kp f6, kp f7, ?_, fun q => (let ⟨y, e, h2⟩ := f9 (done_old q (by decide)); ⟨y, e, h2.gr gg⟩), fun q => (f10 (done_old q (by decide))).gr gg, kp f11, fun q => (f12 (done_old q (by decide))).gr gg, kp f13⟩
    exact fun _ => ⟨_, rfl, B2, c2, rfl, hr, Nat.le_trans gw.size hb⟩
  · rintro done a w hsz hnot hdep ⟨t11, t12, t22, t23, t24, t25, t26, t27, t28, t29, t30, t31, t32, t33, rfl, gw, f0, f1, f2, f3, f4, f5, f6, f7, f8, f9, f10, f11, f12, f13⟩ K hK
    have hn : ¬ done.getD 9 false = true := by rw [getD_both hnot]; decide
    have d8 := hdep 8 (by kernel_rfl)
    obtain ⟨y, rfl, hy⟩ := f8 d8
    have HY := PLift.up hy
    clear hy
    have HK := PLift.up hK
    clear hK 
    simp only [p5A]
    go_simp
    have gg : Gr w w := Gr.refl _
    refine HK.down _ _ ⟨_, _, _, _, _, _, _, _, _, _, _, _, _, _, rfl, gw, kp f0, kp f1, kp f2, kp f3, kp f4, kp f5, kp f6, kp f7, fun _ => ⟨y, rfl, HY.down⟩, ?_, fun q => (f10 (done_old q (by decide))).gr gg, kp f11, fun q => (f12 (done_old q (by decide))).gr gg, kp f13⟩
    exact fun _ => ⟨y, rfl, HY.down⟩
  · rintro done a w hsz hnot hdep ⟨t11, t12, t22, t23, t24, t25, t26, t27, t28, t29, t30, t31, t32, t33, rfl, gw, f0, f1, f2, f3, f4, f5, f6, f7, f8, f9, f10, f11, f12, f13⟩ K hK
    have hn : ¬ done.getD 10 false = true := by rw [getD_both hnot]; decide
    have d9 := hdep 9 (by kernel_rfl)
    obtain ⟨y, rfl, hy⟩ := f9 d9
    have HY := PLift.up hy
    clear hy
    have HK := PLift.up hK
    clear hK 
    simp only [p5A]
    go_simp
    have gg : Gr w w := Gr.refl _
    refine HK.down _ _ ⟨_, _, _, _, _, _, _, _, _, _, _, _, _, _, rfl, gw, kp f0, kp f1, kp f2, kp f3, kp f4, kp f5, kp f6, kp f7, fun q => (let ⟨y, e, h2⟩ := f8 (done_old q (by decide)); ⟨y, e, h2.gr gg⟩), fun _ => ⟨y, rfl, HY.down⟩, ?_, kp f11, fun q => (f12 (done_old q (by decide))).gr gg, kp f13⟩
    exact fun _ => HY.down
  · rintro done a w hsz hnot hdep ⟨t11, t12, t22, t23, t24, t25, t26, t27, t28, t29, t30, t31, t32, t33, rfl, gw, f0, f1, f2, f3, f4, f5, f6, f7, f8, f9, f10, f11, f12, f13⟩ K hK
    have hn : ¬ done.getD 11 false = true := by rw [getD_both hnot]; decide
    have d9 := hdep 9 (by kernel_rfl)
    obtain ⟨y, rfl, hy⟩ := f9 d9
    have HY := PLift.up hy
    clear hy
    have HK := PLift.up hK
    clear hK 
    simp only [p5A]
    go_simp
    have gg : Gr w w := Gr.refl _
    refine HK.down _ _ ⟨_, _, _, _, _, _, _, _, _, _, _, _, _, _, rfl, gw, kp f0, kp f1, kp f2, kp f3, kp f4, kp f5, kp f6, kp f7, fun q => (let ⟨y, e, h2⟩ := f8 (done_old q (by decide)); ⟨y, e, h2.gr gg⟩), fun _ => ⟨y, rfl, HY.down⟩, fun q => (f10 (done_old q (by decide))).gr gg, fun _ => rfl, fun q => (f12 (done_old q (by decide))).gr gg, kp f13⟩
  · rintro done a w hsz hnot hdep ⟨t11, t12, t22, t23, t24, t25, t26, t27, t28, t29, t30, t31, t32, t33, rfl, gw, f0, f1, f2, f3, f4, f5, f6, f7, f8, f9, f10, f11, f12, f13⟩ K hK
    have hn : ¬ done.getD 12 false = true := by rw [getD_both hnot]; decide
    have d10 := hdep 10 (by kernel_rfl)
    have HY := PLift.up (f10 d10)
    have HK := PLift.up hK
    clear hK 
    simp only [p5A]
    go_simp
    have gg : Gr w w := Gr.refl _
    refine HK.down _ _ ⟨_, _, _, _, _, _, _, _, _, _, _, _, _, _, rfl, gw, kp f0, kp f1, kp f2, kp f3, kp f4, kp f5, kp f6, kp f7, fun q => (let ⟨y, e, h2⟩ := f8 (done_old q (by decide)); ⟨y, e, h2.gr gg⟩), fun q => (let ⟨y, e, h2⟩ := f9 (done_old q (by decide)); ⟨y, e, h2.gr gg⟩), fun q => (f10 (done_old q (by decide))).gr gg, kp f11, ?_, kp f13⟩
    exact fun _ => HY.down
  · rintro done a w hsz hnot hdep ⟨t11, t12, t22, t23, t24, t25, t26, t27, t28, t29, t30, t31, t32, t33, rfl, gw, f0, f1, f2, f3, f4, f5, f6, f7, f8, f9, f10, f11, f12, f13⟩ K hK
    have hn : ¬ done.getD 13 false = true := by rw [getD_both hnot]; decide
    have d11 := hdep 11 (by kernel_rfl)
    obtain rfl := f11 d11
    have HK := PLift.up hK
    clear hK d11
    simp only [p5A]
    go_simp
    have gg : Gr w w := Gr.refl _
    refine HK.down _ _ ⟨_, _, _, _, _, _, _, _, _, _, _, _, _, _, rfl, gw, kp f0, kp f1, kp f2, kp f3, kp f4, kp f5, kp f6, kp f7, fun q => (let ⟨y, e, h2⟩ := f8 (done_old q (by decide)); ⟨y, e, h2.gr gg⟩), fun q => (let ⟨y, e, h2⟩ := f9 (done_old q (by decide)); ⟨y, e, h2.gr gg⟩), fun q => (f10 (done_old q (by decide))).gr gg, kp f11, fun q => (f12 (done_old q (by decide))).gr gg, fun _ => rfl⟩
  · rintro done a w hall ⟨t11, t12, t22, t23, t24, t25, t26, t27, t28, t29, t30, t31, t32, t33, rfl, gw, f0, f1, f2, f3, f4, f5, f6, f7, f8, f9, f10, f11, f12, f13⟩
    obtain ⟨B2, c2, rfl, hr, hb⟩ := f12 (hall 12 (by decide))
    obtain rfl := f13 (hall 13 (by decide))
    exact h' _ _ _ _ _ _ _ _ _ _ _ _ B2 c2 w gw hr hb
end Go.Proofs.YtenehghpmnajpaaGreatDoor
/-! Contract of the reference's Settings, for right writes. -/
set_option linter.unusedVariables false
set_option linter.unusedSimpArgs false
namespace Go.Proofs.YtenehghpmnajpaaGreatDoor
open Go.RowKit
open Classical
def OsIn (base : Nat) (w : World) (os : List OT) : Prop := ∀ o ∈ os, RowS w o.B 3 (nums o.t) ∧ base ≤ o.B
theorem OsIn.gr {base : Nat} {w w' : World} {os : List OT} (h : OsIn base w os) (hg : Gr w w') : OsIn base w' os := fun o ho => ⟨(h o ho).1.gr hg, (h o ho).2⟩
def GivesPath (w : World) (s : List Int) (ps : List (Int × Int)) (e : Ending) (w' : World) : Prop :=
  ∃ (os : List OT) (a : Option Addr) (c : Nat), e = .returned (.tuple #[.slice a (ps.length + 1) c, .int .i64 0]) ∧ os.map OT.t = pathS s ps ∧
    w'.ownsRow w.heap.size 22 1 (.slice a (ps.length + 1) c) (ps.length + 1) (os.map (encO s.length)) ∧ OsIn w.heap.size w' os ∧ Gr w w'
structure PathSt (w : World) (s : List Int) (ps : List (Int × Int)) (k : Nat) (os : List OT) (a : Option Addr) (c : Nat) (wr : World) : Prop where
  path : os.map OT.t = pathS s (ps.take k)
  own : wr.ownsRow w.heap.size 22 1 (.slice a (k + 1) c) (k + 1) (os.map (encO s.length))
  rows : OsIn w.heap.size wr os
  gr : Gr w wr
theorem pathS_take_succ (s : List Int) (ps : List (Int × Int)) (k : Nat) (hk : k < ps.length) : pathS s (ps.take (k + 1)) = pathS s (ps.take k) ++ [putS ((pathS s ps)[k]'(by rw [pathS_len]; omega)) ps[k]] := by
  have app : ∀ (qs : List (Int × Int)) (s : List Int) (p : Int × Int), pathS s (qs ++ [p]) = pathS s qs ++ [putS ((pathS s qs)[qs.length]'(by rw [pathS_len]; omega)) p] := by
    intro qs
    induction qs with
    | nil => intro s p; simp [pathS, tailS]
    | cons q qs ih =>
      intro s p
      have := ih (putS s q) p
      simp only [pathS, tailS, List.cons_append, List.cons.injEq, true_and, List.length_cons, List.getElem_cons_succ] at this ⊢
      exact this
  have pre : ∀ (k : Nat) (h : k ≤ ps.length), (pathS s (ps.take k))[k]'(by rw [pathS_len, List.length_take]; omega) = (pathS s ps)[k]'(by rw [pathS_len]; omega) := by
    intro k
    induction k with
    | zero => intro _; simp [pathS]
    | succ k ih =>
      intro h
      have e1 := pathS_step (ps.take (k + 1)) s k (by rw [List.length_take]; omega)
      have e2 := pathS_step ps s k (by omega)
      rw [e1, e2]
      have ht : ps.take (k + 1) = ps.take k ++ [ps[k]] := by rw [List.take_add_one, List.getElem?_eq_getElem (by omega)]; rfl
      have e3 : (ps.take (k + 1))[k]'(by rw [List.length_take]; omega) = ps[k] := by simp
      rw [e3]
      congr 1
      rw [← ih (by omega)]
      have e4 : pathS s (ps.take (k + 1)) = pathS s (ps.take k) ++ [putS ((pathS s (ps.take k))[(ps.take k).length]'(by rw [pathS_len]; omega)) ps[k]] := by rw [ht]; exact app _ _ _
      simp only [e4]
      rw [List.getElem_append_left (by rw [pathS_len, List.length_take]; omega)]
  have ht : ps.take (k + 1) = ps.take k ++ [ps[k]] := by rw [List.take_add_one, List.getElem?_eq_getElem hk]; rfl
  rw [ht, app]
  have e5 : (ps.take k).length = k := by rw [List.length_take]; omega
  simp only [e5, pre k (by omega)]
theorem PathSt.last {w wr : World} {s : List Int} {ps : List (Int × Int)} {k : Nat} {os : List OT} {a : Option Addr} {c : Nat} (h : PathSt w s ps k os a c wr) (hk : k ≤ ps.length) :
    ∃ (g B cx : Nat), a = some ⟨g, 0, none⟩ ∧ wr.cell? ⟨g, k, none⟩ = some (.slice (some ⟨B, 0, none⟩) s.length cx) ∧ RowS wr B 3 (nums ((pathS s ps)[k]'(by rw [pathS_len]; omega))) := by
  obtain ⟨g, cap, e, _, _, hc⟩ := owns_cell h.own (by omega)
  cases e
  have hl : os.length = k + 1 := by have := congrArg List.length h.path; rw [List.length_map, pathS_len, List.length_take] at this; omega
  have q := hc k (by omega)
  rw [List.getElem?_eq_getElem (by rw [List.length_map]; omega), List.getElem_map] at q
  have hr := (h.rows os[k] (List.getElem_mem _)).1
  have et : os[k].t = (pathS s ps)[k]'(by rw [pathS_len]; omega) := by
    have e1 : (os.map OT.t)[k]'(by rw [List.length_map]; omega) = (pathS s (ps.take k))[k]'(by rw [pathS_len, List.length_take]; omega) := by simp only [h.path]
    rw [List.getElem_map] at e1
    rw [e1]
    by_cases e : k = ps.length
    · subst e; simp
    · have e2 := pathS_take_succ s ps k (by omega)
      cases k with
      | zero => simp [pathS]
      | succ j =>
        have e4 := pathS_take_succ s ps j (by omega)
        simp only [e4]
        rw [List.getElem_append_right (by rw [pathS_len, List.length_take]; omega)]
        simp only [pathS_len, List.length_take]
        rw [pathS_step ps s j (by omega)]
        simp
  rw [et] at hr
  exact ⟨g, os[k].B, os[k].c, rfl, q, hr⟩
theorem refSettings_any (l : List Clk) (s : List Int) (ps : List (Int × Int)) (al aS ap : Option Addr) (cl cs cp : Nat) (w : World) (h : SlOf 5 RClk w al l) (hs : SlOf 1 RI w aS s) (hp : SlOf 3 RWc w ap ps) (hc : cchk l = 0) (hset : SetOk l s) (hw : ∀ p ∈ ps, WrOk l p) (h1 : 1 ≤ l.length) (hpl : ps.length ≤ 4096) :
    Calls Tryz.prog 44 #[.slice al l.length cl, .slice aS s.length cs, .slice ap ps.length cp] w (GivesPath w s ps) := by
  have hl := small_len (cchk_zero hc).1
  have HSL := Lib.hid hset.1
  have hs1 : 0 < s.length := by have := hset.1; omega
  have hs2 : s.length ≤ 16 := by have := hset.1; omega
  obtain ⟨i0, hi, hz0, hz1, hz2⟩ := info_parts infoInt
  obtain ⟨k0, hk0, hx0, hx1, hx2⟩ := info_parts infoSl
  obtain ⟨bs, os, rfl, h00⟩ := hs 0 (by omega)
  have CS := Lib.hid (slI_cells (b := bs) (o := os) (s := none) (vs := s) (w := w) hs)
  have gE : Gr w (w.alloc (.cells #[] 3)) := (Gr.refl _).alloc _
  have CS1 : Hid (∀ j u, (nums s)[j]? = some u → (w.alloc (.cells #[] 3)).cell? ((⟨bs, os, none⟩ : Addr).add j) = some u) := Lib.hid (fun j u hu => cell_gr gE (CS.out j u hu))
  have H := Lib.hid h
  have HP := Lib.hid hp
  have HC := Lib.hid hc
  have HT := Lib.hid hset
  have HW := Lib.hid hw
  clear h00 hs gE CS h hp hc hset hw
  go_enter Tryz.func44, Tryz.ntmps44
  go_wp2_with (first
    | (at_builtin; refine wpList_append_fresh _ rfl _ _ 22 rfl 3 i0 (.int .i64 0) 8 Tryz.underlying22 hi hz0 hz1 hz2 ⟨w.heap.size, 0, none⟩ ⟨bs, os, none⟩ s.length cs (nums s) rfl rfl (by rw [nums_len]) CS1.out (by omega) (by omega) (by omega) (w.heap.size + 1) (by simp) ?_; intro cap Z hcap
       have R2 := Lib.hid (row_fresh' (w.alloc (.cells #[] 3)).drew (nums s) Z 3 (w.heap.size + 1) (by simp [World.drew]))
       have G2 : Hid (Gr w ((w.alloc (.cells #[] 3)).drew.alloc (.cells ((nums s).toArray ++ Z) 3))) := Lib.hid (((Gr.refl _).alloc _).drew.alloc _)
       obtain ⟨N2, hN2⟩ : ∃ N2 : Nat, Hid (w.heap.size + 1 = N2) := ⟨_, Lib.hid rfl⟩
       rw [hN2.out] at R2 ⊢
       obtain ⟨W2, hW2⟩ : ∃ W2 : World, ((w.alloc (.cells #[] 3)).drew.alloc (.cells ((nums s).toArray ++ Z) 3)) = W2 := ⟨_, rfl⟩
       rw [hW2] at R2 G2 ⊢
       clear hW2)
    | fail)
  have hW2 : Hid (w.heap.size ≤ W2.heap.size) := Lib.hid G2.out.size
  have O2 : Hid ((W2.alloc (.cells #[.slice (some ⟨N2, 0, none⟩) s.length cap] 22)).ownsRow w.heap.size 22 1 (.slice (some ⟨W2.heap.size, 0, none⟩) 1 1) 1 [.slice (some ⟨N2, 0, none⟩) s.length cap]) := Lib.hid (World.ownsRow_lit W2 #[.slice (some ⟨N2, 0, none⟩) s.length cap] 1 hW2.out (by unfold maxLen; omega) rfl)
  have P0 : Hid (PathSt w s ps 0 [⟨s, N2, cap⟩] (some ⟨W2.heap.size, 0, none⟩) 1 (W2.alloc (.cells #[.slice (some ⟨N2, 0, none⟩) s.length cap] 22))) := Lib.hid
    ⟨by simp [pathS, tailS], O2.out, (fun o ho => by
      have : o = ⟨s, N2, cap⟩ := by simpa using ho
      subst this
      exact ⟨R2.out.alloc _, by have := hN2.out; simp only; omega⟩), G2.out.alloc _⟩
  clear R2 G2 hN2 O2 CS1
  go_loopw [8, 19] (fun s8 s19 wr => ∃ (k : Nat) (os : List OT) (a : Option Addr) (c : Nat), s19 = .int .i64 (k : Int) ∧ s8 = .slice a (k + 1) c ∧ k ≤ ps.length ∧ PathSt w s ps k os a c wr) (fun _ s19 _ => ps.length - (intOf s19).toNat)
  case atStart => exact ⟨0, _, _, _, rfl, rfl, Nat.zero_le _, P0.out⟩
  case round =>
    clear P0
    obtain ⟨k, os', a, c, rfl, rfl, hk, hst⟩ := hrel
    have S := Lib.hid hst
    by_cases hlt : k < ps.length
    · obtain ⟨u, v, epk, hu, hv⟩ := HW.out _ (List.getElem_mem hlt)
      obtain ⟨g, B, cx, rfl, q0, qr⟩ := hst.last hk
      obtain ⟨bp, op, rfl, ⟨p0, _⟩, ⟨p1, _⟩, ⟨p2, _⟩⟩ := HP.out.gr RWc.mono hst.gr k hlt
      rw [epk] at p1 p2
      have hxk := pathS_ok ps HT.out HW.out k (by rw [pathS_len]; omega)
      have stp := pathS_step ps s k hlt
      obtain ⟨x, hx⟩ : ∃ x, (pathS s ps)[k]'(by rw [pathS_len]; omega) = x := ⟨_, rfl⟩
      rw [hx] at qr hxk stp
      rw [epk] at stp
      have XL : Hid (x.length = s.length) := Lib.hid (by rw [hxk.1, HSL.out])
      have QR := Lib.hid qr
      have XK := Lib.hid hxk
      have ST := Lib.hid stp
      have EP := Lib.hid epk
      have HX := Lib.hid hx
      have k2 : (k : Int) < ps.length := by omega
      have hgg := has_of_cell q0
      have hgp := has_of_cell p0
      clear hst qr hxk stp epk hx
      go_wp2_with fail
      obtain ⟨W5, hW5⟩ : ∃ W5 : World, Hid (W5 = wr.alloc (.cells #[.int .i64 1, .int .i64 u, .int .i64 v] 65)) := ⟨_, Lib.hid rfl⟩
      have RW : Hid (Row W5 wr.heap.size 65 [.int .i64 1, .int .i64 u, .int .i64 v]) := Lib.hid (by rw [hW5.out]; exact Row.new wr #[.int .i64 1, .int .i64 u, .int .i64 v] 65)
      have g5 : Hid (Gr wr W5) := Lib.hid (by rw [hW5.out]; exact (Gr.refl _).alloc _)
      obtain ⟨P, hP⟩ : ∃ P, wr.heap.size = P := ⟨_, rfl⟩
      rw [← hW5.out]
      rw [hP] at RW ⊢
      have q05 := cell_gr g5.out q0
      rw [← XL.out] at q05
      have hk4 : k ≤ 4096 := by omega
      clear hW5 hP q0 p0 p1 p2
      refine wp_code_eq (c := Code.region 5 (regIn 5 Tryz.f44) true) (by kernel_rfl) (r5 (wr := W5) (l := l) (x := x) (u := u) (v := v) (k := k) (al := al) (cl := cl) (cx := cx) (c := c) (g := g) (B := B) (P := P) RW.out (clks_gr H.out (S.out.gr.trans g5.out)) HC.out XK.out q05 (QR.out.gr g5.out) hu hv hk4 ?_)
      intro t23 t24 t25 t26 t27 t28 t29 t30 t31 t32 t33 t34 B2 c2 W6 hg6 hr2 hb2
      simp only [r5A]
      rw [XL.out]
      have g6 : Hid (Gr wr (W6.alloc (.cells #[.slice (some ⟨B2, 0, none⟩) s.length c2] 22))) := Lib.hid ((g5.out.trans hg6).alloc _)
      have O6 := Lib.hid (Gr.owns S.out.own g6.out)
      have I6 := Lib.hid (S.out.rows.gr g6.out)
      have N6 := Lib.hid (hr2.gr ((Gr.refl W6).alloc (.cells #[.slice (some ⟨B2, 0, none⟩) s.length c2] 22)))
      have GW6 := Lib.hid (S.out.gr.trans g6.out)
      have B26 : Hid (w.heap.size ≤ B2) := Lib.hid (Nat.le_trans (Nat.le_trans S.out.gr.size g5.out.size) hb2)
      have CC : Hid (∀ j y, ([Value.slice (some ⟨B2, 0, none⟩) s.length c2])[j]? = some y → (W6.alloc (.cells #[.slice (some ⟨B2, 0, none⟩) s.length c2] 22)).cell? ((⟨W6.heap.size, 0, none⟩ : Addr).add j) = some y) := Lib.hid (row_cells (Row.new W6 #[.slice (some ⟨B2, 0, none⟩) s.length c2] 22))
      have base := Lib.hid GW6.out.size
      clear hg6 hr2 hb2 g5 g6 RW QR q05 hgg hgp
      go_wp2_with (first
        | (at_builtin; refine wpList_append_own _ rfl _ _ 59 rfl w.heap.size 22 k0 (.slice none 0 0) 1 24 Tryz.underlying59 hk0 hx0 hx1 hx2 rfl (by decide) (.slice (some ⟨g, 0, none⟩) (k + 1) c) (k + 1) (os'.map (encO s.length)) rfl O6.out ⟨W6.heap.size, 0, none⟩ 1 1 [.slice (some ⟨B2, 0, none⟩) s.length c2] rfl rfl CC.out (by simp [Value.oneCell']) (by unfold maxLen; omega) (by omega) base.out ?_; intro v' W7 hown hgrow hnil; obtain ⟨a7, c7, rfl⟩ := owns_slice hown; have O7 := Lib.hid hown; have G7 := Lib.hid (GW6.out.grown hgrow (fun k e => (O6.out.lt k e).1)); have I7 : Hid (OsIn w.heap.size W7 os') := Lib.hid (fun o ho => ⟨(I6.out o ho).1.grown hgrow (owns_apart O6.out (I6.out o ho).1 (by decide)), (I6.out o ho).2⟩); have N7 := Lib.hid (N6.out.grown hgrow (owns_apart O6.out N6.out (by decide))); clear hown hgrow hnil)
        | fail)
      go_roundw
      case rel =>
        refine ⟨k + 1, os' ++ [⟨x.set u (v : Int), B2, c2⟩], a7, c7, by go_num, rfl, by omega, ?_, ?_, ?_, G7.out⟩
        · rw [List.map_append, S.out.path, pathS_take_succ s ps k hlt, HX.out, EP.out]
          simp [putS]
        · have := O7.out
          simpa [encO] using this
        · intro o ho
          rcases List.mem_append.1 ho with ho | ho
          · exact I7.out o ho
          · have : o = ⟨x.set u (v : Int), B2, c2⟩ := by simpa using ho
            subst this
            exact ⟨N7.out, B26.out⟩
      case measure => simp [intOf]; omega
    · have hk' : k = ps.length := by omega
      subst hk'
      clear hst
      go_wp2_with fail
      go_ret2
      have hP := S.out.path
      rw [List.take_length] at hP
      exact ⟨os', a, c, rfl, hP, S.out.own, S.out.rows, S.out.gr⟩
end Go.Proofs.YtenehghpmnajpaaGreatDoor
/-! Contracts of slices.Clone on ints and of the program's Settings, for right writes. -/
set_option linter.unusedVariables false
set_option linter.unusedSimpArgs false
namespace Go.Proofs.YtenehghpmnajpaaGreatDoor
open Go.RowKit
open Classical
theorem proSettings_any (l : List Clk) (s : List Int) (ps : List (Int × Int)) (al aS ap : Option Addr) (cl cs cp : Nat) (w : World) (h : SlOf 5 RClk w al l) (hs : SlOf 1 RI w aS s) (hp : SlOf 3 RWc w ap ps) (hc : cchk l = 0) (hset : SetOk l s) (hw : ∀ p ∈ ps, WrOk l p) (h1 : 1 ≤ l.length) (hpl : ps.length ≤ 4096) :
    Calls Tryz.prog 43 #[.slice al l.length cl, .slice aS s.length cs, .slice ap ps.length cp] w (GivesPath w s ps) := by
  have hl := small_len (cchk_zero hc).1
  have HSL := Lib.hid hset.1
  have hs1 : 0 < s.length := by have := hset.1; omega
  have hs2 : s.length ≤ 16 := by have := hset.1; omega
  obtain ⟨k0, hk0, hx0, hx1, hx2⟩ := info_parts infoSl
  have CL := Lib.hid (clone_any s aS cs w hs (by omega) (by omega))
  have H := Lib.hid h
  have HP := Lib.hid hp
  have HC := Lib.hid hc
  have HT := Lib.hid hset
  have HW := Lib.hid hw
  clear hs h hp hc hset hw
  go_enter Tryz.func43, Tryz.ntmps43
  go_wp2_with fail
  refine CL.out.mono ?_
  rintro e W2 ⟨N2, cap, rfl, hr2, hb2, hg2⟩
  have R2 := Lib.hid hr2
  have G2 := Lib.hid hg2
  have hN2 := Lib.hid hb2
  clear hr2 hb2 hg2
  go_wp2_with fail
  have hW2 : Hid (w.heap.size ≤ W2.heap.size) := Lib.hid G2.out.size
  have O2 : Hid ((W2.alloc (.cells #[.slice (some ⟨N2, 0, none⟩) s.length cap] 22)).ownsRow w.heap.size 22 1 (.slice (some ⟨W2.heap.size, 0, none⟩) 1 1) 1 [.slice (some ⟨N2, 0, none⟩) s.length cap]) := Lib.hid (World.ownsRow_lit W2 #[.slice (some ⟨N2, 0, none⟩) s.length cap] 1 hW2.out (by unfold maxLen; omega) rfl)
  have P0 : Hid (PathSt w s ps 0 [⟨s, N2, cap⟩] (some ⟨W2.heap.size, 0, none⟩) 1 (W2.alloc (.cells #[.slice (some ⟨N2, 0, none⟩) s.length cap] 22))) := Lib.hid
    ⟨by simp [pathS, tailS], O2.out, (fun o ho => by
      have : o = ⟨s, N2, cap⟩ := by simpa using ho
      subst this
      exact ⟨R2.out.alloc _, hN2.out⟩), G2.out.alloc _⟩
  clear R2 G2 hN2 O2
  go_loopw [8, 18] (fun s8 s19 wr => ∃ (k : Nat) (os : List OT) (a : Option Addr) (c : Nat), s19 = .int .i64 (k : Int) ∧ s8 = .slice a (k + 1) c ∧ k ≤ ps.length ∧ PathSt w s ps k os a c wr) (fun _ s19 _ => ps.length - (intOf s19).toNat)
  case atStart => exact ⟨0, _, _, _, rfl, rfl, Nat.zero_le _, P0.out⟩
  case round =>
    clear P0
    obtain ⟨k, os', a, c, rfl, rfl, hk, hst⟩ := hrel
    have S := Lib.hid hst
    by_cases hlt : k < ps.length
    · obtain ⟨u, v, epk, hu, hv⟩ := HW.out _ (List.getElem_mem hlt)
      obtain ⟨g, B, cx, rfl, q0, qr⟩ := hst.last hk
      obtain ⟨bp, op, rfl, ⟨p0, _⟩, ⟨p1, _⟩, ⟨p2, _⟩⟩ := HP.out.gr RWc.mono hst.gr k hlt
      rw [epk] at p1 p2
      have hxk := pathS_ok ps HT.out HW.out k (by rw [pathS_len]; omega)
      have stp := pathS_step ps s k hlt
      obtain ⟨x, hx⟩ : ∃ x, (pathS s ps)[k]'(by rw [pathS_len]; omega) = x := ⟨_, rfl⟩
      rw [hx] at qr hxk stp
      rw [epk] at stp
      have XL : Hid (x.length = s.length) := Lib.hid (by rw [hxk.1, HSL.out])
      have QR := Lib.hid qr
      have XK := Lib.hid hxk
      have ST := Lib.hid stp
      have EP := Lib.hid epk
      have HX := Lib.hid hx
      have k2 : (k : Int) < ps.length := by omega
      have hgg := has_of_cell q0
      have hgp := has_of_cell p0
      clear hst qr hxk stp epk hx
      go_wp2_with fail
      obtain ⟨W5, hW5⟩ : ∃ W5 : World, Hid (W5 = wr.alloc (.cells #[.int .i64 1, .int .i64 u, .int .i64 v] 65)) := ⟨_, Lib.hid rfl⟩
      have RW : Hid (Row W5 wr.heap.size 65 [.int .i64 1, .int .i64 u, .int .i64 v]) := Lib.hid (by rw [hW5.out]; exact Row.new wr #[.int .i64 1, .int .i64 u, .int .i64 v] 65)
      have g5 : Hid (Gr wr W5) := Lib.hid (by rw [hW5.out]; exact (Gr.refl _).alloc _)
      obtain ⟨P, hP⟩ : ∃ P, wr.heap.size = P := ⟨_, rfl⟩
      rw [← hW5.out]
      rw [hP] at RW ⊢
      have q05 := cell_gr g5.out q0
      rw [← XL.out] at q05
      have hk4 : k ≤ 4096 := by omega
      clear hW5 hP q0 p0 p1 p2
      refine wp_code_eq (c := Code.region 5 (regIn 5 Tryz.f43) true) (by kernel_rfl) (p5 (wr := W5) (l := l) (x := x) (u := u) (v := v) (k := k) (al := al) (cl := cl) (cx := cx) (c := c) (g := g) (B := B) (P := P) RW.out (clks_gr H.out (S.out.gr.trans g5.out)) HC.out XK.out q05 (QR.out.gr g5.out) hu hv hk4 ?_)
      intro t22 t23 t24 t25 t26 t27 t28 t29 t30 t31 t32 t33 B2 c2 W6 hg6 hr2 hb2
      simp only [p5A]
      rw [XL.out]
      have g6 : Hid (Gr wr (W6.alloc (.cells #[.slice (some ⟨B2, 0, none⟩) s.length c2] 22))) := Lib.hid ((g5.out.trans hg6).alloc _)
      have O6 := Lib.hid (Gr.owns S.out.own g6.out)
      have I6 := Lib.hid (S.out.rows.gr g6.out)
      have N6 := Lib.hid (hr2.gr ((Gr.refl W6).alloc (.cells #[.slice (some ⟨B2, 0, none⟩) s.length c2] 22)))
      have GW6 := Lib.hid (S.out.gr.trans g6.out)
      have B26 : Hid (w.heap.size ≤ B2) := Lib.hid (Nat.le_trans (Nat.le_trans S.out.gr.size g5.out.size) hb2)
      have CC : Hid (∀ j y, ([Value.slice (some ⟨B2, 0, none⟩) s.length c2])[j]? = some y → (W6.alloc (.cells #[.slice (some ⟨B2, 0, none⟩) s.length c2] 22)).cell? ((⟨W6.heap.size, 0, none⟩ : Addr).add j) = some y) := Lib.hid (row_cells (Row.new W6 #[.slice (some ⟨B2, 0, none⟩) s.length c2] 22))
      have base := Lib.hid GW6.out.size
      clear hg6 hr2 hb2 g5 g6 RW QR q05 hgg hgp
      go_wp2_with (first
        | (at_builtin; refine wpList_append_own _ rfl _ _ 59 rfl w.heap.size 22 k0 (.slice none 0 0) 1 24 Tryz.underlying59 hk0 hx0 hx1 hx2 rfl (by decide) (.slice (some ⟨g, 0, none⟩) (k + 1) c) (k + 1) (os'.map (encO s.length)) rfl O6.out ⟨W6.heap.size, 0, none⟩ 1 1 [.slice (some ⟨B2, 0, none⟩) s.length c2] rfl rfl CC.out (by simp [Value.oneCell']) (by unfold maxLen; omega) (by omega) base.out ?_; intro v' W7 hown hgrow hnil; obtain ⟨a7, c7, rfl⟩ := owns_slice hown; have O7 := Lib.hid hown; have G7 := Lib.hid (GW6.out.grown hgrow (fun k e => (O6.out.lt k e).1)); have I7 : Hid (OsIn w.heap.size W7 os') := Lib.hid (fun o ho => ⟨(I6.out o ho).1.grown hgrow (owns_apart O6.out (I6.out o ho).1 (by decide)), (I6.out o ho).2⟩); have N7 := Lib.hid (N6.out.grown hgrow (owns_apart O6.out N6.out (by decide))); clear hown hgrow hnil)
        | fail)
      go_roundw
      case rel =>
        refine ⟨k + 1, os' ++ [⟨x.set u (v : Int), B2, c2⟩], a7, c7, by go_num, rfl, by omega, ?_, ?_, ?_, G7.out⟩
        · rw [List.map_append, S.out.path, pathS_take_succ s ps k hlt, HX.out, EP.out]
          simp [putS]
        · have := O7.out
          simpa [encO] using this
        · intro o ho
          rcases List.mem_append.1 ho with ho | ho
          · exact I7.out o ho
          · have : o = ⟨x.set u (v : Int), B2, c2⟩ := by simpa using ho
            subst this
            exact ⟨N7.out, B26.out⟩
      case measure => simp [intOf]; omega
    · have hk' : k = ps.length := by omega
      subst hk'
      clear hst
      go_wp2_with fail
      go_ret2
      have hP := S.out.path
      rw [List.take_length] at hP
      exact ⟨os', a, c, rfl, hP, S.out.own, S.out.rows, S.out.gr⟩
end Go.Proofs.YtenehghpmnajpaaGreatDoor
