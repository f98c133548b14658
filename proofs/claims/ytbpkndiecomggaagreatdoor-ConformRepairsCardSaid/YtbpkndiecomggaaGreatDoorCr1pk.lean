/- Lemmas and contracts for the proof of ConformRepairs (several texts in one, printed by wip/tools/pack.py): VbM VbN VcA TeJ VcB TeL. -/
import Derived.Test.YtbpkndiecomggaaGreatDoorCr1pj
import Derived.Test.YtbpkndiecomggaaGreatDoorCr1pg
import Derived.Test.YtbpkndiecomggaaGreatDoorCr1pe
set_option maxRecDepth 100000
set_option maxHeartbeats 16000000
set_option linter.unusedVariables false
set_option linter.unusedSimpArgs false
namespace Go.Proofs.YtbpkndiecomggaaGreatDoor
open Go.RowKit
open Classical
theorem ownP_put {w : World} {base e size n g cap j : Nat} {xs : List Value} (h : w.ownsRow base e size (.slice (some ⟨g, 0, none⟩) n cap) n xs) (hj : j < n * size) (v : Value) : (w.setCell ⟨g, j, none⟩ v).ownsRow base e size (.slice (some ⟨g, 0, none⟩) n cap) n (xs.set j v) := by
  obtain ⟨h0, ⟨e1, _⟩ | ⟨g', cap', cur, e1, hb, hg, hn, hm, hs, ht⟩⟩ := h
  · cases e1
  · simp only [Value.slice.injEq, Option.some.injEq, Addr.mk.injEq, and_true, true_and] at e1
    obtain ⟨rfl, rfl⟩ := e1
    have hr : Row w g e cur.toList := hg
    have hr2 := hr.set j v
    refine ⟨by simpa using h0, .inr ⟨g, cap, (cur.toList.set j v).toArray, rfl, hb, hr2, hn, hm, by simpa using hs, ?_⟩⟩
    rw [← ht]
    simp only []
    rw [List.take_set]
theorem encM_set (ms : List NM) (ps : List Prp) (x : Option Addr) (c : Nat) : ∀ (k : Nat) (h : k < ms.length), (ms.flatMap NM.enc).set (k * 3 + 2) (.slice x ps.length c) = (ms.set k ⟨{ (ms[k]'h).n with props := ps }, x, c⟩).flatMap NM.enc := by
  induction ms with
  | nil => intro k h; simp at h
  | cons t ts ih =>
    intro k h
    cases k with
    | zero => simp [NM.enc]
    | succ k =>
      have := ih k (by simpa using h)
      rw [show (k + 1) * 3 + 2 = (NM.enc t).length + (k * 3 + 2) by rw [NM.enc_len]; omega]
      rw [List.flatMap_cons, List.set_append_right _ _ (by omega), List.set_cons_succ, List.flatMap_cons, List.getElem_cons_succ, ← this]
      simp
theorem TrAt.put {base : Nat} {w : World} {g n vc : Nat} {ms : List NM} (h : TrAt base w (.slice (some ⟨g, 0, none⟩) n vc) ms) {k : Nat} (hk : k < ms.length) {ps : List Prp} {x : Option Addr} {c : Nat}
    (ho : w.ownsRow base 83 2 (.slice x ps.length c) ps.length (ps.flatMap encP)) (hs : SmN { (ms[k]'hk).n with props := ps }) :
    TrAt base (w.setCell ⟨g, k * 3 + 2, none⟩ (.slice x ps.length c)) (.slice (some ⟨g, 0, none⟩) n vc) (ms.set k ⟨{ (ms[k]'hk).n with props := ps }, x, c⟩) := by
  obtain rfl := h.sl.1
  have g1 := grownBy_set w g (k * 3 + 2) (.slice x ps.length c)
  have h1 := ownP_put h.own (j := k * 3 + 2) (by omega) (.slice x ps.length c)
  rw [encM_set ms ps x c k hk] at h1
  refine ⟨by rw [List.length_set]; exact h1, fun m hm => ?_⟩
  rcases List.mem_or_eq_of_mem_set hm with q | q
  · exact (h.nds m q).kept g1 (owns_ne (h.nds m q).own h.own (by decide))
  · subst q
    exact ⟨ho.kept g1 (owns_ne ho h.own (by decide)), hs⟩
theorem map_putN (ms : List NM) (ps : List Prp) (x : Option Addr) (c : Nat) (k : Nat) (h : k < ms.length) : (ms.set k ⟨{ (ms[k]'h).n with props := ps }, x, c⟩).map NM.n = setN (ms.map NM.n) k ps := by
  unfold setN
  rw [List.map_set, nd_get (by rw [List.length_map]; exact h), List.getElem_map]
def Fin7 (wr : World) (g k : Nat) (ps : List Prp) (w : World) : Prop :=
  ∃ (w1 : World) (x : Option Addr) (c : Nat), w = w1.setCell ⟨g, k * 3 + 2, none⟩ (.slice x ps.length c) ∧ Gr wr w1 ∧ w1.ownsRow wr.heap.size 83 2 (.slice x ps.length c) ps.length (ps.flatMap encP)
def set7F (wr : World) (g k : Nat) (B o PB PX n vc cap : Nat) (nm val : St) (pa : Option Addr) (pc : Nat) (ps qs : List Prp) (t29 t30 t31 t32 t33 t34 t35 t36 t37 t38 t39 t40 t41 t42 t43 : Value) (d : Array Bool) (w : World) : Prop :=
  (d.getD 15 false = false → Gr wr w) ∧ (d.getD 0 false = true → t29 = .pointer (some ⟨PX, 0, none⟩)) ∧
  (d.getD 1 false = true → t30 = .slice (some ⟨g, 0, none⟩) n vc) ∧
  (d.getD 2 false = true → t31 = .int .i64 (k : Int)) ∧
  (d.getD 3 false = true → t32 = .pointer (some ⟨PB, 0, none⟩)) ∧
  (d.getD 4 false = true → t33 = .slice (some ⟨B, o, none⟩) n cap) ∧
  (d.getD 5 false = true → t34 = .int .i64 (k : Int)) ∧
  (d.getD 6 false = true → t35 = .pointer (some ⟨B, o + k * 3, none⟩)) ∧
  (d.getD 7 false = true → t36 = .pointer (some ⟨B, o + k * 3 + 2, none⟩)) ∧
  (d.getD 8 false = true → t37 = .slice pa ps.length pc) ∧
  (d.getD 9 false = true → t38 = .string (bs nm)) ∧
  (d.getD 10 false = true → t39 = .string (bs val)) ∧
  (d.getD 11 false = true → t40 = .agg #[.string (bs nm), .string (bs val)]) ∧
  (d.getD 12 false = true → (d.getD 15 false = false → (∃ x c, t41 = .slice x qs.length c ∧ w.ownsRow wr.heap.size 83 2 (.slice x qs.length c) qs.length (qs.flatMap encP)))) ∧
  (d.getD 13 false = true → t42 = .pointer (some ⟨g, k * 3, none⟩)) ∧
  (d.getD 14 false = true → t43 = .pointer (some ⟨g, k * 3 + 2, none⟩)) ∧
  (d.getD 15 false = true → ((∀ j, j < 15 → j ≠ 13 → d.getD j false = true) ∧ Fin7 wr g k qs w))
def set7A (PB PX k : Nat) (nm val : St) (t29 t30 t31 t32 t33 t34 t35 t36 t37 t38 t39 t40 t41 t42 t43 s0 s1 s5 s6 s7 s8 s9 s11 s13 s14 s15 s16 s17 s18 s19 s20 s21 s22 s23 s24 s25 s26 s27 s28 s44 s45 s46 s47 : Value) : Act := { tmps := #[s0, s1, .string (bs nm), .string (bs val), .pointer (some ⟨PB, 0, none⟩), s5, s6, s7, s8, s9, .int .i64 (k : Int), s11, .pointer (some ⟨PX, 0, none⟩), s13, s14, s15, s16, s17, s18, s19, s20, s21, s22, s23, s24, s25, s26, s27, s28, t29, t30, t31, t32, t33, t34, t35, t36, t37, t38, t39, t40, t41, t42, t43, s44, s45, s46, s47], defers := [] }
theorem set7 {Q : Exit → Act → World → Prop} {wr : World} {g k : Nat} {B o PB PX n vc cap : Nat} {nm val : St} {pa : Option Addr} {pc : Nat} {ps qs : List Prp}  {s0 s1 s5 s6 s7 s8 s9 s11 s13 s14 s15 s16 s17 s18 s19 s20 s21 s22 s23 s24 s25 s26 s27 s28 s29 s30 s31 s32 s33 s34 s35 s36 s37 s38 s39 s40 s41 s42 s43 s44 s45 s46 s47 : Value} (hpx : Row wr PX 29 [.slice (some ⟨g, 0, none⟩) n vc]) (hpb : Row wr PB 29 [.slice (some ⟨B, o, none⟩) n cap]) (hk : k < n) (hc : wr.cell? ⟨B, o + k * 3 + 2, none⟩ = some (.slice pa ps.length pc)) (hsl : SlOf 2 RPrp wr pa ps) (hq : qs = putP ps ⟨nm, val⟩) (hb : ps.length ≤ 1000 ∧ (∀ q ∈ ps, q.name.length ≤ 1000 ∧ q.val.length ≤ 1000) ∧ nm.length ≤ 1000 ∧ ps.length ≤ pc) {v0 : Value} (hgc : wr.cell? ⟨g, k * 3 + 2, none⟩ = some v0 ∧ ∀ W, Gr wr W → W.frozen? ⟨g, k * 3 + 2, none⟩ = false)
    (h' : ∀ t29 t30 t31 t32 t33 t34 t35 t36 t37 t38 t39 t40 t41 t42 t43 wx, Fin7 wr g k qs wx → Q .normal (set7A PB PX k nm val t29 t30 t31 t32 t33 t34 t35 t36 t37 t38 t39 t40 t41 t42 t43 s0 s1 s5 s6 s7 s8 s9 s11 s13 s14 s15 s16 s17 s18 s19 s20 s21 s22 s23 s24 s25 s26 s27 s28 s44 s45 s46 s47) wx) :
    (Code.region 7 (regIn 7 Tryz.f19) true).wp Tryz.prog Q { tmps := #[s0, s1, .string (bs nm), .string (bs val), .pointer (some ⟨PB, 0, none⟩), s5, s6, s7, s8, s9, .int .i64 (k : Int), s11, .pointer (some ⟨PX, 0, none⟩), s13, s14, s15, s16, s17, s18, s19, s20, s21, s22, s23, s24, s25, s26, s27, s28, s29, s30, s31, s32, s33, s34, s35, s36, s37, s38, s39, s40, s41, s42, s43, s44, s45, s46, s47], defers := [] } wr := by
  have HPX := PLift.up hpx
  have HPB := PLift.up hpb
  have HK0 := PLift.up hk
  have HC := PLift.up hc
  have HSL := PLift.up hsl
  have HQ := PLift.up hq
  have HB := PLift.up hb
  have HGC := PLift.up hgc
  clear hpx hpb hk hc hsl hq hb hgc
  simp only [regIn, Tryz.f19, regOps, Option.bind_some, Option.getD_some, Nat.beq, cond_true, cond_false]
  refine wp_region_steps (fun done a w => ∃ t29 t30 t31 t32 t33 t34 t35 t36 t37 t38 t39 t40 t41 t42 t43, a = set7A PB PX k nm val t29 t30 t31 t32 t33 t34 t35 t36 t37 t38 t39 t40 t41 t42 t43 s0 s1 s5 s6 s7 s8 s9 s11 s13 s14 s15 s16 s17 s18 s19 s20 s21 s22 s23 s24 s25 s26 s27 s28 s44 s45 s46 s47 ∧ set7F wr g k B o PB PX n vc cap nm val pa pc ps qs t29 t30 t31 t32 t33 t34 t35 t36 t37 t38 t39 t40 t41 t42 t43 done w) (by kernel_rfl) (by kernel_rfl) ?_ ⟨?_, ?_, ?_, ?_, ?_, ?_, ?_, ?_, ?_, ?_, ?_, ?_, ?_, ?_, ?_, ?_, trivial⟩ ?_
  · exact ⟨s29, s30, s31, s32, s33, s34, s35, s36, s37, s38, s39, s40, s41, s42, s43, rfl, fun _ => (Gr.refl _).drew, fun q => absurd q (by decide), fun q => absurd q (by decide), fun q => absurd q (by decide), fun q => absurd q (by decide), fun q => absurd q (by decide), fun q => absurd q (by decide), fun q => absurd q (by decide), fun q => absurd q (by decide), fun q => absurd q (by decide), fun q => absurd q (by decide), fun q => absurd q (by decide), fun q => absurd q (by decide), fun q => absurd q (by decide), fun q => absurd q (by decide), fun q => absurd q (by decide), fun q => absurd q (by decide)⟩
  · rintro done a w hsz hnot hdep ⟨t29, t30, t31, t32, t33, t34, t35, t36, t37, t38, t39, t40, t41, t42, t43, rfl, gw, f0, f1, f2, f3, f4, f5, f6, f7, f8, f9, f10, f11, f12, f13, f14, f15⟩ K hK
    have hn : ¬ done.getD 0 false = true := by rw [getD_both hnot]; decide
    have n15 : done.getD 15 false = false := by
      cases e : done.getD 15 false with
      | false => rfl
      | true => exact absurd ((f15 e).1 0 (by decide) (by decide)) hn
    replace gw := gw n15
    have HK := PLift.up hK
    clear hK 
    simp only [set7A]
    go_simp
    have gg : Gr w w := Gr.refl _
    refine HK.down _ _ ⟨_, _, _, _, _, _, _, _, _, _, _, _, _, _, _, rfl, fun _ => gw, fun _ => rfl, kp f1, kp f2, kp f3, kp f4, kp f5, kp f6, kp f7, kp f8, kp f9, kp f10, kp f11, fun q q2 => f12 (done_old q (by decide)) n15, kp f13, kp f14, fun q => absurd ((f15 (done_old q (by decide))).1 0 (by decide) (by decide)) hn⟩
  · rintro done a w hsz hnot hdep ⟨t29, t30, t31, t32, t33, t34, t35, t36, t37, t38, t39, t40, t41, t42, t43, rfl, gw, f0, f1, f2, f3, f4, f5, f6, f7, f8, f9, f10, f11, f12, f13, f14, f15⟩ K hK
    have hn : ¬ done.getD 1 false = true := by rw [getD_both hnot]; decide
    have d0 := hdep 0 (by kernel_rfl)
    obtain rfl := f0 d0
    have n15 : done.getD 15 false = false := by
      cases e : done.getD 15 false with
      | false => rfl
      | true => exact absurd ((f15 e).1 1 (by decide) (by decide)) hn
    replace gw := gw n15
    have px := HPX.down.gr gw
    have c0 : w.cell? ⟨PX, 0, none⟩ = some (.slice (some ⟨g, 0, none⟩) n vc) := px.cell 0 (by simp)
    have ch := has_of_cell c0
    clear px
    have HK := PLift.up hK
    clear hK d0
    simp only [set7A]
    go_simp
    have gg : Gr w w := Gr.refl _
    refine HK.down _ _ ⟨_, _, _, _, _, _, _, _, _, _, _, _, _, _, _, rfl, fun _ => gw, kp f0, fun _ => rfl, kp f2, kp f3, kp f4, kp f5, kp f6, kp f7, kp f8, kp f9, kp f10, kp f11, fun q q2 => f12 (done_old q (by decide)) n15, kp f13, kp f14, fun q => absurd ((f15 (done_old q (by decide))).1 1 (by decide) (by decide)) hn⟩
  · rintro done a w hsz hnot hdep ⟨t29, t30, t31, t32, t33, t34, t35, t36, t37, t38, t39, t40, t41, t42, t43, rfl, gw, f0, f1, f2, f3, f4, f5, f6, f7, f8, f9, f10, f11, f12, f13, f14, f15⟩ K hK
    have hn : ¬ done.getD 2 false = true := by rw [getD_both hnot]; decide
    have n15 : done.getD 15 false = false := by
      cases e : done.getD 15 false with
      | false => rfl
      | true => exact absurd ((f15 e).1 2 (by decide) (by decide)) hn
    replace gw := gw n15
    have HK := PLift.up hK
    clear hK 
    simp only [set7A]
    go_simp
    have gg : Gr w w := Gr.refl _
    refine HK.down _ _ ⟨_, _, _, _, _, _, _, _, _, _, _, _, _, _, _, rfl, fun _ => gw, kp f0, kp f1, fun _ => rfl, kp f3, kp f4, kp f5, kp f6, kp f7, kp f8, kp f9, kp f10, kp f11, fun q q2 => f12 (done_old q (by decide)) n15, kp f13, kp f14, fun q => absurd ((f15 (done_old q (by decide))).1 2 (by decide) (by decide)) hn⟩
  · rintro done a w hsz hnot hdep ⟨t29, t30, t31, t32, t33, t34, t35, t36, t37, t38, t39, t40, t41, t42, t43, rfl, gw, f0, f1, f2, f3, f4, f5, f6, f7, f8, f9, f10, f11, f12, f13, f14, f15⟩ K hK
    have hn : ¬ done.getD 3 false = true := by rw [getD_both hnot]; decide
    have n15 : done.getD 15 false = false := by
      cases e : done.getD 15 false with
      | false => rfl
      | true => exact absurd ((f15 e).1 3 (by decide) (by decide)) hn
    replace gw := gw n15
    have HK := PLift.up hK
    clear hK 
    simp only [set7A]
    go_simp
    have gg : Gr w w := Gr.refl _
    refine HK.down _ _ ⟨_, _, _, _, _, _, _, _, _, _, _, _, _, _, _, rfl, fun _ => gw, kp f0, kp f1, kp f2, fun _ => rfl, kp f4, kp f5, kp f6, kp f7, kp f8, kp f9, kp f10, kp f11, fun q q2 => f12 (done_old q (by decide)) n15, kp f13, kp f14, fun q => absurd ((f15 (done_old q (by decide))).1 3 (by decide) (by decide)) hn⟩
  · rintro done a w hsz hnot hdep ⟨t29, t30, t31, t32, t33, t34, t35, t36, t37, t38, t39, t40, t41, t42, t43, rfl, gw, f0, f1, f2, f3, f4, f5, f6, f7, f8, f9, f10, f11, f12, f13, f14, f15⟩ K hK
    have hn : ¬ done.getD 4 false = true := by rw [getD_both hnot]; decide
    have d3 := hdep 3 (by kernel_rfl)
    obtain rfl := f3 d3
    have n15 : done.getD 15 false = false := by
      cases e : done.getD 15 false with
      | false => rfl
      | true => exact absurd ((f15 e).1 4 (by decide) (by decide)) hn
    replace gw := gw n15
    have px := HPB.down.gr gw
    have c0 : w.cell? ⟨PB, 0, none⟩ = some (.slice (some ⟨B, o, none⟩) n cap) := px.cell 0 (by simp)
    have ch := has_of_cell c0
    clear px
    have HK := PLift.up hK
    clear hK d3
    simp only [set7A]
    go_simp
    have gg : Gr w w := Gr.refl _
    refine HK.down _ _ ⟨_, _, _, _, _, _, _, _, _, _, _, _, _, _, _, rfl, fun _ => gw, kp f0, kp f1, kp f2, kp f3, fun _ => rfl, kp f5, kp f6, kp f7, kp f8, kp f9, kp f10, kp f11, fun q q2 => f12 (done_old q (by decide)) n15, kp f13, kp f14, fun q => absurd ((f15 (done_old q (by decide))).1 4 (by decide) (by decide)) hn⟩
  · rintro done a w hsz hnot hdep ⟨t29, t30, t31, t32, t33, t34, t35, t36, t37, t38, t39, t40, t41, t42, t43, rfl, gw, f0, f1, f2, f3, f4, f5, f6, f7, f8, f9, f10, f11, f12, f13, f14, f15⟩ K hK
    have hn : ¬ done.getD 5 false = true := by rw [getD_both hnot]; decide
    have n15 : done.getD 15 false = false := by
      cases e : done.getD 15 false with
      | false => rfl
      | true => exact absurd ((f15 e).1 5 (by decide) (by decide)) hn
    replace gw := gw n15
    have HK := PLift.up hK
    clear hK 
    simp only [set7A]
    go_simp
    have gg : Gr w w := Gr.refl _
    refine HK.down _ _ ⟨_, _, _, _, _, _, _, _, _, _, _, _, _, _, _, rfl, fun _ => gw, kp f0, kp f1, kp f2, kp f3, kp f4, fun _ => rfl, kp f6, kp f7, kp f8, kp f9, kp f10, kp f11, fun q q2 => f12 (done_old q (by decide)) n15, kp f13, kp f14, fun q => absurd ((f15 (done_old q (by decide))).1 5 (by decide) (by decide)) hn⟩
  · rintro done a w hsz hnot hdep ⟨t29, t30, t31, t32, t33, t34, t35, t36, t37, t38, t39, t40, t41, t42, t43, rfl, gw, f0, f1, f2, f3, f4, f5, f6, f7, f8, f9, f10, f11, f12, f13, f14, f15⟩ K hK
    have hn : ¬ done.getD 6 false = true := by rw [getD_both hnot]; decide
    have d4 := hdep 4 (by kernel_rfl)
    have d5 := hdep 5 (by kernel_rfl)
    obtain rfl := f4 d4
    obtain rfl := f5 d5
    have n15 : done.getD 15 false = false := by
      cases e : done.getD 15 false with
      | false => rfl
      | true => exact absurd ((f15 e).1 6 (by decide) (by decide)) hn
    replace gw := gw n15
    have k1 := HK0.down
    have k2 : (k : Int) < n := by omega
    have HK := PLift.up hK
    clear hK d4 d5
    simp only [set7A]
    go_simp
    have gg : Gr w w := Gr.refl _
    refine HK.down _ _ ⟨_, _, _, _, _, _, _, _, _, _, _, _, _, _, _, rfl, fun _ => gw, kp f0, kp f1, kp f2, kp f3, kp f4, kp f5, fun _ => rfl, kp f7, kp f8, kp f9, kp f10, kp f11, fun q q2 => f12 (done_old q (by decide)) n15, kp f13, kp f14, fun q => absurd ((f15 (done_old q (by decide))).1 6 (by decide) (by decide)) hn⟩
  · rintro done a w hsz hnot hdep ⟨t29, t30, t31, t32, t33, t34, t35, t36, t37, t38, t39, t40, t41, t42, t43, rfl, gw, f0, f1, f2, f3, f4, f5, f6, f7, f8, f9, f10, f11, f12, f13, f14, f15⟩ K hK
    have hn : ¬ done.getD 7 false = true := by rw [getD_both hnot]; decide
    have d6 := hdep 6 (by kernel_rfl)
    obtain rfl := f6 d6
    have n15 : done.getD 15 false = false := by
      cases e : done.getD 15 false with
      | false => rfl
      | true => exact absurd ((f15 e).1 7 (by decide) (by decide)) hn
    replace gw := gw n15
    have c0 := cell_gr gw HC.down
    have ch := has_of_cell c0
    have HK := PLift.up hK
    clear hK d6
    simp only [set7A]
    go_simp
    have gg : Gr w w := Gr.refl _
    refine HK.down _ _ ⟨_, _, _, _, _, _, _, _, _, _, _, _, _, _, _, rfl, fun _ => gw, kp f0, kp f1, kp f2, kp f3, kp f4, kp f5, kp f6, fun _ => rfl, kp f8, kp f9, kp f10, kp f11, fun q q2 => f12 (done_old q (by decide)) n15, kp f13, kp f14, fun q => absurd ((f15 (done_old q (by decide))).1 7 (by decide) (by decide)) hn⟩
  · rintro done a w hsz hnot hdep ⟨t29, t30, t31, t32, t33, t34, t35, t36, t37, t38, t39, t40, t41, t42, t43, rfl, gw, f0, f1, f2, f3, f4, f5, f6, f7, f8, f9, f10, f11, f12, f13, f14, f15⟩ K hK
    have hn : ¬ done.getD 8 false = true := by rw [getD_both hnot]; decide
    have d7 := hdep 7 (by kernel_rfl)
    obtain rfl := f7 d7
    have n15 : done.getD 15 false = false := by
      cases e : done.getD 15 false with
      | false => rfl
      | true => exact absurd ((f15 e).1 8 (by decide) (by decide)) hn
    replace gw := gw n15
    have c0 := cell_gr gw HC.down
    have ch := has_of_cell c0
    have HK := PLift.up hK
    clear hK d7
    simp only [set7A]
    go_simp
    have gg : Gr w w := Gr.refl _
    refine HK.down _ _ ⟨_, _, _, _, _, _, _, _, _, _, _, _, _, _, _, rfl, fun _ => gw, kp f0, kp f1, kp f2, kp f3, kp f4, kp f5, kp f6, kp f7, fun _ => rfl, kp f9, kp f10, kp f11, fun q q2 => f12 (done_old q (by decide)) n15, kp f13, kp f14, fun q => absurd ((f15 (done_old q (by decide))).1 8 (by decide) (by decide)) hn⟩
  · rintro done a w hsz hnot hdep ⟨t29, t30, t31, t32, t33, t34, t35, t36, t37, t38, t39, t40, t41, t42, t43, rfl, gw, f0, f1, f2, f3, f4, f5, f6, f7, f8, f9, f10, f11, f12, f13, f14, f15⟩ K hK
    have hn : ¬ done.getD 9 false = true := by rw [getD_both hnot]; decide
    have n15 : done.getD 15 false = false := by
      cases e : done.getD 15 false with
      | false => rfl
      | true => exact absurd ((f15 e).1 9 (by decide) (by decide)) hn
    replace gw := gw n15
    have HK := PLift.up hK
    clear hK 
    simp only [set7A]
    go_simp
    have gg : Gr w w := Gr.refl _
    refine HK.down _ _ ⟨_, _, _, _, _, _, _, _, _, _, _, _, _, _, _, rfl, fun _ => gw, kp f0, kp f1, kp f2, kp f3, kp f4, kp f5, kp f6, kp f7, kp f8, fun _ => rfl, kp f10, kp f11, fun q q2 => f12 (done_old q (by decide)) n15, kp f13, kp f14, fun q => absurd ((f15 (done_old q (by decide))).1 9 (by decide) (by decide)) hn⟩
  · rintro done a w hsz hnot hdep ⟨t29, t30, t31, t32, t33, t34, t35, t36, t37, t38, t39, t40, t41, t42, t43, rfl, gw, f0, f1, f2, f3, f4, f5, f6, f7, f8, f9, f10, f11, f12, f13, f14, f15⟩ K hK
    have hn : ¬ done.getD 10 false = true := by rw [getD_both hnot]; decide
    have n15 : done.getD 15 false = false := by
      cases e : done.getD 15 false with
      | false => rfl
      | true => exact absurd ((f15 e).1 10 (by decide) (by decide)) hn
    replace gw := gw n15
    have HK := PLift.up hK
    clear hK 
    simp only [set7A]
    go_simp
    have gg : Gr w w := Gr.refl _
    refine HK.down _ _ ⟨_, _, _, _, _, _, _, _, _, _, _, _, _, _, _, rfl, fun _ => gw, kp f0, kp f1, kp f2, kp f3, kp f4, kp f5, kp f6, kp f7, kp f8, kp f9, fun _ => rfl, kp f11, fun q q2 => f12 (done_old q (by decide)) n15, kp f13, kp f14, fun q => absurd ((f15 (done_old q (by decide))).1 10 (by decide) (by decide)) hn⟩
  · rintro done a w hsz hnot hdep ⟨t29, t30, t31, t32, t33, t34, t35, t36, t37, t38, t39, t40, t41, t42, t43, rfl, gw, f0, f1, f2, f3, f4, f5, f6, f7, f8, f9, f10, f11, f12, f13, f14, f15⟩ K hK
    have hn : ¬ done.getD 11 false = true := by rw [getD_both hnot]; decide
    have d9 := hdep 9 (by kernel_rfl)
    have d10 := hdep 10 (by kernel_rfl)
    obtain rfl := f9 d9
    obtain rfl := f10 d10
    have n15 : done.getD 15 false = false := by
      cases e : done.getD 15 false with
      | false => rfl
      | true => exact absurd ((f15 e).1 11 (by decide) (by decide)) hn
    replace gw := gw n15
    have HK := PLift.up hK
    clear hK d9 d10
    simp only [set7A]
    go_simp
    have gg : Gr w w := Gr.refl _
    refine HK.down _ _ ⟨_, _, _, _, _, _, _, _, _, _, _, _, _, _, _, rfl, fun _ => gw, kp f0, kp f1, kp f2, kp f3, kp f4, kp f5, kp f6, kp f7, kp f8, kp f9, kp f10, fun _ => rfl, fun q q2 => f12 (done_old q (by decide)) n15, kp f13, kp f14, fun q => absurd ((f15 (done_old q (by decide))).1 11 (by decide) (by decide)) hn⟩
  · rintro done a w hsz hnot hdep ⟨t29, t30, t31, t32, t33, t34, t35, t36, t37, t38, t39, t40, t41, t42, t43, rfl, gw, f0, f1, f2, f3, f4, f5, f6, f7, f8, f9, f10, f11, f12, f13, f14, f15⟩ K hK
    have hn : ¬ done.getD 12 false = true := by rw [getD_both hnot]; decide
    have d8 := hdep 8 (by kernel_rfl)
    have d11 := hdep 11 (by kernel_rfl)
    obtain rfl := f8 d8
    obtain rfl := f11 d11
    have n15 : done.getD 15 false = false := by
      cases e : done.getD 15 false with
      | false => rfl
      | true => exact absurd ((f15 e).1 12 (by decide) (by decide)) hn
    replace gw := gw n15
    have GW := PLift.up gw
    have GS := PLift.up gw.size
    have HK := PLift.up hK
    clear hK d8 d11
    simp only [set7A]
    go_simp
    refine (rPut_ok ps ⟨nm, val⟩ pa pc w (HSL.down.gr RPrp.mono GW.down) HB.down.1 HB.down.2.1 HB.down.2.2.1 HB.down.2.2.2).mono ?_
    rintro e w2 ⟨x, c, rfl, ho, hg⟩
    rw [← HQ.down] at ho ⊢
    (try go_simp)
    refine HK.down _ _ ⟨_, _, _, _, _, _, _, _, _, _, _, _, _, _, _, rfl, fun _ => GW.down.trans hg, kp f0, kp f1, kp f2, kp f3, kp f4, kp f5, kp f6, kp f7, kp f8, kp f9, kp f10, kp f11, ?_, kp f13, kp f14, fun q => absurd ((f15 (done_old q (by decide))).1 12 (by decide) (by decide)) hn⟩
    exact fun _ _ => ⟨x, c, rfl, owns_low ho GS.down⟩
  · rintro done a w hsz hnot hdep ⟨t29, t30, t31, t32, t33, t34, t35, t36, t37, t38, t39, t40, t41, t42, t43, rfl, gw, f0, f1, f2, f3, f4, f5, f6, f7, f8, f9, f10, f11, f12, f13, f14, f15⟩ K hK
    have hn : ¬ done.getD 13 false = true := by rw [getD_both hnot]; decide
    have d1 := hdep 1 (by kernel_rfl)
    have d2 := hdep 2 (by kernel_rfl)
    obtain rfl := f1 d1
    obtain rfl := f2 d2
    have k1 := HK0.down
    have k2 : (k : Int) < n := by omega
    have HK := PLift.up hK
    clear hK d1 d2
    simp only [set7A]
    go_simp
    have gg : Gr w w := Gr.refl _
    refine HK.down _ _ ⟨_, _, _, _, _, _, _, _, _, _, _, _, _, _, _, rfl, fun q => gw (by rw [getD_set_ne false (by decide)] at q; exact q), kp f0, kp f1, kp f2, kp f3, kp f4, kp f5, kp f6, kp f7, kp f8, kp f9, kp f10, kp f11, fun q q2 => f12 (done_old q (by decide)) (by rw [getD_set_ne false (by decide)] at q2; exact q2), fun _ => rfl, kp f14, fun q => ⟨fun j hj hne => getD_set_true ((f15 (done_old q (by decide))).1 j hj hne), (f15 (done_old q (by decide))).2⟩⟩
  · rintro done a w hsz hnot hdep ⟨t29, t30, t31, t32, t33, t34, t35, t36, t37, t38, t39, t40, t41, t42, t43, rfl, gw, f0, f1, f2, f3, f4, f5, f6, f7, f8, f9, f10, f11, f12, f13, f14, f15⟩ K hK
    have hn : ¬ done.getD 14 false = true := by rw [getD_both hnot]; decide
    have d13 := hdep 13 (by kernel_rfl)
    obtain rfl := f13 d13
    have n15 : done.getD 15 false = false := by
      cases e : done.getD 15 false with
      | false => rfl
      | true => exact absurd ((f15 e).1 14 (by decide) (by decide)) hn
    replace gw := gw n15
    have c0 := cell_gr gw HGC.down.1
    have ch := has_of_cell c0
    have HK := PLift.up hK
    clear hK d13
    simp only [set7A]
    go_simp
    have gg : Gr w w := Gr.refl _
    refine HK.down _ _ ⟨_, _, _, _, _, _, _, _, _, _, _, _, _, _, _, rfl, fun _ => gw, kp f0, kp f1, kp f2, kp f3, kp f4, kp f5, kp f6, kp f7, kp f8, kp f9, kp f10, kp f11, fun q q2 => f12 (done_old q (by decide)) n15, kp f13, fun _ => rfl, fun q => absurd ((f15 (done_old q (by decide))).1 14 (by decide) (by decide)) hn⟩
  · rintro done a w hsz hnot hdep ⟨t29, t30, t31, t32, t33, t34, t35, t36, t37, t38, t39, t40, t41, t42, t43, rfl, gw, f0, f1, f2, f3, f4, f5, f6, f7, f8, f9, f10, f11, f12, f13, f14, f15⟩ K hK
    have hn : ¬ done.getD 15 false = true := by rw [getD_both hnot]; decide
    have d0 := hdep 0 (by kernel_rfl)
    have d1 := hdep 1 (by kernel_rfl)
    have d2 := hdep 2 (by kernel_rfl)
    have d3 := hdep 3 (by kernel_rfl)
    have d4 := hdep 4 (by kernel_rfl)
    have d5 := hdep 5 (by kernel_rfl)
    have d6 := hdep 6 (by kernel_rfl)
    have d7 := hdep 7 (by kernel_rfl)
    have d8 := hdep 8 (by kernel_rfl)
    have d9 := hdep 9 (by kernel_rfl)
    have d10 := hdep 10 (by kernel_rfl)
    have d11 := hdep 11 (by kernel_rfl)
    have d12 := hdep 12 (by kernel_rfl)
    have d14 := hdep 14 (by kernel_rfl)
    obtain rfl := f0 d0
    obtain rfl := f1 d1
    obtain rfl := f2 d2
    obtain rfl := f3 d3
    obtain rfl := f4 d4
    obtain rfl := f5 d5
    obtain rfl := f6 d6
    obtain rfl := f7 d7
    obtain rfl := f8 d8
    obtain rfl := f9 d9
    obtain rfl := f10 d10
    obtain rfl := f11 d11
    obtain rfl := f14 d14
    have n15 := getD_both hnot
    obtain ⟨x, c, rfl, ho⟩ := f12 d12 n15
    have g1 := gw n15
    have c2 := cell_gr g1 HGC.down.1
    have ch := has_of_cell c2
    have cf := HGC.down.2 w g1
    have FN := PLift.up (show Fin7 wr g k qs (w.setCell ⟨g, k * 3 + 2, none⟩ (.slice x qs.length c)) from ⟨w, x, c, rfl, g1, ho⟩)
    have DD := PLift.up (show ∀ j, j < 15 → j ≠ 13 → done.getD j false = true from by intro j hj hne; match j, hj, hne with | 0, _, _ => exact d0 | 1, _, _ => exact d1 | 2, _, _ => exact d2 | 3, _, _ => exact d3 | 4, _, _ => exact d4 | 5, _, _ => exact d5 | 6, _, _ => exact d6 | 7, _, _ => exact d7 | 8, _, _ => exact d8 | 9, _, _ => exact d9 | 10, _, _ => exact d10 | 11, _, _ => exact d11 | 12, _, _ => exact d12 | 13, _, h => exact absurd rfl h | 14, _, _ => exact d14)
    have HK := PLift.up hK
    clear hK d0 d1 d2 d3 d4 d5 d6 d7 d8 d9 d10 d11 d14
    simp only [set7A]
    go_simp
    refine HK.down _ _ ⟨_, _, _, _, _, _, _, _, _, _, _, _, _, _, _, rfl, fun q => absurd q (by rw [getD_set_same (by rw [hsz]; decide)]; decide), kp f0, kp f1, kp f2, kp f3, kp f4, kp f5, kp f6, kp f7, kp f8, kp f9, kp f10, kp f11, fun _ q2 => absurd q2 (by rw [getD_set_same (by rw [hsz]; decide)]; decide), kp f13, kp f14, ?_⟩
    exact fun _ => ⟨fun j hj hne => getD_set_true (DD.down j hj hne), FN.down⟩
  · rintro done a w hall ⟨t29, t30, t31, t32, t33, t34, t35, t36, t37, t38, t39, t40, t41, t42, t43, rfl, gw, f0, f1, f2, f3, f4, f5, f6, f7, f8, f9, f10, f11, f12, f13, f14, f15⟩
    exact h' _ _ _ _ _ _ _ _ _ _ _ _ _ _ _ w (f15 (hall 15 (by decide))).2
def GivesSet (ts : Tr) (s nm val : St) (w : World) (e : Ending) (w' : World) : Prop :=
  Gr w w' ∧ ((e = .returned (.tuple #[.agg #[.slice none 0 0], .int .i64 4]) ∧ ∀ k, k < ts.length → ¬ PathIs ts k s) ∨
    ∃ (k : Nat) (v : Value) (ms : List NM), k < ts.length ∧ PathIs ts k s ∧ e = .returned (.tuple #[.agg #[v], .int .i64 0]) ∧ TrAt w.heap.size w' v ms ∧ ms.map NM.n = setN ts k (putP (nd ts k).props ⟨nm, val⟩))
theorem rSet_ok (ts : Tr) (a : Option Addr) (cap : Nat) (s nm val : St) (w : World) (h : SlOf 3 RNod w a ts) (hv : VT ts) (hm : nm ∈ namesV) (hval : val.length ≤ 256) :
    Calls Tryz.prog 19 #[.agg #[.slice a ts.length cap], .string (bs s), .string (bs nm), .string (bs val)] w (GivesSet ts s nm val w) := by
  have H := Lib.hid h
  have HV := Lib.hid hv
  have HM := Lib.hid hm
  have l1 := hv.pos
  have l2 := hv.few
  have NOK := List.all_eq_true.1 namesV_ok _ hm
  have xlen : nm.length ≤ 31 := by simp at NOK; exact NOK.2
  have NM1 : propOk nm = true := by simp at NOK; exact NOK.1
  clear h hv hm NOK
  obtain ⟨P0, hP0⟩ : ∃ P : Ending → World → Prop, P = GivesSet ts s nm val w := ⟨_, rfl⟩
  rw [← hP0]
  have HP0 := Lib.hid hP0
  clear hP0
  go_enter Tryz.func19, Tryz.ntmps19
  go_upto_region 1 with (fail)
  have R1 := Lib.hid ((Row.new w #[.slice a ts.length cap] 29).alloc (.cells #[.slice none 0 0] 29))
  have R2 : Hid (Row ((w.alloc (.cells #[.slice a ts.length cap] 29)).alloc (.cells #[.slice none 0 0] 29)) (w.heap.size + 1) 29 [.slice none 0 0]) := Lib.hid (by
    have q := Row.new (w.alloc (.cells #[.slice a ts.length cap] 29)) #[.slice none 0 0] 29
    have e : (w.alloc (.cells #[.slice a ts.length cap] 29)).heap.size = w.heap.size + 1 := by simp
    rw [e] at q; exact q)
  obtain ⟨W, hW⟩ : ∃ W : World, Hid (W = (w.alloc (.cells #[.slice a ts.length cap] 29)).alloc (.cells #[.slice none 0 0] 29)) := ⟨_, Lib.hid rfl⟩
  have GW : Hid (Gr w W) := Lib.hid (by rw [hW.out]; exact ((Gr.refl _).alloc _).alloc _)
  rw [← hW.out] at R1 R2 ⊢
  obtain ⟨PB, hPB⟩ : ∃ N : Nat, Hid (w.heap.size = N) := ⟨_, Lib.hid rfl⟩
  have HPB := Lib.hid hPB.out
  rw [hPB.out] at R1 R2 ⊢
  clear hW hPB
  obtain ⟨P2, hP2⟩ : ∃ N : Nat, Hid (PB + 1 = N) := ⟨_, Lib.hid rfl⟩
  have HP2 := Lib.hid hP2.out
  rw [hP2.out] at R2 ⊢
  clear hP2
  have x0 := R1.out.cell 0 (by simp)
  have hxb := has_of_cell x0
  go_wp2_with fail
  refine (rBegin_ok ts a cap s W (H.out.gr RNod.mono GW.out) HV.out).mono ?_
  rintro e w1 ⟨hg1, hb⟩
  have G1 := Lib.hid (GW.out.trans hg1)
  have S1 := Lib.hid (R1.out.gr hg1)
  have S2 := Lib.hid (R2.out.gr hg1)
  clear hg1 x0 hxb R1 R2 GW
  rcases hb with ⟨rfl, hno⟩ | ⟨k, hk, rfl, hpt⟩
  · have NO := Lib.hid hno
    clear hno
    have z0 := S2.out.cell 0 (by simp)
    have zf := S2.out.free 0
    have hz := has_of_cell z0
    go_wp2_with fail
    have RF := Lib.hid (S2.out.set 0 (.slice none 0 0))
    have GF : Hid (Gr w (w1.setCell ⟨P2, 0, none⟩ (.slice none 0 0))) := Lib.hid (G1.out.setc (by have := HPB.out; have := HP2.out; omega))
    obtain ⟨W3, hW3⟩ : ∃ W : World, Hid (W = w1.setCell ⟨P2, 0, none⟩ (.slice none 0 0)) := ⟨_, Lib.hid rfl⟩
    rw [← hW3.out] at RF GF ⊢
    have e0 : W3.cell? ⟨P2, 0, none⟩ = some (.slice none 0 0) := RF.out.cell 0 (by simp)
    clear hW3
    refine bodyPost_ret (v := .tuple #[.agg #[.slice none 0 0], .int .i64 4]) (by simp [results, Tryz.results19, e0, go_sem]) rfl ?_
    rw [HP0.out]
    exact ⟨GF.out, .inl ⟨rfl, NO.out⟩⟩
  · have PT := Lib.hid hpt
    clear hpt
    have x0 := S1.out.cell 0 (by simp)
    have xf := S1.out.free 0
    have hx := has_of_cell x0
    have k0 : (0 : Int) ≤ k := by omega
    go_wp2_with (go_at_call 54; refine (refProp_ok nm NM1 _).mono ?_; rintro e w' ⟨rfl, rfl⟩)
    refine (copied_tr ts a cap w1 (H.out.gr RNod.mono G1.out) HV.out.sm (by omega)).mono ?_
    rintro e w4 ⟨v4, ms, rfl, htr, hmp, hg4⟩
    obtain ⟨va, vc, hv⟩ := owns_slice htr.own
    subst hv
    have ML0 : ms.length = ts.length := by rw [← hmp, List.length_map]
    rw [ML0] at htr ⊢
    have ML := Lib.hid ML0
    clear ML0
    have G4 := Lib.hid (G1.out.trans hg4)
    have BW : Hid (PB ≤ w1.heap.size ∧ P2 < w1.heap.size ∧ w1.heap.size ≤ w4.heap.size) := Lib.hid (by have h1 := G1.out.size; rw [HPB.out] at h1; exact ⟨h1, S2.out.has, hg4.size⟩)
    have X1 := Lib.hid (S1.out.gr hg4)
    have X2 := Lib.hid (S2.out.gr hg4)
    have TR := Lib.hid (htr.low BW.out.1)
    have MP := Lib.hid hmp
    clear htr hmp hg4 x0 xf hx S1 S2
    go_wp2_with fail
    have BX := Lib.hid (Row.new w4 #[.slice va ts.length vc] 29)
    have Y1 := Lib.hid (X1.out.alloc (.cells #[.slice va ts.length vc] 29))
    have Y2 := Lib.hid (X2.out.alloc (.cells #[.slice va ts.length vc] 29))
    have TA := Lib.hid (TR.out.gr ((Gr.refl w4).alloc (.cells #[.slice va ts.length vc] 29)))
    have GA := Lib.hid (G4.out.alloc (.cells #[.slice va ts.length vc] 29))
    obtain ⟨W5, hW5⟩ : ∃ W : World, Hid (W = w4.alloc (.cells #[.slice va ts.length vc] 29)) := ⟨_, Lib.hid rfl⟩
    rw [← hW5.out] at BX Y1 Y2 TA GA ⊢
    obtain ⟨PX, hPX⟩ : ∃ N : Nat, Hid (w4.heap.size = N) := ⟨_, Lib.hid rfl⟩
    have HPX := Lib.hid hPX.out
    rw [hPX.out] at BX ⊢
    clear hW5 hPX X1 X2 TR G4
    obtain ⟨g, hva, q0, q1, q2⟩ := tr_cells TA.out (k := k) (by have := ML.out; omega)
    subst hva
    have GPX : Hid (g ≠ PX) := Lib.hid (by
      rcases TA.out.ne_ty BX.out.ty (by decide) with q | q
      · cases q
      · exact fun e => q (by rw [e]; rfl))
    have GP2 : Hid (g ≠ P2) := Lib.hid (by
      rcases TA.out.ne_ty Y2.out.ty (by decide) with q | q
      · cases q
      · exact fun e => q (by rw [e]; rfl))
    have GPB : Hid (PB ≤ g) := Lib.hid (owns_block TA.out.own g rfl).1
    obtain ⟨B, o, e1, _, _, pa, pc, c2, hcap, hf, hs⟩ := (H.out.gr RNod.mono GA.out) k hk
    subst e1
    have PP := Lib.hid (HV.out.props hk)
    have NK : Hid (ts[k] = nd ts k) := Lib.hid (nd_get hk).symm
    obtain ⟨ps, hps⟩ : ∃ ps, ts[k].props = ps := ⟨_, rfl⟩
    rw [hps] at c2 hcap hs PP
    have PSE : Hid ((nd ts k).props = ps) := Lib.hid (by rw [← NK.out]; exact hps)
    have pl := PP.out.len
    have FR : Hid (∀ W, Gr W5 W → W.frozen? ⟨g, k * 3 + 2, none⟩ = false) := Lib.hid (fun W hg => by have q := (TA.out.gr hg).own; rw [ML.out] at q; exact q.frozenAt _)
    refine wp_code_eq (c := Code.region 7 (regIn 7 Tryz.f19) true) (by kernel_rfl) (set7 (wr := W5) (g := g) (k := k) (B := B) (o := o) (PB := PB) (PX := PX) (n := ts.length) (vc := vc) (cap := cap) (nm := nm) (val := val) (pa := pa) (pc := pc) (ps := ps) (qs := putP ps ⟨nm, val⟩) BX.out Y1.out hk c2 hs rfl ⟨by omega, fun q hq => ⟨by have := (PP.out.prop q hq).2; omega, by have := (PP.out.mem q hq).2; omega⟩, by omega, hcap⟩ ⟨q2, FR.out⟩ ?_)
    intro t29 t30 t31 t32 t33 t34 t35 t36 t37 t38 t39 t40 t41 t42 t43 wx hfin
    obtain ⟨w6, x6, c6, rfl, hg6, ho6⟩ := hfin
    have PQ := Lib.hid (PV_put PP.out (p := ⟨nm, val⟩) HM.out hval)
    have hkm : k < ms.length := by have := ML.out; omega
    have SK := Lib.hid ((TA.out.nds _ (List.getElem_mem hkm)).sm)
    have T7 := Lib.hid ((TA.out.gr hg6).put hkm (ps := putP ps ⟨nm, val⟩) (owns_low ho6 (by have := GA.out.size; have := HPB.out; omega)) ⟨SK.out.plo, SK.out.phi, SK.out.nam, by have := PQ.out.len; simp only; omega, fun q hq => ⟨by have := (PQ.out.prop q hq).2; omega, by have := (PQ.out.mem q hq).2; omega⟩⟩)
    have MQ : Hid ((ms.set k ⟨{ (ms[k]'hkm).n with props := putP ps ⟨nm, val⟩ }, x6, c6⟩).map NM.n = setN ts k (putP ps ⟨nm, val⟩)) := Lib.hid (by rw [map_putN, MP.out])
    have BX7 := Lib.hid ((BX.out.gr hg6).oth (b := g) (o := k * 3 + 2) (v := .slice x6 (putP ps ⟨nm, val⟩).length c6) GPX.out)
    have Y7 := Lib.hid ((Y2.out.gr hg6).oth (b := g) (o := k * 3 + 2) (v := .slice x6 (putP ps ⟨nm, val⟩).length c6) GP2.out)
    have G7 : Hid (Gr w (w6.setCell ⟨g, k * 3 + 2, none⟩ (.slice x6 (putP ps ⟨nm, val⟩).length c6))) := Lib.hid ((GA.out.trans hg6).setc (by have := GPB.out; have := HPB.out; omega))
    obtain ⟨W7, hW7⟩ : ∃ W : World, Hid (W = w6.setCell ⟨g, k * 3 + 2, none⟩ (.slice x6 (putP ps ⟨nm, val⟩).length c6)) := ⟨_, Lib.hid rfl⟩
    rw [← hW7.out] at T7 BX7 Y7 G7 ⊢
    obtain ⟨m7, hm7⟩ : ∃ m : List NM, m = ms.set k ⟨{ (ms[k]'hkm).n with props := putP ps ⟨nm, val⟩ }, x6, c6⟩ := ⟨_, rfl⟩
    rw [← hm7] at T7 MQ
    have L7 : Hid (m7.length = ts.length) := Lib.hid (by rw [hm7, List.length_set]; exact ML.out)
    have V7 := Lib.hid (VT_set HV.out hk PQ.out)
    have SL7 := Lib.hid T7.out.sl.2
    clear hW7 hg6 ho6 q0 q1 q2 c2 hcap hf hs hps BX Y1 Y2 TA GA hm7
    have L9 : Hid ((setN ts k (putP ps ⟨nm, val⟩)).length = ts.length) := Lib.hid (by rw [← MQ.out, List.length_map]; exact L7.out)
    rw [MQ.out] at SL7
    have b0 : W7.cell? ⟨PX, 0, none⟩ = some (.slice (some ⟨g, 0, none⟩) ts.length vc) := BX7.out.cell 0 (by simp)
    have hb := has_of_cell b0
    unfold set7A
    go_wp2_with fail
    have LK := limits_ok (setN ts k (putP ps ⟨nm, val⟩)) (some ⟨g, 0, none⟩) vc W7 SL7.out V7.out.lim
    rw [L9.out] at LK
    refine LK.mono ?_
    rintro e w8 ⟨rfl, hg8⟩
    have T8 := Lib.hid (T7.out.gr hg8)
    have B8 := Lib.hid (BX7.out.gr hg8)
    have Y8 := Lib.hid (Y7.out.gr hg8)
    have G8 := Lib.hid (G7.out.trans hg8)
    clear hg8 LK T7 BX7 Y7 G7 b0 hb
    have b0 : w8.cell? ⟨PX, 0, none⟩ = some (.slice (some ⟨g, 0, none⟩) ts.length vc) := B8.out.cell 0 (by simp)
    have hb := has_of_cell b0
    have z0 := Y8.out.cell 0 (by simp)
    have zf := Y8.out.free 0
    have hz := has_of_cell z0
    go_wp2_with fail
    have RF := Lib.hid (Y8.out.set 0 (.slice (some ⟨g, 0, none⟩) ts.length vc))
    have TF := Lib.hid (T8.out.box (o := 0) (u := .slice (some ⟨g, 0, none⟩) ts.length vc) Y8.out.ty (by decide) (T8.out.ne_ty Y8.out.ty (by decide)))
    have GF : Hid (Gr w (w8.setCell ⟨P2, 0, none⟩ (.slice (some ⟨g, 0, none⟩) ts.length vc))) := Lib.hid (G8.out.setc (by have := HPB.out; have := HP2.out; omega))
    obtain ⟨W3, hW3⟩ : ∃ W : World, Hid (W = w8.setCell ⟨P2, 0, none⟩ (.slice (some ⟨g, 0, none⟩) ts.length vc)) := ⟨_, Lib.hid rfl⟩
    rw [← hW3.out] at RF TF GF ⊢
    have e0 : W3.cell? ⟨P2, 0, none⟩ = some (.slice (some ⟨g, 0, none⟩) ts.length vc) := RF.out.cell 0 (by simp)
    clear hW3 z0 zf hz b0 hb
    refine bodyPost_ret (v := .tuple #[.agg #[.slice (some ⟨g, 0, none⟩) ts.length vc], .int .i64 0]) (by simp [results, Tryz.results19, e0, go_sem]) rfl ?_
    rw [HP0.out]
    exact ⟨GF.out, .inr ⟨k, _, m7, hk, PT.out, rfl, by rw [HPB.out]; exact TF.out, by rw [PSE.out]; exact MQ.out⟩⟩
def compL : List St := [[97, 44, 120], [98], [99, 44, 100, 101, 118], [102, 105, 120, 101, 100, 45, 99, 108, 111, 99, 107]]
theorem tName_any (w : World) (b len : Nat) (h : Tp w b len) :
    Calls Tryz.prog 99 #[.pointer (some ⟨b, 0, none⟩)] w fun e w' => ∃ s, s ∈ nodesV ∧ e = .returned (.string (bs s)) ∧ Mv b len w w' := by
  have H := Lib.hid h
  have hb := h.has
  clear h
  go_enter Tryz.func99, Tryz.ntmps99
  go_wp2_with fail
  have RX : Hid (Row (w.alloc (.cells #[.string ⟨#[97]⟩, .string ⟨#[98]⟩, .string ⟨#[99]⟩, .string ⟨#[99, 112, 117]⟩, .string ⟨#[99, 108, 107]⟩, .string ⟨#[98, 117, 115, 64, 49, 48]⟩, .string ⟨#[100, 101, 118, 64, 50]⟩, .string ⟨#[120, 95, 49]⟩, .string ⟨#[122]⟩] 9)) w.heap.size 9 (strV nodesV)) := Lib.hid (Row.new w #[.string ⟨#[97]⟩, .string ⟨#[98]⟩, .string ⟨#[99]⟩, .string ⟨#[99, 112, 117]⟩, .string ⟨#[99, 108, 107]⟩, .string ⟨#[98, 117, 115, 64, 49, 48]⟩, .string ⟨#[100, 101, 118, 64, 50]⟩, .string ⟨#[120, 95, 49]⟩, .string ⟨#[122]⟩] 9)
  obtain ⟨W, hW⟩ : ∃ W : World, Hid (W = w.alloc (.cells #[.string ⟨#[97]⟩, .string ⟨#[98]⟩, .string ⟨#[99]⟩, .string ⟨#[99, 112, 117]⟩, .string ⟨#[99, 108, 107]⟩, .string ⟨#[98, 117, 115, 64, 49, 48]⟩, .string ⟨#[100, 101, 118, 64, 50]⟩, .string ⟨#[120, 95, 49]⟩, .string ⟨#[122]⟩] 9)) := ⟨_, Lib.hid rfl⟩
  have GW : Hid (Gr w W) := Lib.hid (by rw [hW.out]; exact (Gr.refl _).alloc _)
  rw [← hW.out] at RX ⊢
  clear hW
  refine (nM_any W b len 9 (H.out.gr GW.out) (by omega) (by omega)).mono ?_
  rintro e w1 ⟨x, rfl, ⟨x0, x1⟩, hm⟩
  have MV := Lib.hid ((Mv.of_gr H.out GW.out).trans H.out.has hm)
  have RY := Lib.hid (hm.row RX.out (by omega))
  obtain ⟨k, rfl⟩ := Int.eq_ofNat_of_zero_le x0
  have hk : k < nodesV.length := by simp [nodesV]; omega
  have c0 := RY.out.cell k (by simpa [strV] using hk)
  rw [strV_get hk] at c0
  have hh := has_of_cell c0
  have k9 : (k : Int) < 9 := by omega
  have MEM := Lib.hid (List.getElem_mem hk)
  obtain ⟨s, hs⟩ : ∃ s, nodesV[k] = s := ⟨_, rfl⟩
  rw [hs] at c0 MEM
  clear hm hs x0 x1
  go_wp2_with fail
  go_ret
  exact ⟨s, MEM.out, rfl, MV.out⟩
theorem tCompat_any (w : World) (b len : Nat) (h : Tp w b len) :
    Calls Tryz.prog 36 #[.pointer (some ⟨b, 0, none⟩)] w fun e w' => ∃ s, s ∈ compL ∧ e = .returned (.string (bs s)) ∧ Mv b len w w' := by
  have H := Lib.hid h
  have hb := h.has
  clear h
  go_enter Tryz.func36, Tryz.ntmps36
  go_wp2_with fail
  have RX : Hid (Row (w.alloc (.cells #[.string ⟨#[97, 44, 120]⟩, .string ⟨#[98]⟩, .string ⟨#[99, 44, 100, 101, 118]⟩, .string ⟨#[102, 105, 120, 101, 100, 45, 99, 108, 111, 99, 107]⟩] 9)) w.heap.size 9 (strV compL)) := Lib.hid (Row.new w #[.string ⟨#[97, 44, 120]⟩, .string ⟨#[98]⟩, .string ⟨#[99, 44, 100, 101, 118]⟩, .string ⟨#[102, 105, 120, 101, 100, 45, 99, 108, 111, 99, 107]⟩] 9)
  obtain ⟨W, hW⟩ : ∃ W : World, Hid (W = w.alloc (.cells #[.string ⟨#[97, 44, 120]⟩, .string ⟨#[98]⟩, .string ⟨#[99, 44, 100, 101, 118]⟩, .string ⟨#[102, 105, 120, 101, 100, 45, 99, 108, 111, 99, 107]⟩] 9)) := ⟨_, Lib.hid rfl⟩
  have GW : Hid (Gr w W) := Lib.hid (by rw [hW.out]; exact (Gr.refl _).alloc _)
  rw [← hW.out] at RX ⊢
  clear hW
  refine (nM_any W b len 4 (H.out.gr GW.out) (by omega) (by omega)).mono ?_
  rintro e w1 ⟨x, rfl, ⟨x0, x1⟩, hm⟩
  have MV := Lib.hid ((Mv.of_gr H.out GW.out).trans H.out.has hm)
  have RY := Lib.hid (hm.row RX.out (by omega))
  obtain ⟨k, rfl⟩ := Int.eq_ofNat_of_zero_le x0
  have hk : k < compL.length := by simp [compL]; omega
  have c0 := RY.out.cell k (by simpa [strV] using hk)
  rw [strV_get hk] at c0
  have hh := has_of_cell c0
  have k9 : (k : Int) < 4 := by omega
  have MEM := Lib.hid (List.getElem_mem hk)
  obtain ⟨s, hs⟩ : ∃ s, compL[k] = s := ⟨_, rfl⟩
  rw [hs] at c0 MEM
  clear hm hs x0 x1
  go_wp2_with fail
  go_ret
  exact ⟨s, MEM.out, rfl, MV.out⟩
theorem rangeW_any (w : World) (b len : Nat) (lo hi : Int) (h : Tp w b len) (hl : 0 ≤ lo) (hh : lo ≤ hi) (hh1 : hi ≤ 9223372036854775806) :
    Calls Tryz.prog 30 #[.pointer (some ⟨b, 0, none⟩), .int .i64 lo, .int .i64 hi] w (ReadsM b len w (InTo lo hi)) :=
  h.elim fun p h => (range_any w b len p lo hi h hl hh hh1).mono fun _ _ q => q.m
theorem tNumber_any (w : World) (b len : Nat) (h : Tp w b len) :
    Calls Tryz.prog 57 #[.pointer (some ⟨b, 0, none⟩)] w fun e w' => ∃ n : Nat, n < 4294967296 ∧ e = .returned (.int .i64 n) ∧ Mv b len w w' := by
  have H := Lib.hid h
  have hb := h.has
  clear h
  go_enter Tryz.func57, Tryz.ntmps57
  go_wp2_with fail
  refine (rangeW_any w b len 0 300 H.out (by omega) (by omega) (by omega)).mono ?_
  rintro e w1 ⟨x, rfl, ⟨x0, x1⟩, hm1⟩
  have M1 := Lib.hid hm1
  have T1 := Lib.hid (hm1.tp H.out)
  clear hm1
  go_wp2_with fail
  refine (rangeW_any w1 b len 0 4294967295 T1.out (by omega) (by omega) (by omega)).mono ?_
  rintro e w2 ⟨y, rfl, ⟨y0, y1⟩, hm2⟩
  have M2 := Lib.hid (M1.out.trans H.out.has hm2)
  have T2 := Lib.hid (hm2.tp T1.out)
  have B2 := Lib.hid (M2.out.size)
  clear hm2
  go_wp2_with fail
  have RX : Hid (Row (w2.alloc (.cells #[.int .i64 0, .int .i64 1, .int .i64 2, .int .i64 3, .int .i64 5, .int .i64 31, .int .i64 32, .int .i64 x, .int .i64 4294967295, .int .i64 2147483648, .int .i64 y] 3)) w2.heap.size 3 (nums [0, 1, 2, 3, 5, 31, 32, x, 4294967295, 2147483648, y])) := Lib.hid (Row.new w2 #[.int .i64 0, .int .i64 1, .int .i64 2, .int .i64 3, .int .i64 5, .int .i64 31, .int .i64 32, .int .i64 x, .int .i64 4294967295, .int .i64 2147483648, .int .i64 y] 3)
  have TA := Lib.hid (T2.out.gr ((Gr.refl w2).alloc (.cells #[.int .i64 0, .int .i64 1, .int .i64 2, .int .i64 3, .int .i64 5, .int .i64 31, .int .i64 32, .int .i64 x, .int .i64 4294967295, .int .i64 2147483648, .int .i64 y] 3)))
  have ALL : ∀ z ∈ [0, 1, 2, 3, 5, 31, 32, x, 4294967295, 2147483648, y], 0 ≤ z ∧ z ≤ 4294967295 := by
    intro z hz
    simp only [List.mem_cons, List.not_mem_nil, or_false] at hz
    omega
  refine (pickM_any _ b len TA.out w2.heap.size 11 (fun x => 0 ≤ x ∧ x ≤ 4294967295) (by omega) (by omega) (by have := T2.out.has; omega) (fun k hk => ?_)).mono ?_
  · have hk2 : k < [0, 1, 2, 3, 5, 31, 32, x, 4294967295, 2147483648, y].length := hk
    refine ⟨_, RX.out.iat k hk2, ALL _ (List.getElem_mem hk2)⟩
  rintro e w3 ⟨z, rfl, ⟨z0, z1⟩, hm3⟩
  have M3 := Lib.hid ((M2.out.gr ((Gr.refl w2).alloc (.cells #[.int .i64 0, .int .i64 1, .int .i64 2, .int .i64 3, .int .i64 5, .int .i64 31, .int .i64 32, .int .i64 x, .int .i64 4294967295, .int .i64 2147483648, .int .i64 y] 3))).trans H.out.has hm3)
  clear hm3
  obtain ⟨n, rfl⟩ := Int.eq_ofNat_of_zero_le z0
  go_wp2_with fail
  go_ret
  exact ⟨n, by omega, rfl, M3.out⟩
def strLen : Value → Nat
  | .string s => s.size
  | _ => 0
def GivesCells (w : World) (v : St) (e : Ending) (w' : World) : Prop :=
  if cellsOk v = true then ∃ x, e = .returned (.tuple #[x, .bool true]) ∧ w'.ownsRow w.heap.size 3 1 x (cellsL v).length (nums (cellsL v)) ∧ Gr w w'
  else e = .returned (.tuple #[.slice none 0 0, .bool false]) ∧ Gr w w'
theorem cells_step (v : St) (h : v.length % 4 = 0) (k : Nat) (hk : k * 4 < v.length) : ∃ c0 c1 c2 c3 r, v.drop (k * 4) = c0 :: c1 :: c2 :: c3 :: r ∧ r = v.drop ((k + 1) * 4) ∧ (cellsL v).take (k + 1) = (cellsL v).take k ++ [((num4 c0 c1 c2 c3 : Nat) : Int)] := by
  induction k generalizing v with
  | zero =>
    match v, h, hk with
    | [], _, hk => simp at hk
    | [_], h, _ => simp at h
    | [_, _], h, _ => simp at h
    | [_, _, _], h, _ => simp at h
    | a :: b :: c :: d :: r, _, _ => exact ⟨a, b, c, d, r, rfl, by simp, by simp [cellsL]⟩
  | succ k ih =>
    match v, h, hk with
    | [], _, hk => simp at hk
    | [_], h, _ => simp at h
    | [_, _], h, _ => simp at h
    | [_, _, _], h, _ => simp at h
    | a :: b :: c :: d :: r, h, hk =>
      obtain ⟨c0, c1, c2, c3, r', e1, e2, e3⟩ := ih r (by simp only [List.length_cons] at h; omega) (by simp only [List.length_cons] at hk; omega)
      refine ⟨c0, c1, c2, c3, r', ?_, ?_, ?_⟩
      · rw [← e1, show (k + 1) * 4 = k * 4 + 4 by omega]; simp
      · rw [e2, show (k + 1 + 1) * 4 = (k + 1) * 4 + 4 by omega]; simp
      · rw [cellsL, List.take_succ_cons, e3, List.take_succ_cons]; rfl
theorem cells_any (v : St) (w : World) (hf : v.length ≤ 1000000) : Calls Tryz.prog 129 #[.string (bs v)] w (GivesCells w v) := by
  obtain ⟨i0, hi, hz0, hz1, hz2⟩ := info_parts infoInt
  by_cases hok : cellsOk v = true
  · have h1 : v.isEmpty = false := by simp [cellsOk] at hok; simpa using hok.1
    have h2' : v.length % 4 = 0 := by simp [cellsOk] at hok; exact hok.2
    have h2 : (v.length : Int).tmod 4 = 0 := by rw [Int.tmod_eq_emod_of_nonneg (by omega)]; omega
    have H2 := Lib.hid h2'
    have hll : (cellsL v).length * 4 = v.length := by rw [cellsL_length]; omega
    have HLL := Lib.hid hll
    have GC : Hid (∀ x w', w'.ownsRow w.heap.size 3 1 x (cellsL v).length (nums (cellsL v)) → Gr w w' → GivesCells w v (.returned (.tuple #[x, .bool true])) w') := Lib.hid fun x w' o g => by unfold GivesCells; rw [if_pos hok]; exact ⟨x, rfl, o, g⟩
    clear hok h2' hll
    go_enter Tryz.func129, Tryz.ntmps129
    go_wp2_with fail
    go_loopw [0, 4] (fun s x wr => ∃ k : Nat, k ≤ (cellsL v).length ∧ s = .string (bs (v.drop (k * 4))) ∧ wr.ownsRow w.heap.size 3 1 x ((cellsL v).take k).length (nums ((cellsL v).take k)) ∧ Gr w wr) (fun s _ _ => strLen s)
    case atStart => exact ⟨0, Nat.zero_le _, by simp, World.ownsRow_nil _ _ _ _, Gr.refl _⟩
    case round =>
      obtain ⟨k, hk, rfl, ho, hg⟩ := hrel
      have HO := Lib.hid ho
      have HG := Lib.hid hg
      clear ho hg
      by_cases hlt : k < (cellsL v).length
      · obtain ⟨c0, c1, c2, c3, r, e1, e2, e3⟩ := cells_step v H2.out k (by have := HLL.out; omega)
        have E2 := Lib.hid e2
        have E3 := Lib.hid e3
        rw [e1]
        have RL : r.length ≤ 1000000 := by rw [e2]; simp; omega
        clear e1 e2 e3
        go_wp2_with fail
        refine wp_code_eq (c := Code.region 6 (regIn 6 Tryz.f129) true) (by kernel_rfl) (cl6 (wb := w) (zs := (cellsL v).take k) HO.out HG.out (by rw [List.length_take]; have := HLL.out; omega) RL ?_)
        intro t4 t17 t18 t19 t20 t21 t22 t23 t24 t25 t26 t27 t28 t29 t30 t31 t32 t33 t34 t35 t36 t37 wx ho2 hg2
        have HO2 := Lib.hid ho2
        have HG2 := Lib.hid hg2
        unfold cl6A
        clear ho2 hg2
        have l4 : (4 : Int) ≤ (r.length : Int) + 1 + 1 + 1 + 1 := by omega
        go_wp2_with fail
        go_roundw
        case rel =>
          refine ⟨k + 1, by omega, ?_, ?_, HG2.out⟩
          · rw [E2.out]
          · rw [E3.out, List.length_append]; exact HO2.out
        case measure => simp [strLen]; omega
      · obtain rfl : k = (cellsL v).length := by omega
        have e : v.drop ((cellsL v).length * 4) = [] := by rw [HLL.out]; simp
        rw [e]
        have HO3 : Hid (wr.ownsRow w.heap.size 3 1 u4 (cellsL v).length (nums (cellsL v))) := Lib.hid (by have := HO.out; rwa [List.take_length] at this)
        clear HO e
        go_wp2_with fail
        refine bodyPost_ret (v := .tuple #[u4, .bool true]) (by simp [results, Tryz.results129, go_sem]) rfl ?_
        exact GC.out _ _ HO3.out HG.out
  · have GC : Hid (∀ w', Gr w w' → GivesCells w v (.returned (.tuple #[.slice none 0 0, .bool false])) w') := Lib.hid fun w' g => by unfold GivesCells; rw [if_neg hok]; exact ⟨rfl, g⟩
    by_cases h0 : v = []
    · have h1 : v.isEmpty = true := by simp [h0]
      clear hok h0
      go_enter Tryz.func129, Tryz.ntmps129
      go_wp2_with fail
      refine bodyPost_ret (v := .tuple #[.slice none 0 0, .bool false]) (by simp [results, Tryz.results129, go_sem]) rfl ?_
      exact GC.out _ (Gr.refl _)
    · have h1 : v.isEmpty = false := by simpa using h0
      have h2' : v.length % 4 ≠ 0 := by simp [cellsOk] at hok; exact hok h0
      have h2 : ((v.length : Int).tmod 4 == 0) = false := by rw [beq_eq_false_iff_ne, Int.tmod_eq_emod_of_nonneg (by omega)]; omega
      have h3 : ((v.length : Int).tmod 4 != 0) = true := by rw [bne, h2]; rfl
      clear hok h0
      go_enter Tryz.func129, Tryz.ntmps129
      go_wp2_with fail
      refine bodyPost_ret (v := .tuple #[.slice none 0 0, .bool false]) (by simp [results, Tryz.results129, go_sem]) rfl ?_
      exact GC.out _ (Gr.refl _)
theorem str4 (n : Nat) : strOfNums [(n : Int) / 16777216, (n : Int) / 65536 % 256, (n : Int) / 256 % 256, (n : Int) % 256] = bs (cell4 n) := by
  have e1 : ((n : Int) / 16777216).toNat = n / 16777216 := by omega
  have e2 : ((n : Int) / 65536 % 256).toNat = n / 65536 % 256 := by omega
  have e3 : ((n : Int) / 256 % 256).toNat = n / 256 % 256 := by omega
  have e4 : ((n : Int) % 256).toNat = n % 256 := by omega
  have m2 : UInt8.ofNat (n / 65536 % 256) = UInt8.ofNat (n / 65536) := UInt8.toNat_inj.1 (by simp)
  have m3 : UInt8.ofNat (n / 256 % 256) = UInt8.ofNat (n / 256) := UInt8.toNat_inj.1 (by simp)
  have m4 : UInt8.ofNat (n % 256) = UInt8.ofNat n := UInt8.toNat_inj.1 (by simp)
  unfold strOfNums bs cell4
  simp only [List.map_cons, List.map_nil, e1, e2, e3, e4, m2, m3, m4]
theorem word4_any (n : Nat) (w : World) (hn : n < 4294967296) : Calls Tryz.prog 149 #[.int .i64 n] w (Grows w (.string (bs (cell4 n)))) := by
  have hc := run_convert_bytes_arg (P := Tryz.prog) (w.alloc (.cells #[.int .u8 ((n : Int) / 16777216), .int .u8 ((n : Int) / 65536 % 256), .int .u8 ((n : Int) / 256 % 256), .int .u8 ((n : Int) % 256)] 5)) 95 5 Tryz.underlying95 Tryz.underlying5 w.heap.size 0 4 4 [(n : Int) / 16777216, (n : Int) / 65536 % 256, (n : Int) / 256 % 256, (n : Int) % 256] rfl
    (fun i hi => by
      have := (Row.new w #[.int .u8 ((n : Int) / 16777216), .int .u8 ((n : Int) / 65536 % 256), .int .u8 ((n : Int) / 256 % 256), .int .u8 ((n : Int) % 256)] 5).cell i (by simpa using hi)
      rw [Nat.zero_add, this]
      match i, hi with
      | 0, _ => rfl
      | 1, _ => rfl
      | 2, _ => rfl
      | 3, _ => rfl) 9 Tryz.underlying9
  rw [str4] at hc
  go_enter Tryz.func149, Tryz.ntmps149
  go_wp2_with fail
  go_ret
  exact ⟨rfl, (Gr.refl _).alloc _⟩
def b4 (n : Nat) : List Int := [(n : Int) / 16777216, (n : Int) / 65536 % 256, (n : Int) / 256 % 256, (n : Int) % 256]
def u8s (l : List Int) : List Value := l.map (Value.int .u8)
theorem infoU8 : (Tryz.prog.info? 5).map (fun i => (i.zero, i.size, i.bytes)) = some (some (.int .u8 0), 1, 1) := by kernel_rfl
theorem strs_b4 (ns : List Nat) : strOfNums (ns.flatMap b4) = bs (cellsS ns) := by
  have h : ∀ n, (b4 n).map (fun x => UInt8.ofNat x.toNat) = cell4 n := fun n => by
    have := str4 n
    unfold strOfNums bs at this
    have := congrArg (fun b => b.data.toList) this
    simpa [b4] using this
  unfold strOfNums bs cellsS
  rw [List.map_flatMap]
  simp only [h]
theorem b4_len (ns : List Nat) : (ns.flatMap b4).length = 4 * ns.length := by
  induction ns with
  | nil => rfl
  | cons n ns ih => rw [List.flatMap_cons, List.length_append, ih]; simp [b4]; omega
theorem growCells_any (ns : List Nat) (a : Option Addr) (cap : Nat) (w : World) (h : SlOf 1 RI w a (ns.map (fun n : Nat => (n : Int)))) (hn : ∀ n ∈ ns, n < 4294967296) (h0 : 0 < ns.length) (hf : ns.length ≤ 1000) :
    Calls Tryz.prog 39 #[.slice a ns.length cap] w (Grows w (.string (bs (cellsS ns)))) := by
  have H := Lib.hid h
  have HN := Lib.hid hn
  obtain ⟨i0, hi, hz0, hz1, hz2⟩ := info_parts infoU8
  clear h hn
  go_enter Tryz.func39, Tryz.ntmps39
  go_wp2_with fail
  go_loopw [3, 8] (fun x i wr => ∃ k : Nat, k ≤ ns.length ∧ i = .int .i64 k ∧ wr.ownsRow w.heap.size 5 1 x (k * 4) (u8s ((ns.take k).flatMap b4)) ∧ Gr w wr) (fun _ i _ => ns.length - (intOf i).toNat)
  case atStart => exact ⟨0, Nat.zero_le _, rfl, World.ownsRow_nil _ _ _ _, Gr.refl _⟩
  case round =>
    obtain ⟨k, hk, rfl, ho, hg⟩ := hrel
    obtain ⟨va, vc, rfl⟩ := owns_slice ho
    have OW := Lib.hid ho
    have HG := Lib.hid hg
    clear ho hg
    by_cases hlt : k < ns.length
    · obtain ⟨b, o, rfl, c0, _⟩ := (H.out.giI HG.out).one k (by simpa using hlt)
      have hnk := HN.out ns[k] (List.getElem_mem hlt)
      obtain ⟨n, hn⟩ : ∃ n, n = ns[k] := ⟨_, rfl⟩
      have HNK := Lib.hid hn
      rw [List.getElem_map, ← hn] at c0
      rw [← hn] at hnk
      clear hn
      have hh := has_of_cell c0
      have NR := Lib.hid (row_cells (Row.new wr #[.int .u8 ((n : Int) / 16777216), .int .u8 ((n : Int) / 65536 % 256), .int .u8 ((n : Int) / 256 % 256), .int .u8 ((n : Int) % 256)] 5))
      go_wp2_with (at_builtin; refine wpList_append_own _ rfl _ _ 95 rfl w.heap.size 5 i0 (.int .u8 0) 1 1 Tryz.underlying95 hi hz0 hz1 hz2 rfl (by decide) (.slice va (k * 4) vc) (k * 4) (u8s ((ns.take k).flatMap b4)) rfl (OW.out.alloc _) ⟨wr.heap.size, 0, none⟩ 4 4 [.int .u8 ((n : Int) / 16777216), .int .u8 ((n : Int) / 65536 % 256), .int .u8 ((n : Int) / 256 % 256), .int .u8 ((n : Int) % 256)] rfl rfl NR.out (by intro u hu; simp at hu; rcases hu with rfl | rfl | rfl | rfl <;> rfl) (by unfold maxLen; omega) (by omega) (by have := HG.out.size; simp; omega) ?_; intro v' wz hown' hgrow hnil; have HOz := Lib.hid hown'; have HGz := Lib.hid hgrow; clear hown' hgrow hnil)
      go_roundw
      case rel =>
        refine ⟨k + 1, by omega, by go_num, ?_, (HG.out.alloc _).grown HGz.out (fun j e => (OW.out.lt j e).1)⟩
        have := HOz.out
        rw [List.take_succ_eq_append_getElem hlt, List.flatMap_append, ← HNK.out, show (k + 1) * 4 = k * 4 + 4 by omega]
        simpa [u8s, b4] using this
      case measure => simp [intOf]; omega
    · obtain rfl : k = ns.length := by omega
      have OW2 : Hid (wr.ownsRow w.heap.size 5 1 (.slice va (ns.length * 4) vc) (ns.length * 4) (u8s (ns.flatMap b4))) := Lib.hid (by have := OW.out; rwa [List.take_length] at this)
      obtain ⟨g, cp, e1, _, _, hc⟩ := owns_cell OW2.out (by omega)
      cases e1
      have hcv := run_convert_bytes_arg (P := Tryz.prog) wr 95 5 Tryz.underlying95 Tryz.underlying5 g 0 (ns.length * 4) vc (ns.flatMap b4) (by rw [b4_len]; omega)
        (fun i hi => by
          rw [Nat.zero_add, hc i (by omega)]
          have hl : i < (ns.flatMap b4).length := by rw [b4_len]; omega
          unfold u8s
          rw [List.getElem?_map, List.getElem?_eq_getElem hl, List.getD_eq_getElem?_getD, List.getElem?_eq_getElem hl]
          rfl) 9 Tryz.underlying9
      rw [strs_b4] at hcv
      clear hc OW
      go_wp2_with fail
      go_ret
      exact ⟨rfl, HG.out⟩
theorem eqPrp (p q : Prp) (w : World) : (binOp .eql 83 (.agg #[.string (bs p.name), .string (bs p.val)]) (.agg #[.string (bs q.name), .string (bs q.val)])).run Tryz.prog w = .ok (.bool (p == q)) w := by
  have e : (p == q) = (p.name == q.name && p.val == q.val) := by
    rw [Bool.eq_iff_iff]; simp; constructor
    · rintro rfl; exact ⟨rfl, rfl⟩
    · rintro ⟨h1, h2⟩; cases p; cases q; simp_all
  rw [e]
  have hs := Tryz.stoodInHeld83
  have hu := Tryz.underlying83
  have hz := Tryz.underlying9
  simp [go_sem, hs, hu, hz]
  by_cases h1 : p.name = q.name <;> by_cases h2 : p.val = q.val <;> simp [h1, h2]
theorem idxP_any (ps : List Prp) (p : Prp) (a : Option Addr) (cap : Nat) (w : World) (h : SlOf 2 RPrp w a ps) (hf : ps.length ≤ 1000000) :
    Calls Tryz.prog 158 #[.slice a ps.length cap, .agg #[.string (bs p.name), .string (bs p.val)]] w fun e w' => ∃ i : Int, e = .returned (.int .i64 i) ∧ (decide (0 ≤ i) = ps.contains p) ∧ Gr w w' := by
  have H := Lib.hid h
  clear h
  go_enter Tryz.func158, Tryz.ntmps158
  go_wp2_with fail
  have RB := Lib.hid (Row.new w #[.string (bs p.name), .string (bs p.val)] 83)
  obtain ⟨W1, hW1⟩ : ∃ W : World, Hid (W = w.alloc (.cells #[.string (bs p.name), .string (bs p.val)] 83)) := ⟨_, Lib.hid rfl⟩
  rw [← hW1.out] at RB ⊢
  have G1 : Hid (Gr w W1) := Lib.hid (by rw [hW1.out]; exact (Gr.refl _).alloc _)
  obtain ⟨P0, hP0⟩ : ∃ N : Nat, Hid (w.heap.size = N) := ⟨_, Lib.hid rfl⟩
  rw [hP0.out] at RB ⊢
  clear hW1
  go_loopw [8] (fun i wr => ∃ k : Nat, k ≤ ps.length ∧ i = .int .i64 k ∧ (∀ j (hj : j < k) (hjl : j < ps.length), ¬ ps[j] = p) ∧ Row wr P0 83 [.string (bs p.name), .string (bs p.val)] ∧ Gr w wr) (fun i _ => ps.length - (intOf i).toNat)
  case atStart => exact ⟨0, Nat.zero_le _, rfl, fun j h => absurd h (by omega), RB.out, G1.out⟩
  case round =>
    clear RB G1
    obtain ⟨k, hk, rfl, hall, hrb, hg⟩ := hrel
    have HA := Lib.hid hall
    have HG := Lib.hid hg
    have HRB := Lib.hid hrb
    have b0 : wr.cell? ⟨P0, 0, none⟩ = some (.string (bs p.name)) := hrb.cell 0 (by simp)
    have b1 : wr.cell? ⟨P0, 1, none⟩ = some (.string (bs p.val)) := hrb.cell 1 (by simp)
    clear hall hg hrb
    by_cases hlt : k < ps.length
    · obtain ⟨b, o, rfl, c0, c1, l0, l1⟩ := prps_at (H.out.gr RPrp.mono HG.out) k hlt
      have hh := has_of_cell c0
      have hh2 := has_of_cell b0
      have hi1 : decide ((k : Int) < ps.length) = true := by simp; omega
      have heq := fun W => eqPrp p ps[k] W
      by_cases hq : ps[k] = p
      · have hb : (p == ps[k]) = true := by simp [hq]
        simp only [hb] at heq
        have Q := Lib.hid hq
        clear hq hb
        go_wp2_with fail
        go_quiet (fail)
        go_wp2_with fail
        go_ret
        refine ⟨_, rfl, ?_, HG.out.drewN _⟩
        rw [show decide (0 ≤ (k : Int)) = true by simp, eq_comm, List.contains_iff_mem]
        rw [← Q.out]; exact List.getElem_mem hlt
      · have hb : (p == ps[k]) = false := by rw [beq_eq_false_iff_ne]; exact fun e => hq e.symm
        simp only [hb] at heq
        have Q := Lib.hid hq
        clear hq hb
        go_wp2_with fail
        go_quiet (fail)
        go_wp2_with fail
        go_roundw
        case rel =>
          refine ⟨k + 1, by omega, by go_num, fun j hj hjl => ?_, HRB.out.drewN _, HG.out.drewN _⟩
          by_cases e : j = k
          · subst e; exact Q.out
          · exact HA.out j (by omega) hjl
        case measure => simp [intOf]; omega
    · go_wp2_with fail
      go_ret
      refine ⟨_, rfl, ?_, HG.out⟩
      rw [eq_comm, show decide ((0:Int) ≤ -1) = false by simp, ← Bool.not_eq_true, List.contains_iff_mem]
      intro hx
      obtain ⟨j, hj, e⟩ := List.getElem_of_mem hx
      exact HA.out j (by omega) hj e
theorem conP_any (ps : List Prp) (p : Prp) (a : Option Addr) (cap : Nat) (w : World) (h : SlOf 2 RPrp w a ps) (hf : ps.length ≤ 1000000) :
    Calls Tryz.prog 148 #[.slice a ps.length cap, .agg #[.string (bs p.name), .string (bs p.val)]] w (Grows w (.bool (ps.contains p))) := by
  have H := Lib.hid h
  clear h
  go_enter Tryz.func148, Tryz.ntmps148
  go_wp2_with fail
  refine (idxP_any ps p a cap _ (H.out.gr RPrp.mono ((Gr.refl _).alloc _)) hf).mono ?_
  rintro e w' ⟨x, rfl, hx, O, d, rfl⟩
  have X := Lib.hid hx
  clear hx
  go_wp2_with fail
  go_ret
  exact ⟨ret_bool X.out, ((Gr.refl _).alloc _).xt _ _⟩
theorem ph1_any (n : Nod) (a : Option Addr) (cap p q0 : Nat) (w : World) (h : SlOf 2 RPrp w a n.props) (hf : n.props.length ≤ 1000000) (hp : p < 4294967296) (hq : w.cell? ⟨q0, 0, none⟩ = some (.int .i64 p)) :
    Calls Tryz.prog 147 #[.agg #[.int .i64 n.parent, .string (bs n.name), .slice a n.props.length cap], .pointer (some ⟨q0, 0, none⟩)] w (Grows w (.bool (n.props.contains ⟨phS, cell4 p⟩))) := by
  have H := Lib.hid h
  have hh := has_of_cell hq
  clear h
  go_enter Tryz.func147, Tryz.ntmps147
  go_wp2_with fail
  refine wp_region_grows (by kernel_rfl) (by kernel_rfl) ?_
  repeat (go_big_quiet_step (first | (go_at_call 149; exact calls_grows (word4_any _ _ hp)) | (go_at_call 148; exact calls_grows (conP_any n.props ⟨phS, cell4 p⟩ a cap _ (H.out.gr RPrp.mono (by repeat (first | with_reducible exact Gr.refl _ | with_reducible refine Gr.xt _ _ ?_ | with_reducible refine Gr.alloc _ ?_))) hf))))
  refine wpQuiet_nil ?_
  rintro _ ⟨⟨O, d9⟩, rfl⟩
  go_wp2_with fail
  go_ret
  exact ⟨rfl, ((Gr.refl _).alloc _).xt _ _⟩
def FirstAt (o : Option Nat) (i : Int) : Prop := match o with | none => i = -1 | some k => i = k
theorem idxNod_any (ts : Tr) (a : Option Addr) (cap p q0 : Nat) (w : World) (h : SlOf 3 RNod w a ts) (hf : ts.length ≤ 1000000) (hb : ∀ n ∈ ts, n.props.length ≤ 1000000) (hp : p < 4294967296) (hq : w.cell? ⟨q0, 0, none⟩ = some (.int .i64 p)) :
    Calls Tryz.prog 146 #[.slice a ts.length cap, .func (.func 147) #[] #[.pointer (some ⟨q0, 0, none⟩)]] w fun e w' => ∃ i : Int, e = .returned (.int .i64 i) ∧ FirstAt (ts.findIdx? (fun n => n.props.contains ⟨phS, cell4 p⟩)) i ∧ Gr w w' := by
  have H := Lib.hid h
  have HB := Lib.hid hb
  have HQ := Lib.hid hq
  clear h hb hq
  go_enter Tryz.func146, Tryz.ntmps146
  go_wp2_with fail
  go_loopw [8] (fun i wr => ∃ k : Nat, k ≤ ts.length ∧ i = .int .i64 k ∧ (∀ j (hj : j < k) (hjl : j < ts.length), ts[j].props.contains ⟨phS, cell4 p⟩ = false) ∧ Gr w wr) (fun i _ => ts.length - (intOf i).toNat)
  case atStart => exact ⟨0, Nat.zero_le _, rfl, fun j h => absurd h (by omega), Gr.refl _⟩
  case round =>
    obtain ⟨k, hk, rfl, hall, hg⟩ := hrel
    have HA := Lib.hid hall
    have HG := Lib.hid hg
    clear hall hg
    by_cases hlt : k < ts.length
    · obtain ⟨b, o, pa, pc, rfl, c0, c1, c2, hps, hpf, hw, hnl⟩ := nods_at (H.out.gr RNod.mono HG.out) k hlt
      have hbk := HB.out _ (List.getElem_mem hlt)
      obtain ⟨n, hn⟩ : ∃ n, n = ts[k] := ⟨_, rfl⟩
      have HN := Lib.hid hn
      rw [← hn] at c0 c1 c2 hps hbk
      have HPS := Lib.hid hps
      clear hps hpf hw hnl hn
      have hh := has_of_cell c0
      have hc := ph1_any n pa pc p q0 wr HPS.out hbk hp (cell_gr HG.out HQ.out)
      have HC := Lib.hid hc
      clear hc
      by_cases hv : n.props.contains ⟨phS, cell4 p⟩ = true
      · rw [hv] at HC
        have V : Hid (ts.findIdx? (fun n => n.props.contains ⟨phS, cell4 p⟩) = some k) := Lib.hid (by
          rw [List.findIdx?_eq_some_iff_getElem]
          exact ⟨hlt, by rw [← HN.out]; exact hv, fun j hj => by rw [HA.out j hj (by omega)]; simp⟩)
        clear hv
        go_wp2_with (go_at_call 147; refine HC.out.mono ?_; rintro e w' ⟨rfl, O, d, rfl⟩)
        go_ret
        exact ⟨_, rfl, by rw [V.out]; rfl, HG.out.xt _ _⟩
      · rw [Bool.not_eq_true] at hv
        rw [hv] at HC
        have V := Lib.hid hv
        clear hv
        go_wp2_with (go_at_call 147; refine HC.out.mono ?_; rintro e w' ⟨rfl, O, d, rfl⟩)
        go_roundw
        case rel =>
          refine ⟨k + 1, by omega, by go_num, fun j hj hjl => ?_, HG.out.xt _ _⟩
          by_cases e : j = k
          · subst e; rw [← HN.out]; exact V.out
          · exact HA.out j (by omega) hjl
        case measure => simp [intOf]; omega
    · have V : Hid (ts.findIdx? (fun n => n.props.contains ⟨phS, cell4 p⟩) = none) := Lib.hid (by
        rw [List.findIdx?_eq_none_iff]
        intro x hx
        obtain ⟨j, hj, rfl⟩ := List.getElem_of_mem hx
        exact HA.out j (by omega) hj)
      go_wp2_with fail
      go_ret
      exact ⟨_, rfl, by rw [V.out]; rfl, HG.out⟩
end Go.Proofs.YtbpkndiecomggaaGreatDoor
