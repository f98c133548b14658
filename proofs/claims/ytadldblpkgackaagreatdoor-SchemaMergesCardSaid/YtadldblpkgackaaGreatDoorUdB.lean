/- A statement of schema.Parse by an invariant (printed by wip/tools/pa25.py). -/
import Derived.Test.YtadldblpkgackaaGreatDoorUdA
set_option linter.unusedVariables false
set_option linter.unusedSimpArgs false
namespace Go.Proofs.YtadldblpkgackaaGreatDoor
open Go.RowKit
open Classical

theorem infoRul : (Tryz.prog.info? 28).map (fun i => (i.zero, i.size, i.bytes)) = some (some (.agg #[.string (bs []), .bool false, .int .i64 0, .int .i64 0, .int .i64 0, .int .i64 0, .slice none 0 0]), 7, 80) := by kernel_rfl
theorem RM.enc_one (x : RM) : ∀ u ∈ x.enc, u.oneCell' = true := by
  intro u hu
  simp only [RM.enc, List.mem_cons, List.not_mem_nil, or_false] at hu
  rcases hu with h | h | h | h | h | h | h <;> subst h <;> rfl
/-- The row is as it was, or has been appended to. -/
def St25 (base : Nat) (wr : World) (va : Option Addr) (vc : Nat) (rs : List RM) (x : RM) (t121 : Value) (w : World) : Bool → Prop
  | false => Gr wr w
  | true => wr.grownBy w (Value.slice va rs.length vc).ownBlock ∧ w.ownsRow base 28 7 t121 (rs.length + 1) (rs.flatMap RM.enc ++ x.enc) ∧ (t121.ownBlock = (Value.slice va rs.length vc).ownBlock ∨ ∃ k, t121.ownBlock = some k ∧ wr.heap.size ≤ k)
structure G25 (base : Nat) (wr : World) (g RX : Nat) (us : List Value) (va : Option Addr) (vc : Nat) (rs : List RM) (x : RM) (t121 : Value) (d : Array Bool) (w : World) : Prop where
  box : Row w RX 28 x.enc
  row : Row w g 24 us
  st : St25 base wr va vc rs x t121 w (d.getD 7 false)
theorem G25.step {base : Nat} {wr : World} {g RX : Nat} {us : List Value} {va : Option Addr} {vc : Nat} {rs : List RM} {x : RM} {t121 : Value} {d : Array Bool} {w : World} {i : Nat} (h : G25 base wr g RX us va vc rs x t121 d w) (h11 : i ≠ 7) : G25 base wr g RX us va vc rs x t121 (d.setIfInBounds i true) w :=
  ⟨h.box, h.row, by rw [getD_set_ne false h11]; exact h.st⟩
/-- After the store. -/
def Fin25 (base : Nat) (wr : World) (g : Nat) (va : Option Addr) (vc : Nat) (rs : List RM) (x : RM) (p : Nat) (w : World) : Prop :=
  ∃ t121 w1, w = w1.setCell ⟨g, p + 2, none⟩ t121 ∧ St25 base wr va vc rs x t121 w1 true
/-- What is known of each slot as soon as its operation is done. -/
def pa25F (wr wb : World) (g RX : Nat) (us : List Value) (va : Option Addr) (vc : Nat) (rs : List RM) (x : RM) (p : Nat) (t114 t115 t116 t117 t118 t119 t120 t121 t122 t123 : Value) (d : Array Bool) (w : World) : Prop :=
  (d.getD 10 false = false → G25 wb.heap.size wr g RX us va vc rs x t121 d w) ∧ (d.getD 0 false = true → t114 = .pointer (some ⟨g, p, none⟩)) ∧
  (d.getD 1 false = true → t115 = .pointer (some ⟨g, p, none⟩)) ∧
  (d.getD 2 false = true → t116 = .pointer (some ⟨g, p, none⟩)) ∧
  (d.getD 3 false = true → t117 = .pointer (some ⟨g, p + 2, none⟩)) ∧
  (d.getD 4 false = true → t118 = .slice va rs.length vc) ∧
  (d.getD 5 false = true → t119 = .agg #[.string (bs x.r.name), .bool x.r.req, .int .i64 x.r.kind, .int .i64 x.r.low, .int .i64 x.r.high, .int .i64 x.r.count, .slice x.a x.r.words.length x.c]) ∧
  (d.getD 6 false = true → ∃ B, t120 = .slice (some ⟨B, 0, none⟩) 1 1 ∧ (d.getD 7 false = false → Row w B 28 x.enc)) ∧
  (d.getD 7 false = true → (d.getD 4 false = true ∧ d.getD 6 false = true)) ∧
  (d.getD 8 false = true → t122 = .pointer (some ⟨g, p, none⟩)) ∧
  (d.getD 9 false = true → (t123 = .pointer (some ⟨g, p + 2, none⟩) ∧ d.getD 8 false = true)) ∧
  (d.getD 10 false = true → ((∀ j, j < 10 → d.getD j false = true) ∧ Fin25 wb.heap.size wr g va vc rs x p w))
/-- The frame. -/
def pa25A (g RX p : Nat) (t114 t115 t116 t117 t118 t119 t120 t121 t122 t123 s0 s1 s2 s3 s4 s5 s6 s7 s8 s9 s10 s11 s13 s15 s16 s17 s18 s19 s20 s21 s22 s23 s24 s25 s26 s27 s28 s29 s30 s31 s32 s33 s34 s35 s36 s37 s38 s39 s40 s41 s42 s43 s44 s45 s46 s47 s48 s49 s50 s51 s52 s53 s54 s55 s56 s57 s58 s59 s60 s61 s62 s63 s64 s65 s66 s67 s68 s69 s70 s71 s72 s73 s74 s75 s76 s77 s78 s79 s80 s81 s82 s83 s84 s85 s86 s87 s88 s89 s90 s91 s92 s93 s94 s95 s96 s97 s98 s99 s100 s101 s102 s103 s104 s105 s106 s107 s108 s109 s110 s111 s112 s113 s124 : Value) : Act := { tmps := #[s0, s1, s2, s3, s4, s5, s6, s7, s8, s9, s10, s11, .pointer (some ⟨RX, 0, none⟩), s13, .pointer (some ⟨g, p, none⟩), s15, s16, s17, s18, s19, s20, s21, s22, s23, s24, s25, s26, s27, s28, s29, s30, s31, s32, s33, s34, s35, s36, s37, s38, s39, s40, s41, s42, s43, s44, s45, s46, s47, s48, s49, s50, s51, s52, s53, s54, s55, s56, s57, s58, s59, s60, s61, s62, s63, s64, s65, s66, s67, s68, s69, s70, s71, s72, s73, s74, s75, s76, s77, s78, s79, s80, s81, s82, s83, s84, s85, s86, s87, s88, s89, s90, s91, s92, s93, s94, s95, s96, s97, s98, s99, s100, s101, s102, s103, s104, s105, s106, s107, s108, s109, s110, s111, s112, s113, t114, t115, t116, t117, t118, t119, t120, t121, t122, t123, s124], defers := [] }

set_option maxRecDepth 100000 in
set_option maxHeartbeats 4000000 in
theorem pa25 {Q : Exit → Act → World → Prop} {wr wb : World} {g RX : Nat} {us : List Value} {va : Option Addr} {vc : Nat} {rs : List RM} {x : RM} {p : Nat}  {s0 s1 s2 s3 s4 s5 s6 s7 s8 s9 s10 s11 s13 s15 s16 s17 s18 s19 s20 s21 s22 s23 s24 s25 s26 s27 s28 s29 s30 s31 s32 s33 s34 s35 s36 s37 s38 s39 s40 s41 s42 s43 s44 s45 s46 s47 s48 s49 s50 s51 s52 s53 s54 s55 s56 s57 s58 s59 s60 s61 s62 s63 s64 s65 s66 s67 s68 s69 s70 s71 s72 s73 s74 s75 s76 s77 s78 s79 s80 s81 s82 s83 s84 s85 s86 s87 s88 s89 s90 s91 s92 s93 s94 s95 s96 s97 s98 s99 s100 s101 s102 s103 s104 s105 s106 s107 s108 s109 s110 s111 s112 s113 s114 s115 s116 s117 s118 s119 s120 s121 s122 s123 s124 : Value} (hrow : Row wr g 24 us) (hvi : us[p + 2]? = some (.slice va rs.length vc)) (how : wr.ownsRow wb.heap.size 28 7 (.slice va rs.length vc) rs.length (rs.flatMap RM.enc)) (hbox : Row wr RX 28 x.enc) (hrx : some RX ≠ (Value.slice va rs.length vc).ownBlock) (hgl : rs.length ≤ 16) (hbs : wb.heap.size ≤ wr.heap.size)
    (h' : ∀ t114 t115 t116 t117 t118 t119 t120 t121 t122 t123 wx, Fin25 wb.heap.size wr g va vc rs x p wx → Q .normal (pa25A g RX p t114 t115 t116 t117 t118 t119 t120 t121 t122 t123 s0 s1 s2 s3 s4 s5 s6 s7 s8 s9 s10 s11 s13 s15 s16 s17 s18 s19 s20 s21 s22 s23 s24 s25 s26 s27 s28 s29 s30 s31 s32 s33 s34 s35 s36 s37 s38 s39 s40 s41 s42 s43 s44 s45 s46 s47 s48 s49 s50 s51 s52 s53 s54 s55 s56 s57 s58 s59 s60 s61 s62 s63 s64 s65 s66 s67 s68 s69 s70 s71 s72 s73 s74 s75 s76 s77 s78 s79 s80 s81 s82 s83 s84 s85 s86 s87 s88 s89 s90 s91 s92 s93 s94 s95 s96 s97 s98 s99 s100 s101 s102 s103 s104 s105 s106 s107 s108 s109 s110 s111 s112 s113 s124) wx) :
    (Code.region 25 (regIn 25 Tryz.f9) true).wp Tryz.prog Q { tmps := #[s0, s1, s2, s3, s4, s5, s6, s7, s8, s9, s10, s11, .pointer (some ⟨RX, 0, none⟩), s13, .pointer (some ⟨g, p, none⟩), s15, s16, s17, s18, s19, s20, s21, s22, s23, s24, s25, s26, s27, s28, s29, s30, s31, s32, s33, s34, s35, s36, s37, s38, s39, s40, s41, s42, s43, s44, s45, s46, s47, s48, s49, s50, s51, s52, s53, s54, s55, s56, s57, s58, s59, s60, s61, s62, s63, s64, s65, s66, s67, s68, s69, s70, s71, s72, s73, s74, s75, s76, s77, s78, s79, s80, s81, s82, s83, s84, s85, s86, s87, s88, s89, s90, s91, s92, s93, s94, s95, s96, s97, s98, s99, s100, s101, s102, s103, s104, s105, s106, s107, s108, s109, s110, s111, s112, s113, s114, s115, s116, s117, s118, s119, s120, s121, s122, s123, s124], defers := [] } wr := by
  have HVI := PLift.up hvi
  have HOW := PLift.up how
  have HGL := PLift.up hgl
  have HBS := PLift.up hbs
  have HRX := PLift.up hrx
  have HBX := PLift.up hbox
  have HRW := PLift.up hrow
  clear hvi how hgl hbs hrx hbox hrow
  obtain ⟨j0, hj, hy0, hy1, hy2⟩ := info_parts infoRul
  simp only [regIn, Tryz.f9, regOps, Option.bind_some, Option.getD_some, Nat.beq, cond_true, cond_false]
  refine wp_region_steps (fun done a w => ∃ t114 t115 t116 t117 t118 t119 t120 t121 t122 t123, a = pa25A g RX p t114 t115 t116 t117 t118 t119 t120 t121 t122 t123 s0 s1 s2 s3 s4 s5 s6 s7 s8 s9 s10 s11 s13 s15 s16 s17 s18 s19 s20 s21 s22 s23 s24 s25 s26 s27 s28 s29 s30 s31 s32 s33 s34 s35 s36 s37 s38 s39 s40 s41 s42 s43 s44 s45 s46 s47 s48 s49 s50 s51 s52 s53 s54 s55 s56 s57 s58 s59 s60 s61 s62 s63 s64 s65 s66 s67 s68 s69 s70 s71 s72 s73 s74 s75 s76 s77 s78 s79 s80 s81 s82 s83 s84 s85 s86 s87 s88 s89 s90 s91 s92 s93 s94 s95 s96 s97 s98 s99 s100 s101 s102 s103 s104 s105 s106 s107 s108 s109 s110 s111 s112 s113 s124 ∧ pa25F wr wb g RX us va vc rs x p t114 t115 t116 t117 t118 t119 t120 t121 t122 t123 done w) (by kernel_rfl) (by kernel_rfl) ?_ ⟨?_, ?_, ?_, ?_, ?_, ?_, ?_, ?_, ?_, ?_, ?_, trivial⟩ ?_
  · exact ⟨s114, s115, s116, s117, s118, s119, s120, s121, s122, s123, rfl, fun _ => ⟨HBX.down.drew, HRW.down.drew, (Gr.refl _).drew⟩, fun q => absurd q (by decide), fun q => absurd q (by decide), fun q => absurd q (by decide), fun q => absurd q (by decide), fun q => absurd q (by decide), fun q => absurd q (by decide), fun q => absurd q (by decide), fun q => absurd q (by decide), fun q => absurd q (by decide), fun q => absurd q (by decide), fun q => absurd q (by decide)⟩
  · rintro done a w hsz hnot hdep ⟨t114, t115, t116, t117, t118, t119, t120, t121, t122, t123, rfl, gw, f0, f1, f2, f3, f4, f5, f6, f7, f8, f9, f10⟩ K hK
    have hn : ¬ done.getD 0 false = true := by rw [getD_both hnot]; decide
    have n10 : done.getD 10 false = false := by
      cases e : done.getD 10 false with
      | false => rfl
      | true => exact absurd ((f10 e).1 0 (by decide)) hn
    replace gw := gw n10
    have HK := PLift.up hK
    clear hK 
    simp only [pa25A]
    go_simp
    have gg : Gr w w := Gr.refl _
    refine HK.down _ _ ⟨_, _, _, _, _, _, _, _, _, _, rfl, fun _ => gw.step (by decide), fun _ => rfl, fun q => f1 (done_old q (by decide)), fun q => f2 (done_old q (by decide)), fun q => f3 (done_old q (by decide)), fun q => f4 (done_old q (by decide)), fun q => f5 (done_old q (by decide)), fun q => (let ⟨B, e, h2⟩ := f6 (done_old q (by decide)); ⟨B, e, fun q2 => (h2 (by rw [getD_set_ne false (by decide)] at q2; exact q2)).gr gg⟩), fun q => (let h := f7 (done_old q (by decide)); ⟨getD_set_true h.1, getD_set_true h.2⟩), fun q => f8 (done_old q (by decide)), fun q => (let h := f9 (done_old q (by decide)); ⟨h.1, getD_set_true h.2⟩), fun q => absurd ((f10 (done_old q (by decide))).1 0 (by decide)) hn⟩
  · rintro done a w hsz hnot hdep ⟨t114, t115, t116, t117, t118, t119, t120, t121, t122, t123, rfl, gw, f0, f1, f2, f3, f4, f5, f6, f7, f8, f9, f10⟩ K hK
    have hn : ¬ done.getD 1 false = true := by rw [getD_both hnot]; decide
    have n10 : done.getD 10 false = false := by
      cases e : done.getD 10 false with
      | false => rfl
      | true => exact absurd ((f10 e).1 1 (by decide)) hn
    replace gw := gw n10
    have HK := PLift.up hK
    clear hK 
    simp only [pa25A]
    go_simp
    have gg : Gr w w := Gr.refl _
    refine HK.down _ _ ⟨_, _, _, _, _, _, _, _, _, _, rfl, fun _ => gw.step (by decide), fun q => f0 (done_old q (by decide)), fun _ => rfl, fun q => f2 (done_old q (by decide)), fun q => f3 (done_old q (by decide)), fun q => f4 (done_old q (by decide)), fun q => f5 (done_old q (by decide)), fun q => (let ⟨B, e, h2⟩ := f6 (done_old q (by decide)); ⟨B, e, fun q2 => (h2 (by rw [getD_set_ne false (by decide)] at q2; exact q2)).gr gg⟩), fun q => (let h := f7 (done_old q (by decide)); ⟨getD_set_true h.1, getD_set_true h.2⟩), fun q => f8 (done_old q (by decide)), fun q => (let h := f9 (done_old q (by decide)); ⟨h.1, getD_set_true h.2⟩), fun q => absurd ((f10 (done_old q (by decide))).1 1 (by decide)) hn⟩
  · rintro done a w hsz hnot hdep ⟨t114, t115, t116, t117, t118, t119, t120, t121, t122, t123, rfl, gw, f0, f1, f2, f3, f4, f5, f6, f7, f8, f9, f10⟩ K hK
    have hn : ¬ done.getD 2 false = true := by rw [getD_both hnot]; decide
    have d1 := hdep 1 (by kernel_rfl)
    obtain rfl := f1 d1
    have n10 : done.getD 10 false = false := by
      cases e : done.getD 10 false with
      | false => rfl
      | true => exact absurd ((f10 e).1 2 (by decide)) hn
    replace gw := gw n10
    have hg8 : Has w g := gw.row.has
    have HK := PLift.up hK
    clear hK d1
    simp only [pa25A]
    go_simp
    have gg : Gr w w := Gr.refl _
    refine HK.down _ _ ⟨_, _, _, _, _, _, _, _, _, _, rfl, fun _ => gw.step (by decide), fun q => f0 (done_old q (by decide)), fun q => f1 (done_old q (by decide)), fun _ => rfl, fun q => f3 (done_old q (by decide)), fun q => f4 (done_old q (by decide)), fun q => f5 (done_old q (by decide)), fun q => (let ⟨B, e, h2⟩ := f6 (done_old q (by decide)); ⟨B, e, fun q2 => (h2 (by rw [getD_set_ne false (by decide)] at q2; exact q2)).gr gg⟩), fun q => (let h := f7 (done_old q (by decide)); ⟨getD_set_true h.1, getD_set_true h.2⟩), fun q => f8 (done_old q (by decide)), fun q => (let h := f9 (done_old q (by decide)); ⟨h.1, getD_set_true h.2⟩), fun q => absurd ((f10 (done_old q (by decide))).1 2 (by decide)) hn⟩
  · rintro done a w hsz hnot hdep ⟨t114, t115, t116, t117, t118, t119, t120, t121, t122, t123, rfl, gw, f0, f1, f2, f3, f4, f5, f6, f7, f8, f9, f10⟩ K hK
    have hn : ¬ done.getD 3 false = true := by rw [getD_both hnot]; decide
    have d2 := hdep 2 (by kernel_rfl)
    obtain rfl := f2 d2
    have n10 : done.getD 10 false = false := by
      cases e : done.getD 10 false with
      | false => rfl
      | true => exact absurd ((f10 e).1 3 (by decide)) hn
    replace gw := gw n10
    have HK := PLift.up hK
    clear hK d2
    simp only [pa25A]
    go_simp
    have gg : Gr w w := Gr.refl _
    refine HK.down _ _ ⟨_, _, _, _, _, _, _, _, _, _, rfl, fun _ => gw.step (by decide), fun q => f0 (done_old q (by decide)), fun q => f1 (done_old q (by decide)), fun q => f2 (done_old q (by decide)), fun _ => rfl, fun q => f4 (done_old q (by decide)), fun q => f5 (done_old q (by decide)), fun q => (let ⟨B, e, h2⟩ := f6 (done_old q (by decide)); ⟨B, e, fun q2 => (h2 (by rw [getD_set_ne false (by decide)] at q2; exact q2)).gr gg⟩), fun q => (let h := f7 (done_old q (by decide)); ⟨getD_set_true h.1, getD_set_true h.2⟩), fun q => f8 (done_old q (by decide)), fun q => (let h := f9 (done_old q (by decide)); ⟨h.1, getD_set_true h.2⟩), fun q => absurd ((f10 (done_old q (by decide))).1 3 (by decide)) hn⟩
  · rintro done a w hsz hnot hdep ⟨t114, t115, t116, t117, t118, t119, t120, t121, t122, t123, rfl, gw, f0, f1, f2, f3, f4, f5, f6, f7, f8, f9, f10⟩ K hK
    have hn : ¬ done.getD 4 false = true := by rw [getD_both hnot]; decide
    have d3 := hdep 3 (by kernel_rfl)
    obtain rfl := f3 d3
    have n10 : done.getD 10 false = false := by
      cases e : done.getD 10 false with
      | false => rfl
      | true => exact absurd ((f10 e).1 4 (by decide)) hn
    replace gw := gw n10
    have hil : p + 2 < us.length := (List.getElem?_eq_some_iff.1 HVI.down).1
    have c9 : w.cell? ⟨g, p + 2, none⟩ = some (.slice va rs.length vc) := by rw [gw.row.cell (p + 2) hil]; exact congrArg some (List.getElem?_eq_some_iff.1 HVI.down).2
    have ch := has_of_cell c9
    have HK := PLift.up hK
    clear hK d3
    simp only [pa25A]
    go_simp
    have gg : Gr w w := Gr.refl _
    refine HK.down _ _ ⟨_, _, _, _, _, _, _, _, _, _, rfl, fun _ => gw.step (by decide), fun q => f0 (done_old q (by decide)), fun q => f1 (done_old q (by decide)), fun q => f2 (done_old q (by decide)), fun q => f3 (done_old q (by decide)), fun _ => rfl, fun q => f5 (done_old q (by decide)), fun q => (let ⟨B, e, h2⟩ := f6 (done_old q (by decide)); ⟨B, e, fun q2 => (h2 (by rw [getD_set_ne false (by decide)] at q2; exact q2)).gr gg⟩), fun q => absurd (f7 (done_old q (by decide))).1 hn, fun q => f8 (done_old q (by decide)), fun q => (let h := f9 (done_old q (by decide)); ⟨h.1, getD_set_true h.2⟩), fun q => absurd ((f10 (done_old q (by decide))).1 4 (by decide)) hn⟩
  · rintro done a w hsz hnot hdep ⟨t114, t115, t116, t117, t118, t119, t120, t121, t122, t123, rfl, gw, f0, f1, f2, f3, f4, f5, f6, f7, f8, f9, f10⟩ K hK
    have hn : ¬ done.getD 5 false = true := by rw [getD_both hnot]; decide
    have n10 : done.getD 10 false = false := by
      cases e : done.getD 10 false with
      | false => rfl
      | true => exact absurd ((f10 e).1 5 (by decide)) hn
    replace gw := gw n10
    have b0 : w.cell? ⟨RX, 0, none⟩ = some (.string (bs x.r.name)) := gw.box.cell 0 (by simp [RM.enc])
    have b1 : w.cell? ⟨RX, 1, none⟩ = some (.bool x.r.req) := gw.box.cell 1 (by simp [RM.enc])
    have b2 : w.cell? ⟨RX, 2, none⟩ = some (.int .i64 x.r.kind) := gw.box.cell 2 (by simp [RM.enc])
    have b3 : w.cell? ⟨RX, 3, none⟩ = some (.int .i64 x.r.low) := gw.box.cell 3 (by simp [RM.enc])
    have b4 : w.cell? ⟨RX, 4, none⟩ = some (.int .i64 x.r.high) := gw.box.cell 4 (by simp [RM.enc])
    have b5 : w.cell? ⟨RX, 5, none⟩ = some (.int .i64 x.r.count) := gw.box.cell 5 (by simp [RM.enc])
    have b6 : w.cell? ⟨RX, 6, none⟩ = some (.slice x.a x.r.words.length x.c) := gw.box.cell 6 (by simp [RM.enc])
    have ch := has_of_cell b0
    have HK := PLift.up hK
    clear hK 
    simp only [pa25A]
    go_simp
    have gg : Gr w w := Gr.refl _
    refine HK.down _ _ ⟨_, _, _, _, _, _, _, _, _, _, rfl, fun _ => gw.step (by decide), fun q => f0 (done_old q (by decide)), fun q => f1 (done_old q (by decide)), fun q => f2 (done_old q (by decide)), fun q => f3 (done_old q (by decide)), fun q => f4 (done_old q (by decide)), fun _ => rfl, fun q => (let ⟨B, e, h2⟩ := f6 (done_old q (by decide)); ⟨B, e, fun q2 => (h2 (by rw [getD_set_ne false (by decide)] at q2; exact q2)).gr gg⟩), fun q => (let h := f7 (done_old q (by decide)); ⟨getD_set_true h.1, getD_set_true h.2⟩), fun q => f8 (done_old q (by decide)), fun q => (let h := f9 (done_old q (by decide)); ⟨h.1, getD_set_true h.2⟩), fun q => absurd ((f10 (done_old q (by decide))).1 5 (by decide)) hn⟩
  · rintro done a w hsz hnot hdep ⟨t114, t115, t116, t117, t118, t119, t120, t121, t122, t123, rfl, gw, f0, f1, f2, f3, f4, f5, f6, f7, f8, f9, f10⟩ K hK
    have hn : ¬ done.getD 6 false = true := by rw [getD_both hnot]; decide
    have d5 := hdep 5 (by kernel_rfl)
    obtain rfl := f5 d5
    have n10 : done.getD 10 false = false := by
      cases e : done.getD 10 false with
      | false => rfl
      | true => exact absurd ((f10 e).1 6 (by decide)) hn
    replace gw := gw n10
    have n7 : done.getD 7 false = false := by
      cases e : done.getD 7 false with
      | false => rfl
      | true => exact absurd ((f7 e).2) hn
    have N7 := PLift.up n7
    clear n7
    have HK := PLift.up hK
    clear hK d5
    simp only [pa25A]
    go_simp
    have gg : Gr w (w.alloc (.cells #[.string (bs x.r.name), .bool x.r.req, .int .i64 x.r.kind, .int .i64 x.r.low, .int .i64 x.r.high, .int .i64 x.r.count, .slice x.a x.r.words.length x.c] 28)) := (Gr.refl _).alloc _
    refine HK.down _ _ ⟨_, _, _, _, _, _, _, _, _, _, rfl, fun _ => ⟨gw.box.gr gg, gw.row.gr gg, by rw [getD_set_ne false (by decide), N7.down]; exact Gr.trans (by have := gw.st; rw [N7.down] at this; exact this) gg⟩, fun q => f0 (done_old q (by decide)), fun q => f1 (done_old q (by decide)), fun q => f2 (done_old q (by decide)), fun q => f3 (done_old q (by decide)), fun q => f4 (done_old q (by decide)), fun q => f5 (done_old q (by decide)), ?_, fun q => absurd (f7 (done_old q (by decide))).2 hn, fun q => f8 (done_old q (by decide)), fun q => (let h := f9 (done_old q (by decide)); ⟨h.1, getD_set_true h.2⟩), fun q => absurd ((f10 (done_old q (by decide))).1 6 (by decide)) hn⟩
    exact fun _ => ⟨_, rfl, fun _ => Row.new w _ _⟩
  · rintro done a w hsz hnot hdep ⟨t114, t115, t116, t117, t118, t119, t120, t121, t122, t123, rfl, gw, f0, f1, f2, f3, f4, f5, f6, f7, f8, f9, f10⟩ K hK
    have hn : ¬ done.getD 7 false = true := by rw [getD_both hnot]; decide
    have d4 := hdep 4 (by kernel_rfl)
    have d6 := hdep 6 (by kernel_rfl)
    obtain rfl := f4 d4
    have n10 : done.getD 10 false = false := by
      cases e : done.getD 10 false with
      | false => rfl
      | true => exact absurd ((f10 e).1 7 (by decide)) hn
    replace gw := gw n10
    have n7 := getD_both hnot
    obtain ⟨B, rfl, r3⟩ := f6 d6
    have gx : Gr wr w := by have := gw.st; rw [n7] at this; exact this
    refine step_append_gets _ rfl _ _ 22 rfl wb.heap.size 28 j0 (.agg #[.string (bs []), .bool false, .int .i64 0, .int .i64 0, .int .i64 0, .int .i64 0, .slice none 0 0]) 7 80 Tryz.underlying22 hj hy0 hy1 hy2 rfl (by decide) (.slice va rs.length vc) rs.length (rs.flatMap RM.enc) (by simp [Act.eval, pa25A]) (Gr.owns HOW.down gx) (some ⟨B, 0, none⟩) 1 1 x.enc (by simp [Act.eval, pa25A]) ⟨rfl, fun _ => ⟨_, rfl, row_cells (r3 n7)⟩⟩ x.enc_one (by unfold maxLen; have := HGL.down; omega) (by have := HGL.down; omega) (by have := gx.size; have := HBS.down; omega) ?_
    intro v w2 hown hgrow hloc
    refine hK _ _ ⟨_, _, _, _, _, _, _, _, _, _, rfl, fun _ => ⟨gw.box.kept hgrow HRX.down, gw.row.kept hgrow (gw.row.ty.ne (Gr.owns HOW.down gx) (by decide)), by rw [getD_set_same (by rw [hsz]; decide)]; exact ⟨grown_after gx hgrow, hown, hloc.imp id (fun e => ⟨_, e, gx.size⟩)⟩⟩, fun q => f0 (done_old q (by decide)), fun q => f1 (done_old q (by decide)), fun q => f2 (done_old q (by decide)), fun q => f3 (done_old q (by decide)), fun q => f4 (done_old q (by decide)), fun q => f5 (done_old q (by decide)), fun _ => ⟨B, rfl, fun q => absurd q (by rw [getD_set_same (by rw [hsz]; decide)]; decide)⟩, ?_, fun q => f8 (done_old q (by decide)), fun q => (let h := f9 (done_old q (by decide)); ⟨h.1, getD_set_true h.2⟩), fun q => absurd ((f10 (done_old q (by decide))).1 7 (by decide)) hn⟩
    exact fun _ => ⟨getD_set_true d4, getD_set_true d6⟩
  · rintro done a w hsz hnot hdep ⟨t114, t115, t116, t117, t118, t119, t120, t121, t122, t123, rfl, gw, f0, f1, f2, f3, f4, f5, f6, f7, f8, f9, f10⟩ K hK
    have hn : ¬ done.getD 8 false = true := by rw [getD_both hnot]; decide
    have d0 := hdep 0 (by kernel_rfl)
    obtain rfl := f0 d0
    have n10 : done.getD 10 false = false := by
      cases e : done.getD 10 false with
      | false => rfl
      | true => exact absurd ((f10 e).1 8 (by decide)) hn
    replace gw := gw n10
    have hg8 : Has w g := gw.row.has
    have HK := PLift.up hK
    clear hK d0
    simp only [pa25A]
    go_simp
    have gg : Gr w w := Gr.refl _
    refine HK.down _ _ ⟨_, _, _, _, _, _, _, _, _, _, rfl, fun _ => gw.step (by decide), fun q => f0 (done_old q (by decide)), fun q => f1 (done_old q (by decide)), fun q => f2 (done_old q (by decide)), fun q => f3 (done_old q (by decide)), fun q => f4 (done_old q (by decide)), fun q => f5 (done_old q (by decide)), fun q => (let ⟨B, e, h2⟩ := f6 (done_old q (by decide)); ⟨B, e, fun q2 => (h2 (by rw [getD_set_ne false (by decide)] at q2; exact q2)).gr gg⟩), fun q => (let h := f7 (done_old q (by decide)); ⟨getD_set_true h.1, getD_set_true h.2⟩), fun _ => rfl, fun q => absurd (f9 (done_old q (by decide))).2 hn, fun q => absurd ((f10 (done_old q (by decide))).1 8 (by decide)) hn⟩
  · rintro done a w hsz hnot hdep ⟨t114, t115, t116, t117, t118, t119, t120, t121, t122, t123, rfl, gw, f0, f1, f2, f3, f4, f5, f6, f7, f8, f9, f10⟩ K hK
    have hn : ¬ done.getD 9 false = true := by rw [getD_both hnot]; decide
    have d8 := hdep 8 (by kernel_rfl)
    obtain rfl := f8 d8
    have n10 : done.getD 10 false = false := by
      cases e : done.getD 10 false with
      | false => rfl
      | true => exact absurd ((f10 e).1 9 (by decide)) hn
    replace gw := gw n10
    have D8 := PLift.up d8
    have HK := PLift.up hK
    clear hK d8
    simp only [pa25A]
    go_simp
    have gg : Gr w w := Gr.refl _
    refine HK.down _ _ ⟨_, _, _, _, _, _, _, _, _, _, rfl, fun _ => gw.step (by decide), fun q => f0 (done_old q (by decide)), fun q => f1 (done_old q (by decide)), fun q => f2 (done_old q (by decide)), fun q => f3 (done_old q (by decide)), fun q => f4 (done_old q (by decide)), fun q => f5 (done_old q (by decide)), fun q => (let ⟨B, e, h2⟩ := f6 (done_old q (by decide)); ⟨B, e, fun q2 => (h2 (by rw [getD_set_ne false (by decide)] at q2; exact q2)).gr gg⟩), fun q => (let h := f7 (done_old q (by decide)); ⟨getD_set_true h.1, getD_set_true h.2⟩), fun q => f8 (done_old q (by decide)), ?_, fun q => absurd ((f10 (done_old q (by decide))).1 9 (by decide)) hn⟩
    exact fun _ => ⟨rfl, getD_set_true D8.down⟩
  · rintro done a w hsz hnot hdep ⟨t114, t115, t116, t117, t118, t119, t120, t121, t122, t123, rfl, gw, f0, f1, f2, f3, f4, f5, f6, f7, f8, f9, f10⟩ K hK
    have hn : ¬ done.getD 10 false = true := by rw [getD_both hnot]; decide
    have d0 := hdep 0 (by kernel_rfl)
    have d1 := hdep 1 (by kernel_rfl)
    have d2 := hdep 2 (by kernel_rfl)
    have d3 := hdep 3 (by kernel_rfl)
    have d4 := hdep 4 (by kernel_rfl)
    have d5 := hdep 5 (by kernel_rfl)
    have d6 := hdep 6 (by kernel_rfl)
    have d7 := hdep 7 (by kernel_rfl)
    have d9 := hdep 9 (by kernel_rfl)
    obtain rfl := f0 d0
    obtain rfl := f1 d1
    obtain rfl := f2 d2
    obtain rfl := f3 d3
    obtain rfl := f4 d4
    obtain rfl := f5 d5
    obtain ⟨rfl, d8⟩ := f9 d9
    obtain rfl := f8 d8
    have n10 := getD_both hnot
    have g1 := gw n10
    have s1 : St25 wb.heap.size wr va vc rs x t121 w true := by have := g1.st; rwa [d7] at this
    obtain ⟨a5, c5, e5⟩ := owns_slice s1.2.1
    have D7 := PLift.up d7
    have hil : p + 2 < us.length := (List.getElem?_eq_some_iff.1 HVI.down).1
    have c9 : w.cell? ⟨g, p + 2, none⟩ = some (.slice va rs.length vc) := by rw [g1.row.cell (p + 2) hil]; exact congrArg some (List.getElem?_eq_some_iff.1 HVI.down).2
    have cf := g1.row.free (p + 2)
    have ch := has_of_cell c9
    have FN := PLift.up (show Fin25 wb.heap.size wr g va vc rs x p (w.setCell ⟨g, p + 2, none⟩ t121) from ⟨t121, w, rfl, s1⟩)
    have DD := PLift.up (show ∀ j, j < 10 → done.getD j false = true from by intro j hj; match j, hj with | 0, _ => exact d0 | 1, _ => exact d1 | 2, _ => exact d2 | 3, _ => exact d3 | 4, _ => exact d4 | 5, _ => exact d5 | 6, _ => exact d6 | 7, _ => exact d7 | 8, _ => exact d8 | 9, _ => exact d9)
    subst e5
    have HK := PLift.up hK
    clear hK s1 g1 n10
    simp only [pa25A]
    go_simp
    refine HK.down _ _ ⟨_, _, _, _, _, _, _, _, _, _, rfl, fun q => absurd q (by rw [getD_set_same (by rw [hsz]; decide)]; decide), fun q => f0 (done_old q (by decide)), fun q => f1 (done_old q (by decide)), fun q => f2 (done_old q (by decide)), fun q => f3 (done_old q (by decide)), fun q => f4 (done_old q (by decide)), fun q => f5 (done_old q (by decide)), fun q => (let ⟨B, e, _⟩ := f6 (done_old q (by decide)); ⟨B, e, fun q2 => absurd (getD_set_true D7.down) (by rw [q2]; decide)⟩), fun q => (let h := f7 (done_old q (by decide)); ⟨getD_set_true h.1, getD_set_true h.2⟩), fun q => f8 (done_old q (by decide)), fun _ => ⟨rfl, getD_set_true (DD.down 8 (by decide))⟩, ?_⟩
    exact fun _ => ⟨fun j hj => getD_set_true (DD.down j hj), FN.down⟩
  · rintro done a w hall ⟨t114, t115, t116, t117, t118, t119, t120, t121, t122, t123, rfl, gw, f0, f1, f2, f3, f4, f5, f6, f7, f8, f9, f10⟩
    exact h' _ _ _ _ _ _ _ _ _ _ w (f10 (hall 10 (by decide))).2
end Go.Proofs.YtadldblpkgackaaGreatDoor
