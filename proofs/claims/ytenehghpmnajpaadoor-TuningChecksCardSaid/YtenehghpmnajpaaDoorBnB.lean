/- Contract of bringuplaw17.bent: the copy. -/
import Derived.Test.YtenehghpmnajpaaDoorBn21
set_option linter.unusedVariables false
set_option linter.unusedSimpArgs false
namespace Go.Proofs.YtenehghpmnajpaaDoor
open Go.RowKit
open Classical

set_option maxRecDepth 100000 in
set_option maxHeartbeats 4000000 in
theorem bent_any (w : World) (b len c : Nat) (a : Option Addr) (bs : List Brn) (ht : Tp w b len) (hs : SlOf 3 RBrn w a bs) (h1 : 1 ≤ bs.length) (hl : bs.length ≤ 90000) (hn : ∀ x ∈ bs, x.next.length ≤ 900) :
    Calls Tryd.prog 42 #[.pointer (some ⟨b, 0, none⟩), .slice a bs.length c] w (GivesBent b len w) := by
  have TT := Lib.hid ht
  have SS := Lib.hid hs
  have WD0 := Lib.hid (brns_wide hs hn)
  have HW := Lib.hid ht.has
  have TP := Lib.hid ht
  obtain ⟨j0, hj, hy0, hy1, hy2⟩ := info_parts infoBrn
  obtain ⟨i0, hi, hz0, hz1, hz2⟩ := info_parts infoInt
  obtain ⟨g, o, rfl, _⟩ := hs 0 (by omega)
  clear ht hs
  go_enter Tryd.func42, Tryd.ntmps42
  go_wp2_with fail
  go_loopw [5, 11] (fun s5 s11 wr => ∃ (xs : List BT) (A : Option Addr) (cap : Nat), s5 = .slice A xs.length cap ∧ s11 = .int .i64 (xs.length : Int) ∧ xs.length ≤ bs.length ∧ xs.map (·.1) = bs.take xs.length ∧ wr.ownsRow w.heap.size 76 3 (.slice A xs.length cap) xs.length (xs.flatMap encN) ∧ NextOwn w.heap.size wr xs ∧ Gr w wr) (fun _ s11 _ => bs.length - (intOf s11).toNat)
  case atStart => exact ⟨[], none, 0, rfl, rfl, by simp, rfl, World.ownsRow_nil _ _ _ _, ⟨fun x hx => by simp at hx, List.Pairwise.nil⟩, Gr.refl _⟩
  case round =>
    obtain ⟨xs, A, cap, rfl, rfl, hxl, hxe, hox, hno, hgr⟩ := hrel
    have OX := Lib.hid hox
    have NO := Lib.hid hno
    have GG := Lib.hid hgr
    have XE := Lib.hid hxe
    clear hox hno hgr hxe
    by_cases hk : xs.length < bs.length
    · obtain ⟨g', o', e, ⟨c0, w0⟩, ⟨c1, w1⟩, a2, p2, c2, f2, s2⟩ := (SS.out.gr RBrn.mono GG.out) xs.length hk
      cases e
      have BK : Hid ((bs[xs.length]).next = (bs[xs.length]).next) := Lib.hid rfl
      obtain ⟨x, hx⟩ : ∃ x, bs[xs.length] = x := ⟨_, rfl⟩
      rw [hx] at c0 c1 c2 s2 w0 w1 f2
      have hh := has_of_cell c0
      have S2 := Lib.hid s2
      have W0 := Lib.hid w0
      have W1 := Lib.hid w1
      have HX := Lib.hid hx
      clear hx BK s2 w0 w1
      have LN : x.next.length ≤ 900 := by rw [← HX.out]; exact hn _ (List.getElem_mem hk)
      go_upto_region 5 with fail
      obtain ⟨N1, hN1⟩ : ∃ N1 : Nat, Hid (wr.heap.size = N1) := ⟨_, Lib.hid rfl⟩
      obtain ⟨W1, hW1⟩ : ∃ W1 : World, Hid (W1 = wr.alloc (.cells #[.int .i64 x.limit, .int .i64 x.clock, .slice a2 x.next.length p2] 76)) := ⟨_, Lib.hid rfl⟩
      rw [← hW1.out, hN1.out]
      have G1 : Hid (Gr wr W1) := Lib.hid (by rw [hW1.out]; exact (Gr.refl _).alloc _)
      have R1 : Hid (Row W1 N1 76 [.int .i64 x.limit, .int .i64 x.clock, .slice a2 x.next.length p2]) := Lib.hid (by rw [hW1.out, ← hN1.out]; exact Row.new _ _ _)
      have Z1 : Hid (W1.heap.size = N1 + 1) := Lib.hid (by rw [hW1.out, ← hN1.out]; simp)
      have q2 := R1.out.cell 2 (by simp)
      have qh := R1.out.has
      simp only [List.getElem_cons_zero, List.getElem_cons_succ] at q2
      obtain ⟨W2, hW2⟩ : ∃ W2 : World, Hid (W2 = W1.alloc (.cells #[] 3)) := ⟨_, Lib.hid rfl⟩
      have OE : Hid (W2.ownsRow W1.heap.size 3 1 (.slice (some ⟨W1.heap.size, 0, none⟩) 0 0) 0 []) := Lib.hid (by rw [hW2.out]; exact World.ownsRow_lit W1 #[] 0 (Nat.le_refl _) (by unfold maxLen; omega) (by simp))
      have G2 : Hid (Gr W1 W2) := Lib.hid (by rw [hW2.out]; exact (Gr.refl _).alloc _)
      have R2 := Lib.hid (R1.out.gr G2.out)
      have GN : Hid (Gets W2 a2 x.next.length 1 (nums x.next)) := Lib.hid (gets_slI ((S2.out.2).gr RI.mono (G1.out.trans G2.out)))
      clear c0 c1 c2 hh f2
      go_upto_region 6 with (first
        | (at_builtin; rw [← hW2.out]; refine wpList_append_gets _ rfl _ _ 22 rfl W1.heap.size 3 i0 (.int .i64 0) 1 8 Tryd.underlying22 hi hz0 hz1 hz2 rfl (by decide) (.slice (some ⟨W1.heap.size, 0, none⟩) 0 0) 0 [] rfl OE.out a2 x.next.length p2 (nums x.next) rfl GN.out (nums_one _) (by unfold maxLen; omega) (by omega) G2.out.size ?_; intro v W3 hown hgrow hblk; rw [Nat.zero_add, List.nil_append] at hown; obtain ⟨a3, c3, rfl⟩ := owns_slice hown; have O3 := Lib.hid hown; have R3 := Lib.hid (R2.out.grown hgrow (owns_apart OE.out R2.out.s (by decide))); have G3 : Hid (Gr W1 W3) := Lib.hid (G2.out.grown hgrow (fun k e => (OE.out.lt k e).1)); have HB3 := Lib.hid hblk; have p2 := R3.out.cell 2 (by simp); have pf := R3.out.free 2; have ph := R3.out.has; simp only [List.getElem_cons_zero, List.getElem_cons_succ] at p2; clear hown hgrow hblk)
        | fail)
      obtain ⟨W4, hW4⟩ : ∃ W4 : World, Hid (W4 = W3.setCell ⟨N1, 2, none⟩ (.slice a3 x.next.length c3)) := ⟨_, Lib.hid rfl⟩
      rw [← hW4.out]
      have R4 : Hid (Row W4 N1 76 [.int .i64 x.limit, .int .i64 x.clock, .slice a3 x.next.length c3]) := Lib.hid (by rw [hW4.out]; exact R3.out.set 2 _)
      have O4 : Hid (W4.ownsRow W1.heap.size 3 1 (.slice a3 x.next.length c3) x.next.length (nums x.next)) := Lib.hid (by rw [hW4.out]; exact owns_set O3.out R3.out.s (by decide))
      have G4 : Hid (Gr wr W4) := Lib.hid (by rw [hW4.out]; exact Gr.setc (by have := hN1.out; omega) (G1.out.trans G3.out))
      obtain ⟨W5, hW5⟩ : ∃ W5 : World, Hid (W5 = W4.alloc (.cells #[.int .i64 x.limit, .int .i64 x.clock, .slice a3 x.next.length c3] 76)) := ⟨_, Lib.hid rfl⟩
      have G45 : Hid (Gr W4 W5) := Lib.hid (by rw [hW5.out]; exact (Gr.refl _).alloc _)
      obtain ⟨N4, hN4⟩ : ∃ N4 : Nat, Hid (W4.heap.size = N4) := ⟨_, Lib.hid rfl⟩
      have CC : Hid (∀ j u, ([.int .i64 x.limit, .int .i64 x.clock, .slice a3 x.next.length c3] : List Value)[j]? = some u → W5.cell? ((⟨N4, 0, none⟩ : Addr).add j) = some u) := Lib.hid (by
        have := row_cells (Row.new W4 #[.int .i64 x.limit, .int .i64 x.clock, .slice a3 x.next.length c3] 76)
        rw [← hW5.out, hN4.out] at this
        exact this)
      have O5 := Lib.hid (Gr.owns O4.out G45.out)
      have OX5 := Lib.hid (Gr.owns OX.out (G4.out.trans G45.out))
      have NO5 := Lib.hid (NO.out.gr (G4.out.trans G45.out))
      have GG5 := Lib.hid (GG.out.trans (G4.out.trans G45.out))
      have ONE : Hid (∀ u ∈ ([.int .i64 x.limit, .int .i64 x.clock, .slice a3 x.next.length c3] : List Value), u.oneCell' = true) := Lib.hid (by
        intro u hu
        simp only [List.mem_cons, List.not_mem_nil, or_false] at hu
        rcases hu with rfl | rfl | rfl <;> rfl)
      have z0 := R4.out.cell 0 (by simp)
      have z1 := R4.out.cell 1 (by simp)
      have z2 := R4.out.cell 2 (by simp)
      have zh := R4.out.has
      simp only [List.getElem_cons_zero, List.getElem_cons_succ] at z0 z1 z2
      clear p2 pf ph q2 qh hW4 hW2 hW1 OE R1 R2 R3 R4 O3 O4 GN
      go_wp2_with (first
        | (at_builtin; rw [← hW5.out, hN4.out]; refine wpList_append_gets _ rfl _ _ 69 rfl w.heap.size 76 j0 (.agg #[.int .i64 0, .int .i64 0, .slice none 0 0]) 3 40 Tryd.underlying69 hj hy0 hy1 hy2 rfl (by decide) (.slice A xs.length cap) xs.length (xs.flatMap encN) rfl OX5.out (some ⟨N4, 0, none⟩) 1 1 [.int .i64 x.limit, .int .i64 x.clock, .slice a3 x.next.length c3] rfl ⟨rfl, fun _ => ⟨_, rfl, CC.out⟩⟩ ONE.out (by unfold maxLen; omega) (by omega) GG5.out.size ?_; intro v' W6 hown hgrow _; obtain ⟨a6, c6, rfl⟩ := owns_slice hown; have O6 := Lib.hid hown; have H6 := Lib.hid hgrow; clear hown hgrow z0 z1 z2 zh hW5)
        | fail)
      go_roundw
      case rel =>
        refine ⟨xs ++ [(x, a3, c3)], a6, c6, by simp, by simp, by simp; omega, ?_, ?_, ?_, ?_⟩
        · rw [List.map_append, XE.out, List.length_append, ← HX.out]
          show _ = bs.take (xs.length + 1)
          rw [List.take_succ_eq_append_getElem hk]
          rfl
        · have := O6.out
          simpa [encN] using this
        · have ov : W6.ownsRow W1.heap.size 3 1 (.slice a3 x.next.length c3) x.next.length (nums x.next) := O5.out.kept H6.out (owns_two OX5.out O5.out (by decide))
          refine (NO5.out.oth OX5.out (by decide) H6.out).snoc (owns_low ov (by have := GG.out.size; have := G1.out.size; omega)) fun y hy e => ?_
          have hb : ∃ B, blk (x, a3, c3) = some B ∧ wr.heap.size ≤ B := by
            have s1 := G1.out.size
            have s2 := G2.out.size
            rcases HB3.out with q | q
            · exact ⟨_, q, s1⟩
            · exact ⟨_, q, by omega⟩
          obtain ⟨B, e1, e2⟩ := hb
          have := ((NO.out.own y hy).lt B (by rw [← e1]; exact e)).2
          omega
        · exact GG5.out.grown H6.out (fun k e => (OX5.out.lt k e).1)
      case measure => simp [intOf]; omega
    · have hx0 : xs.length = bs.length := by omega
      have WD1 : Hid (∀ x ∈ xs, BrnWd x.1) := Lib.hid (fun x hx => by
        have hm : x.1 ∈ xs.map (·.1) := List.mem_map_of_mem hx
        rw [XE.out] at hm
        exact WD0.out _ (List.mem_of_mem_take hm))
      have NL0 : Hid (∀ x ∈ xs, x.1.next.length ≤ 900) := Lib.hid (fun x hx => by
        have hm : x.1 ∈ xs.map (·.1) := List.mem_map_of_mem hx
        rw [XE.out] at hm
        exact hn _ (List.mem_of_mem_take hm))
      obtain ⟨gx, cap', e, hcap, _⟩ := owns_cell OX.out (by omega)
      cases e
      have B0 : Hid (BSt b len w xs gx cap wr) := Lib.hid ⟨OX.out, NO.out, WD1.out, .of_gr TT.out GG.out⟩
      obtain ⟨n, hnn⟩ : ∃ n, xs.length = n := ⟨_, rfl⟩
      have LN := Lib.hid hnn
      have BL : Hid (bs.length = n) := Lib.hid (by omega)
      have f0 : decide (n < bs.length) = false := decide_eq_false (by have := BL.out; omega)
      have f1 : 1 ≤ n := by omega
      have f2 : n ≤ 90000 := by omega
      have f3 : (n : Int) ≠ 0 := by omega
      have CP : Hid (n ≤ cap) := Lib.hid (by omega)
      clear OX NO GG XE WD1 SS hxl hk hx0 hcap
      rw [hnn]
      clear hnn
      go_wp2_with fail
      refine (nM_any wr b len n (B0.out.mv.tp TT.out) (by omega) (by omega)).mono ?_
      rintro e w1 ⟨k, rfl, ⟨k0, k1⟩, hm1⟩
      obtain ⟨k, rfl⟩ := Int.eq_ofNat_of_zero_le k0
      have B1 := Lib.hid (B0.out.mvd HW.out hm1)
      have kn : k < n := by omega
      have kn2 : (k : Int) < (n : Int) := by omega
      clear hm1 B0
      go_wp2_with fail
      refine (nM_any w1 b len 6 (B1.out.mv.tp TT.out) (by omega) (by omega)).mono ?_
      rintro e w2 ⟨q, rfl, ⟨q0, q1⟩, hm2⟩
      have B2 := Lib.hid (B1.out.mvd HW.out hm2)
      have KX : Hid (k < xs.length) := Lib.hid (by have := LN.out; omega)
      have AT := B2.out.at KX.out
      obtain ⟨⟨bx, ax, cx⟩, hbx⟩ : ∃ z, Hid ((xs[k]'KX.out) = z) := ⟨_, Lib.hid rfl⟩
      rw [hbx.out] at AT
      obtain ⟨z0, z1, z2, zh, zf⟩ := AT
      simp only at z0 z1 z2
      have zf0 := zf (k * 3)
      have zf1 := zf (k * 3 + 1)
      have zf2 := zf (k * 3 + 2)
      have XW : Hid (BrnWd (xs[k]'KX.out).1) := Lib.hid (B2.out.wd _ (List.getElem_mem KX.out))
      have NL : Hid (bx.next.length ≤ 900) := Lib.hid (by have := NL0.out _ (List.getElem_mem KX.out); rw [hbx.out] at this; exact this)
      clear hm2 B1 zf
      have hq : q = 0 ∨ q = 1 ∨ q = 2 ∨ q = 3 ∨ q = 4 ∨ q = 5 := by omega
      clear q0 q1
      rcases hq with rfl | rfl | rfl | rfl | rfl | rfl
      · clear z1 z2 zf1 zf2
        go_wp2_with fail
        refine (rangeM_any w2 b len (-2) 9 (B2.out.mv.tp TT.out) (by omega) (by omega) (by omega)).mono ?_
        rintro e w3 ⟨y, rfl, ⟨y0, y1⟩, hm3⟩
        have B3 := Lib.hid (B2.out.mvd HW.out hm3)
        have B4 := Lib.hid (B3.out.put KX.out (j := 0) (by omega) ⟨y, xs[k].1.clock, xs[k].1.next⟩ rfl ⟨by show Wide y; unfold Wide; omega, XW.out.2⟩ (.int .i64 y) (encN_set0 xs k KX.out y))
        obtain ⟨z0, _, _, zh, zf⟩ := B3.out.at KX.out
        have zf0 := zf (k * 3)
        clear zf hm3
        go_wp2_with fail
        go_ret
        have := B4.out.gives (by rw [List.length_set]; have := LN.out; omega)
        rw [List.length_set, LN.out] at this
        exact this
      · clear z0 z2 zf0 zf2
        go_wp2_with fail
        refine (rangeM_any w2 b len (-1) 9 (B2.out.mv.tp TT.out) (by omega) (by omega) (by omega)).mono ?_
        rintro e w3 ⟨y, rfl, ⟨y0, y1⟩, hm3⟩
        have B3 := Lib.hid (B2.out.mvd HW.out hm3)
        have B4 := Lib.hid (B3.out.put KX.out (j := 1) (by omega) ⟨xs[k].1.limit, y, xs[k].1.next⟩ rfl ⟨XW.out.1, by show Wide y; unfold Wide; omega, XW.out.2.2⟩ (.int .i64 y) (encN_set1 xs k KX.out y))
        obtain ⟨_, z1, _, zh, zf⟩ := B3.out.at KX.out
        have zf1 := zf (k * 3 + 1)
        clear zf hm3
        go_wp2_with fail
        go_ret
        have := B4.out.gives (by rw [List.length_set]; have := LN.out; omega)
        rw [List.length_set, LN.out] at this
        exact this
      · go_upto_region 18 with fail
        refine bn18 TT.out B2.out KX.out hbx.out LN.out f1 f2 NL.out ?_
        intro r0 r1 r2 r3 r4 r5 r6 r7 r8 r9 r10 r11 r12 r13 wx hgb
        simp only [bn18A]
        go_wp2_with fail
        go_ret
        exact hgb
      · have hz : bx.next.length = 0 ∨ 0 < bx.next.length := by omega
        rcases hz with hz | hz
        · rw [hz] at z2
          clear z0 z1 zf0 zf1 zf2
          go_wp2_with fail
          go_ret
          have := B2.out.gives (by have := LN.out; omega)
          rw [LN.out] at this
          exact this
        · have hz2 : decide (0 < bx.next.length) = true := decide_eq_true hz
          obtain ⟨ga, rfl⟩ : ∃ ga, ax = some ⟨ga, 0, none⟩ := by
            have ok := B2.out.nxt.own _ (List.getElem_mem KX.out)
            rw [hbx.out] at ok
            obtain ⟨ga, _, e, _⟩ := owns_cell ok hz
            injection e with e
            exact ⟨ga, e⟩
          go_upto_region 21 with fail
          refine bn21 TT.out B2.out KX.out hbx.out LN.out f1 f2 NL.out hz ?_
          intro r0 r1 r2 r3 r4 r5 r6 r7 r8 r9 r10 r11 r12 r13 r14 r15 wx hgb
          simp only [bn21A]
          go_wp2_with fail
          go_ret
          exact hgb
      · clear z0 z1 z2 zf0 zf1 zf2
        go_wp2_with fail
        refine (nM_any w2 b len 3 (B2.out.mv.tp TT.out) (by omega) (by omega)).mono ?_
        rintro e w3 ⟨y, rfl, ⟨y0, y1⟩, hm3⟩
        have B3 := Lib.hid (B2.out.mvd HW.out hm3)
        obtain ⟨N3, hN3⟩ : ∃ N3 : Nat, Hid (w3.heap.size = N3) := ⟨_, Lib.hid rfl⟩
        obtain ⟨W4, hW4⟩ : ∃ W4 : World, Hid (W4 = w3.alloc (.cells #[.int .i64 y, .int .i64 0, .slice none 0 0] 76)) := ⟨_, Lib.hid rfl⟩
        have G4 : Hid (Gr w3 W4) := Lib.hid (by rw [hW4.out]; exact (Gr.refl _).alloc _)
        have B4 := Lib.hid (B3.out.gr G4.out)
        have OX4 : Hid (W4.ownsRow w.heap.size 76 3 (.slice (some ⟨gx, 0, none⟩) n cap) n (xs.flatMap encN)) := Lib.hid (by have := B4.out.own; rw [LN.out] at this; exact this)
        have CC : Hid (∀ j u, ([.int .i64 y, .int .i64 0, .slice none 0 0] : List Value)[j]? = some u → W4.cell? ((⟨N3, 0, none⟩ : Addr).add j) = some u) := Lib.hid (by
          have := row_cells (Row.new w3 #[.int .i64 y, .int .i64 0, .slice none 0 0] 76)
          rw [← hW4.out, hN3.out] at this
          exact this)
        have ONE : Hid (∀ u ∈ ([.int .i64 y, .int .i64 0, .slice none 0 0] : List Value), u.oneCell' = true) := Lib.hid (by
          intro u hu
          simp only [List.mem_cons, List.not_mem_nil, or_false] at hu
          rcases hu with rfl | rfl | rfl <;> rfl)
        have WY : Hid (Wide y) := Lib.hid (by unfold Wide; omega)
        clear hm3 B2 B3
        go_wp2_with (first
          | (at_builtin; rw [← hW4.out, hN3.out]; refine wpList_append_gets _ rfl _ _ 69 rfl w.heap.size 76 j0 (.agg #[.int .i64 0, .int .i64 0, .slice none 0 0]) 3 40 Tryd.underlying69 hj hy0 hy1 hy2 rfl (by decide) (.slice (some ⟨gx, 0, none⟩) n cap) n (xs.flatMap encN) rfl OX4.out (some ⟨N3, 0, none⟩) 1 1 [.int .i64 y, .int .i64 0, .slice none 0 0] rfl ⟨rfl, fun _ => ⟨_, rfl, CC.out⟩⟩ ONE.out (by unfold maxLen; omega) (by omega) B4.out.mv.size ?_; intro v' W6 hown hgrow _; obtain ⟨a6, c6, rfl⟩ := owns_slice hown; have O6 := Lib.hid hown; have H6 := Lib.hid hgrow; clear hown hgrow hW4)
          | fail)
        go_ret
        have O6' := O6.out
        rw [← LN.out] at O6'
        have := B4.out.more (by have := LN.out; omega) WY.out O6' H6.out
        rw [LN.out] at this
        exact this
      · clear z0 z1 z2 zf0 zf1 zf2
        obtain ⟨m, rfl⟩ : ∃ m, n = m + 1 := ⟨n - 1, by omega⟩
        have mc1 : m ≤ cap := by have := CP.out; omega
        have mc2 : (m : Int) ≤ (cap : Int) := by omega
        have mw : IntKind.i64.wrap (((m + 1 : Nat) : Int) - 1) = (m : Int) := by rw [IntKind.wrap_i64] <;> omega
        have mw2 : IntKind.i64.wrap ((m : Int) + 1 - 1) = (m : Int) := by rw [IntKind.wrap_i64] <;> omega
        go_wp2_with fail
        go_ret
        exact B2.out.less (by have := LN.out; omega) LN.out rfl (by omega) (by omega)
end Go.Proofs.YtenehghpmnajpaaDoor
