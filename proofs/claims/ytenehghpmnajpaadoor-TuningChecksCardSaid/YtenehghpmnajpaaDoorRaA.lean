/- Contracts of the reference's all and Refutable, for right clocks and limits. -/
import Derived.Test.YtenehghpmnajpaaDoorLb
import Derived.Test.YtenehghpmnajpaaDoorLc
set_option linter.unusedVariables false
set_option linter.unusedSimpArgs false
namespace Go.Proofs.YtenehghpmnajpaaDoor
open Go.RowKit
open Classical

theorem zero_setA {l : List Clk} (h1 : ∀ c ∈ l, 1 ≤ c.choices.length) : SetOk l (List.replicate l.length 0) ∧ num l (List.replicate l.length 0) = 0 := by
  have hz : ∀ i, sOf (List.replicate l.length 0) i = 0 := fun i => by
    unfold sOf
    rw [List.getD_eq_getElem?_getD, List.getElem?_replicate]; split <;> rfl
  refine ⟨setOk_of (by rw [List.length_replicate]) (fun i hi => ?_), ?_⟩
  · rw [hz, kOf_at hi]
    have := h1 _ (List.getElem_mem hi); omega
  · have : ∀ j, numU (kOf l) (sOf (List.replicate l.length 0)) j = 0 := by
      intro j
      induction j with
      | zero => rfl
      | succ j ih => simp only [numU]; rw [ih, hz]; simp
    exact this _
set_option maxRecDepth 100000 in
set_option maxHeartbeats 2000000 in
theorem refAll_any (l : List Clk) (ms : List Lmt) (al am : Option Addr) (cl cm : Nat) (w : World) (henv : Env w l ms al am) (h1 : 1 ≤ l.length) :
    Calls Tryd.prog 84 #[.slice al l.length cl, .slice am ms.length cm] w fun e w' => ∃ a c, e = .returned (.slice a (cntS l ms) c) ∧ Gr w w' := by
  obtain ⟨_, okC, prC, _⟩ := cchk_zero henv.chk
  have hl := small_len (cchk_zero henv.chk).1
  have HE := Lib.hid henv
  have HC1 := Lib.hid (allOk_cho okC)
  obtain ⟨i0, hi, hz0, hz1, hz2⟩ := info_parts infoSl
  have hmk := run_make_row' (P := Tryd.prog) 22 3 (.int .i64 0) 8 Tryd.underlying22 infoInt rfl .i64 .i64 l.length (by omega) (by omega)
  have PC : Hid (prodC l ≤ 4096 ∧ 1 ≤ prodC l) := Lib.hid ⟨prC, prodC_pos HC1.out⟩
  have Z : Hid (SetOk l (List.replicate l.length 0) ∧ num l (List.replicate l.length 0) = 0) := Lib.hid (zero_setA HC1.out)
  clear henv okC prC
  go_enter Tryd.func84, Tryd.ntmps84
  go_wp2_with fail
  obtain ⟨X0, hX0⟩ : ∃ X0 : Nat, Hid (w.heap.size = X0) := ⟨_, Lib.hid rfl⟩
  obtain ⟨W6, hW6⟩ : ∃ W6 : World, Hid (W6 = w.alloc (.cells (madeCells #[.int .i64 0] l.length) 3)) := ⟨_, Lib.hid rfl⟩
  rw [← hW6.out, hX0.out]
  have RX : Hid (RowS W6 X0 3 (nums (List.replicate l.length 0))) := Lib.hid (by
    rw [hW6.out]
    have := row_new' w (madeCells #[.int .i64 0] l.length) 3 X0 hX0.out.symm
    rw [made_zero] at this
    have e : nums (List.replicate l.length 0) = List.replicate l.length (.int .i64 0) := by simp [nums]
    rw [e]; exact this.s)
  have g6 : Hid (Gr w W6) := Lib.hid (by rw [hW6.out]; exact (Gr.refl _).alloc _)
  clear hW6 hX0 hmk
  go_loopg [5, 6, 7] (prodC l) (fun gg s5 s6 s7 wx => ∃ (k : Nat) (ao : Option Addr) (co : Nat) (vs : List Value), s5 = .slice ao (cntK l (meetS l ms) k) co ∧ wx.ownsRow w.heap.size 22 1 (.slice ao (cntK l (meetS l ms) k) co) (cntK l (meetS l ms) k) vs ∧ Gr w wx ∧ k ≤ prodC l ∧
    ((s7 = .bool true ∧ ∃ (t : List Int) (B cx : Nat), s6 = .slice (some ⟨B, 0, none⟩) l.length cx ∧ RowS wx B 3 (nums t) ∧ SetOk l t ∧ num l t = (k : Int) ∧ k + gg = prodC l) ∨ (s7 = .bool false ∧ gg = 0 ∧ k = prodC l)))
  case atStart => exact ⟨0, none, 0, [], by simp [cntK], by simp only [cntK, List.range_zero, List.countP_nil]; exact World.ownsRow_nil _ _ _ _, g6.out, Nat.zero_le _, .inl ⟨rfl, _, X0, l.length, rfl, RX.out, Z.out.1, Z.out.2, by omega⟩⟩
  case round =>
    clear RX g6 Z
    obtain ⟨k, ao, co, vs, rfl, hov, hg6, hk, hcase⟩ := hrel
    obtain ⟨cn, hcn⟩ : ∃ cn, cntK l (meetS l ms) k = cn := ⟨_, rfl⟩
    have CN := Lib.hid hcn
    have cn1 : cn ≤ 4096 := by have := cntK_le l (meetS l ms) k; have := PC.out; omega
    rw [hcn] at hov ⊢
    have G6 := Lib.hid hg6
    have OV := Lib.hid hov
    clear hg6 hcn hov
    rcases hcase with ⟨rfl, t, B, cx, rfl, hrx, hst, hnum, hgk⟩ | ⟨rfl, rfl, rfl⟩
    · have RX := Lib.hid hrx
      have ST := Lib.hid hst
      have NM := Lib.hid hnum
      have W1 : Hid (∀ j (h : j < t.length), Wide t[j]) := Lib.hid (setOk_wide HE.out.chk hst)
      have MT0 := fits_any l ms t al (some ⟨B, 0, none⟩) am cl cx cm wr (clks_gr HE.out.clks G6.out) (hrx.slI W1.out) (lmts_gr HE.out.lmts G6.out) HE.out.chk hst HE.out.lims
      rw [hst.1] at MT0
      have MT := Lib.hid MT0
      have NT0 := fun W (hW : Gr wr W) => next_any l t al (some ⟨B, 0, none⟩) cl cx W (clks_gr HE.out.clks (G6.out.trans hW)) ((RX.out.gr hW).slI W1.out) HE.out.chk ST.out h1
      rw [hst.1] at NT0
      have NT : Hid (∀ W, Gr w W → RowS W B 3 (nums t) → Calls Tryd.prog 33 #[.slice al l.length cl, .slice (some ⟨B, 0, none⟩) l.length cx] W (GivesNext W l t)) := Lib.hid (fun W hW hr => by
        have := next_any l t al (some ⟨B, 0, none⟩) cl cx W (clks_gr HE.out.clks hW) (hr.slI W1.out) HE.out.chk ST.out h1
        rwa [ST.out.1] at this)
      have CK1 := Lib.hid (cntK_next (p := meetS l ms) hst hnum)
      have HK := Lib.hid hgk
      clear hrx hst hnum MT0 NT0
      go_wp2_with fail
      refine MT.out.mono ?_
      rintro e w7 ⟨rfl, hg7⟩
      have G7 := Lib.hid hg7
      have OV7 := Lib.hid (Gr.owns OV.out hg7)
      have RX7 := Lib.hid (RX.out.gr hg7)
      clear hg7 MT
      cases hm : meetS l ms t with
      | false =>
        have CK2 : Hid (cntK l (meetS l ms) (k + 1) = cn) := Lib.hid (by rw [CK1.out, hm, CN.out]; simp)
        clear hm CK1
        go_wp2_with fail
        refine (NT.out w7 (G6.out.trans G7.out) RX7.out).mono ?_
        rintro e w8 ⟨hg8, ⟨t', B', c', rfl, hr', _, hs', hn'⟩ | ⟨rfl, hl'⟩⟩
        · have NB := Lib.hid (num_bound hs')
          have HR' := Lib.hid hr'
          have HS' := Lib.hid hs'
          have HN' := Lib.hid hn'
          have G8 := Lib.hid ((G6.out.trans G7.out).trans hg8)
          have OV8 := Lib.hid (Gr.owns OV7.out hg8)
          clear hr' hs' hn' hg8
          go_wp2_with fail
          go_roundg (gk - 1)
          case measure => have := NB.out; have := HN'.out; have := NM.out; omega
          case rel => exact ⟨k + 1, ao, co, vs, by rw [CK2.out], by rw [CK2.out]; exact OV8.out, G8.out, by have := NB.out; have := HN'.out; have := NM.out; omega, .inl ⟨rfl, t', B', c', rfl, HR'.out, HS'.out, by have := HN'.out; have := NM.out; omega, by have := NB.out; have := HN'.out; have := NM.out; omega⟩⟩
        · have HL' := Lib.hid hl'
          have G8 := Lib.hid ((G6.out.trans G7.out).trans hg8)
          have OV8 := Lib.hid (Gr.owns OV7.out hg8)
          clear hl' hg8
          go_wp2_with fail
          go_roundg 0
          case measure => have := HL'.out; have := NM.out; omega
          case rel => exact ⟨k + 1, ao, co, vs, by rw [CK2.out], by rw [CK2.out]; exact OV8.out, G8.out, by have := HL'.out; have := NM.out; omega, .inr ⟨rfl, rfl, by have := HL'.out; have := NM.out; omega⟩⟩
      | true =>
        have CK2 : Hid (cntK l (meetS l ms) (k + 1) = cn + 1) := Lib.hid (by rw [CK1.out, hm, CN.out]; simp)
        obtain ⟨N9, hN9⟩ : ∃ N9 : Nat, Hid (w7.heap.size = N9) := ⟨_, Lib.hid rfl⟩
        obtain ⟨WA, hWA⟩ : ∃ WA : World, Hid (WA = w7.alloc (.cells #[.slice (some ⟨B, 0, none⟩) l.length cx] 22)) := ⟨_, Lib.hid rfl⟩
        have gA : Hid (Gr w7 WA) := Lib.hid (by rw [hWA.out]; exact (Gr.refl _).alloc _)
        have OVa := Lib.hid (Gr.owns OV7.out gA.out)
        have CC : Hid (∀ j u, ([.slice (some ⟨B, 0, none⟩) l.length cx] : List Value)[j]? = some u → WA.cell? ((⟨N9, 0, none⟩ : Addr).add j) = some u) := Lib.hid (by
          have := row_cells (Row.new w7 #[.slice (some ⟨B, 0, none⟩) l.length cx] 22)
          rw [← hWA.out, hN9.out] at this
          exact this)
        have one : Hid (∀ u ∈ ([.slice (some ⟨B, 0, none⟩) l.length cx] : List Value), u.oneCell' = true) := Lib.hid (fun u hu => by rw [List.mem_singleton.1 hu]; rfl)
        have base : Hid (w.heap.size ≤ WA.heap.size) := Lib.hid ((G6.out.trans G7.out).trans gA.out).size
        clear hm CK1
        go_wp2_with (first
          | (at_builtin; rw [← hWA.out, hN9.out]; refine wpList_append_gets _ rfl _ _ 42 rfl w.heap.size 22 i0 (.slice none 0 0) 1 24 Tryd.underlying42 hi hz0 hz1 hz2 rfl (by decide) (.slice ao cn co) cn vs rfl OVa.out (some ⟨N9, 0, none⟩) 1 1 [.slice (some ⟨B, 0, none⟩) l.length cx] rfl ⟨rfl, fun _ => ⟨_, rfl, CC.out⟩⟩ one.out (by unfold maxLen; omega) (by omega) base.out ?_; intro v' W9 hown hgrow _; obtain ⟨a9, c9, rfl⟩ := owns_slice hown; have O9 := Lib.hid hown; have G9 := Lib.hid (((G6.out.trans G7.out).trans gA.out).grown hgrow (fun k e => (OVa.out.lt k e).1)); have RX9 := Lib.hid ((RX7.out.gr gA.out).grown hgrow (owns_apart OVa.out (RX7.out.gr gA.out) (by decide))); clear hown hgrow)
          | fail)
        refine (NT.out W9 G9.out RX9.out).mono ?_
        rintro e w8 ⟨hg8, ⟨t', B', c', rfl, hr', _, hs', hn'⟩ | ⟨rfl, hl'⟩⟩
        · have NB := Lib.hid (num_bound hs')
          have HR' := Lib.hid hr'
          have HS' := Lib.hid hs'
          have HN' := Lib.hid hn'
          have G8 := Lib.hid (G9.out.trans hg8)
          have OV8 := Lib.hid (Gr.owns O9.out hg8)
          clear hr' hs' hn' hg8
          go_wp2_with fail
          go_roundg (gk - 1)
          case measure => have := NB.out; have := HN'.out; have := NM.out; omega
          case rel => exact ⟨k + 1, a9, c9, _, by rw [CK2.out], by rw [CK2.out]; exact OV8.out, G8.out, by have := NB.out; have := HN'.out; have := NM.out; omega, .inl ⟨rfl, t', B', c', rfl, HR'.out, HS'.out, by have := HN'.out; have := NM.out; omega, by have := NB.out; have := HN'.out; have := NM.out; omega⟩⟩
        · have HL' := Lib.hid hl'
          have G8 := Lib.hid (G9.out.trans hg8)
          have OV8 := Lib.hid (Gr.owns O9.out hg8)
          clear hl' hg8
          go_wp2_with fail
          go_roundg 0
          case measure => have := HL'.out; have := NM.out; omega
          case rel => exact ⟨k + 1, a9, c9, _, by rw [CK2.out], by rw [CK2.out]; exact OV8.out, G8.out, by have := HL'.out; have := NM.out; omega, .inr ⟨rfl, rfl, by have := HL'.out; have := NM.out; omega⟩⟩
    · have GF := Lib.hid G6.out
      have EC : Hid (cn = cntS l ms) := Lib.hid (by rw [← CN.out]; rfl)
      clear CN G6 OV
      go_wp2_with fail
      go_ret
      exact ⟨ao, co, by rw [EC.out]; rfl, GF.out⟩
set_option maxHeartbeats 1000000 in
theorem refutable_any (l : List Clk) (ms : List Lmt) (al am : Option Addr) (cl cm : Nat) (w : World) (henv : Env w l ms al am) (h1 : 1 ≤ l.length) :
    Calls Tryd.prog 41 #[.slice al l.length cl, .slice am ms.length cm] w (Grows w (.int .i64 (if cntS l ms = 0 then 0 else 8))) := by
  have BG := Lib.hid (refBegin_any l ms al am cl cm w henv)
  have RA := Lib.hid (fun W (hW : Gr w W) => refAll_any l ms al am cl cm W (henv.gr hW) h1)
  clear henv
  obtain ⟨N, hN⟩ : ∃ N, cntS l ms = N := ⟨_, rfl⟩
  rw [hN] at RA ⊢
  clear hN
  obtain ⟨R, hR⟩ : ∃ R : Int, (if N = 0 then 0 else 8) = R := ⟨_, rfl⟩
  rw [hR]
  have HR := Lib.hid hR
  clear hR
  go_enter Tryd.func41, Tryd.ntmps41
  go_wp2_with fail
  refine BG.out.mono ?_
  rintro e w1 ⟨rfl, hg1⟩
  have G1 := Lib.hid hg1
  clear hg1
  go_wp2_with fail
  refine (RA.out w1 G1.out).mono ?_
  rintro e w2 ⟨a, c, rfl, hg2⟩
  have G2 := Lib.hid (G1.out.trans hg2)
  clear hg2
  by_cases h0 : N = 0
  · have E : Hid (R = 0) := Lib.hid (by rw [← HR.out, if_pos h0])
    subst h0
    go_wp2_with fail
    go_ret
    exact ⟨by rw [E.out]; rfl, G2.out⟩
  · have q : decide (0 < N) = true := decide_eq_true (by omega)
    have E : Hid (R = 8) := Lib.hid (by rw [← HR.out, if_neg h0])
    clear h0
    go_wp2_with fail
    go_ret
    exact ⟨by rw [E.out]; rfl, G2.out⟩
end Go.Proofs.YtenehghpmnajpaaDoor
