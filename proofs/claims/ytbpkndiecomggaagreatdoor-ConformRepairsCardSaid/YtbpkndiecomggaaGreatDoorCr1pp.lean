/- Lemmas and contracts for the proof of ConformRepairs (several texts in one, printed by wip/tools/pack.py): VcQ VcR WaA WaB WaC WcA WcB WcC. -/
import Derived.Test.YtbpkndiecomggaaGreatDoorCr1po
import Derived.Test.YtbpkndiecomggaaGreatDoorCr1pn
import Derived.Test.YtbpkndiecomggaaGreatDoorCr1pc
set_option maxRecDepth 100000
set_option maxHeartbeats 16000000
set_option linter.unusedVariables false
set_option linter.unusedSimpArgs false
namespace Go.Proofs.YtbpkndiecomggaaGreatDoor
open Go.RowKit
open Classical
def GivesDel (ts : Tr) (s nm : St) (w : World) (e : Ending) (w' : World) : Prop :=
  Gr w w' ∧ ((e = .returned (.tuple #[.agg #[.slice none 0 0], .int .i64 4]) ∧ ((∀ k, k < ts.length → ¬ PathIs ts k s) ∨ ∃ k, k < ts.length ∧ PathIs ts k s ∧ valP (nd ts k).props nm = none)) ∨
    ∃ (k : Nat) (v : Value) (ms : List NM), k < ts.length ∧ PathIs ts k s ∧ e = .returned (.tuple #[.agg #[v], .int .i64 0]) ∧ TrAt w.heap.size w' v ms ∧ ms.map NM.n = setN ts k (woP (nd ts k).props nm))
theorem PV_wo {l : List Prp} {s : St} (h : PV l) : PV (woP l s) := ⟨h.asc.sublist List.filter_sublist, fun p hp => h.mem p (List.mem_filter.1 hp).1⟩
theorem rDelete_ok (ts : Tr) (a : Option Addr) (cap : Nat) (s nm : St) (w : World) (h : SlOf 3 RNod w a ts) (hv : VT ts) :
    Calls Tryz.prog 16 #[.agg #[.slice a ts.length cap], .string (bs s), .string (bs nm)] w (GivesDel ts s nm w) := by
  have H := Lib.hid h
  have HV := Lib.hid hv
  have l1 := hv.pos
  have l2 := hv.few
  clear h hv
  obtain ⟨P0, hP0⟩ : ∃ P : Ending → World → Prop, P = GivesDel ts s nm w := ⟨_, rfl⟩
  rw [← hP0]
  have HP0 := Lib.hid hP0
  clear hP0
  go_enter Tryz.func16, Tryz.ntmps16
  go_upto_region 1 with (fail)
  have R1 := Lib.hid ((Row.new w #[.slice a ts.length cap] 29).alloc (.cells #[.slice none 0 0] 29))
  have R2 : Hid (Row ((w.alloc (.cells #[.slice a ts.length cap] 29)).alloc (.cells #[.slice none 0 0] 29)) (w.heap.size + 1) 29 [.slice none 0 0]) := Lib.hid (by
    have q := Row.new (w.alloc (.cells #[.slice a ts.length cap] 29)) #[.slice none 0 0] 29
    have e : (w.alloc (.cells #[.slice a ts.length cap] 29)).heap.size = w.heap.size + 1 := by simp
    rw [e] at q; exact q)
  obtain ⟨W, hW⟩ : ∃ W : World, Hid (W = (w.alloc (.cells #[.slice a ts.length cap] 29)).alloc (.cells #[.slice none 0 0] 29)) := ⟨_, Lib.hid rfl⟩
  have GW : Hid (Gr w W) := Lib.hid (by rw [hW.out]; exact ((Gr.refl _).alloc _).alloc _)
  rw [← hW.out] at R1 R2 ⊢
  obtain ⟨PB, hPB⟩ : ∃ N : Nat, Hid (w.heap.size = N) := ⟨_, Lib.hid rfl⟩
  have HPB := Lib.hid hPB.out
  rw [hPB.out] at R1 R2 ⊢
  clear hW hPB
  obtain ⟨P2, hP2⟩ : ∃ N : Nat, Hid (PB + 1 = N) := ⟨_, Lib.hid rfl⟩
  have HP2 := Lib.hid hP2.out
  rw [hP2.out] at R2 ⊢
  clear hP2
  have x0 := R1.out.cell 0 (by simp)
  have hxb := has_of_cell x0
  go_wp2_with fail
  refine (rBegin_ok ts a cap s W (H.out.gr RNod.mono GW.out) HV.out).mono ?_
  rintro e w1 ⟨hg1, hb⟩
  have G1 := Lib.hid (GW.out.trans hg1)
  have S1 := Lib.hid (R1.out.gr hg1)
  have S2 := Lib.hid (R2.out.gr hg1)
  clear hg1 x0 hxb R1 R2 GW
  rcases hb with ⟨rfl, hno⟩ | ⟨k, hk, rfl, hpt⟩
  · have NO : Hid ((∀ k, k < ts.length → ¬ PathIs ts k s) ∨ ∃ k, k < ts.length ∧ PathIs ts k s ∧ valP (nd ts k).props nm = none) := Lib.hid (.inl hno)
    clear hno
    have z0 := S2.out.cell 0 (by simp)
    have zf := S2.out.free 0
    have hz := has_of_cell z0
    go_wp2_with fail
    have RF := Lib.hid (S2.out.set 0 (.slice none 0 0))
    have GF : Hid (Gr w (w1.setCell ⟨P2, 0, none⟩ (.slice none 0 0))) := Lib.hid (G1.out.setc (by have := HPB.out; have := HP2.out; omega))
    obtain ⟨W3, hW3⟩ : ∃ W : World, Hid (W = w1.setCell ⟨P2, 0, none⟩ (.slice none 0 0)) := ⟨_, Lib.hid rfl⟩
    rw [← hW3.out] at RF GF ⊢
    have e0 : W3.cell? ⟨P2, 0, none⟩ = some (.slice none 0 0) := RF.out.cell 0 (by simp)
    clear hW3
    refine bodyPost_ret (v := .tuple #[.agg #[.slice none 0 0], .int .i64 4]) (by simp [results, Tryz.results16, e0, go_sem]) rfl ?_
    rw [HP0.out]
    exact ⟨GF.out, .inl ⟨rfl, NO.out⟩⟩
  · have PT := Lib.hid hpt
    clear hpt
    have x0 := S1.out.cell 0 (by simp)
    have xf := S1.out.free 0
    have hx := has_of_cell x0
    have k0 : (0 : Int) ≤ k := by omega
    obtain ⟨B, o, e1, ⟨c0, _⟩, ⟨c1, _⟩, pa, pc, c2, hcap, hf, hs⟩ := (H.out.gr RNod.mono G1.out) k hk
    subst e1
    have PP := Lib.hid (HV.out.props hk)
    have NK : Hid (ts[k] = nd ts k) := Lib.hid (nd_get hk).symm
    have PL := PP.out.len
    obtain ⟨n, hn⟩ : ∃ n, ts[k] = n := ⟨_, rfl⟩
    rw [hn] at c0 c1 c2 hcap hs PP PL NK
    have HS := Lib.hid hs
    have hh := has_of_cell c0
    have k1 : (k : Int) < ts.length := by omega
    clear hn hs hf
    go_wp2_with fail
    refine (rOf_any n pa pc nm w1 HS.out (by omega)).mono ?_
    rintro e w2 ⟨hg2, hof⟩
    have G2 := Lib.hid (G1.out.trans hg2)
    have D1 := Lib.hid (S1.out.gr hg2)
    have D2 := Lib.hid (S2.out.gr hg2)
    have C2 := Lib.hid (cell_gr hg2 c2)
    have HS2 := Lib.hid (HS.out.gr RPrp.mono hg2)
    have HCP := Lib.hid hcap
    clear hg2 x0 xf hx c0 c1 c2 hh S1 S2 G1 HS hcap
    cases hvp : valP n.props nm with
    | none =>
      rw [hvp] at hof
      simp only at hof
      subst hof
      have NO : Hid ((∀ k, k < ts.length → ¬ PathIs ts k s) ∨ ∃ k, k < ts.length ∧ PathIs ts k s ∧ valP (nd ts k).props nm = none) := Lib.hid (.inr ⟨k, hk, PT.out, by rw [← NK.out]; exact hvp⟩)
      have z0 := D2.out.cell 0 (by simp)
      have zf := D2.out.free 0
      have hz := has_of_cell z0
      go_wp2_with fail
      have RF := Lib.hid (D2.out.set 0 (.slice none 0 0))
      have GF : Hid (Gr w (w2.setCell ⟨P2, 0, none⟩ (.slice none 0 0))) := Lib.hid (G2.out.setc (by have := HPB.out; have := HP2.out; omega))
      obtain ⟨W3, hW3⟩ : ∃ W : World, Hid (W = w2.setCell ⟨P2, 0, none⟩ (.slice none 0 0)) := ⟨_, Lib.hid rfl⟩
      rw [← hW3.out] at RF GF ⊢
      have e0 : W3.cell? ⟨P2, 0, none⟩ = some (.slice none 0 0) := RF.out.cell 0 (by simp)
      clear hW3
      refine bodyPost_ret (v := .tuple #[.agg #[.slice none 0 0], .int .i64 4]) (by simp [results, Tryz.results16, e0, go_sem]) rfl ?_
      rw [HP0.out]
      exact ⟨GF.out, .inl ⟨rfl, NO.out⟩⟩
    | some vv =>
     rw [hvp] at hof
     simp only at hof
     subst hof
     have x0 := D1.out.cell 0 (by simp)
     have hx := has_of_cell x0
     go_wp2_with fail
     refine (copied_tr ts (some ⟨B, o, none⟩) cap w2 (H.out.gr RNod.mono G2.out) HV.out.sm (by omega)).mono ?_
     rintro e w4 ⟨v4, ms, rfl, htr, hmp, hg4⟩
     obtain ⟨va, vc, hv⟩ := owns_slice htr.own
     subst hv
     have ML0 : ms.length = ts.length := by rw [← hmp, List.length_map]
     rw [ML0] at htr ⊢
     have ML := Lib.hid ML0
     clear ML0
     have G4 := Lib.hid (G2.out.trans hg4)
     have BW : Hid (PB ≤ w2.heap.size ∧ P2 < w2.heap.size ∧ w2.heap.size ≤ w4.heap.size) := Lib.hid (by have h1 := G2.out.size; rw [HPB.out] at h1; exact ⟨h1, D2.out.has, hg4.size⟩)
     have X1 := Lib.hid (D1.out.gr hg4)
     have X2 := Lib.hid (D2.out.gr hg4)
     have TR := Lib.hid (htr.low BW.out.1)
     have MP := Lib.hid hmp
     have C4 := Lib.hid (cell_gr hg4 C2.out)
     have HS4 := Lib.hid (HS2.out.gr RPrp.mono hg4)
     clear htr hmp hg4 x0 hx D1 D2
     go_wp2_with fail
     have BX := Lib.hid (Row.new w4 #[.slice va ts.length vc] 29)
     have Y1 := Lib.hid (X1.out.alloc (.cells #[.slice va ts.length vc] 29))
     have Y2 := Lib.hid (X2.out.alloc (.cells #[.slice va ts.length vc] 29))
     have TA := Lib.hid (TR.out.gr ((Gr.refl w4).alloc (.cells #[.slice va ts.length vc] 29)))
     have GA := Lib.hid (G4.out.alloc (.cells #[.slice va ts.length vc] 29))
     have GA4 := Lib.hid ((Gr.refl w4).alloc (.cells #[.slice va ts.length vc] 29))
     obtain ⟨W5, hW5⟩ : ∃ W : World, Hid (W = w4.alloc (.cells #[.slice va ts.length vc] 29)) := ⟨_, Lib.hid rfl⟩
     rw [← hW5.out] at BX Y1 Y2 TA GA GA4 ⊢
     obtain ⟨PX, hPX⟩ : ∃ N : Nat, Hid (w4.heap.size = N) := ⟨_, Lib.hid rfl⟩
     have HPX := Lib.hid hPX.out
     rw [hPX.out] at BX ⊢
     clear hW5 hPX X1 X2 TR G4
     obtain ⟨g, hva, q0, q1, q2⟩ := tr_cells TA.out (k := k) (by have := ML.out; omega)
     subst hva
     have GPX : Hid (g ≠ PX) := Lib.hid (by
       rcases TA.out.ne_ty BX.out.ty (by decide) with q | q
       · cases q
       · exact fun e => q (by rw [e]; rfl))
     have GP2 : Hid (g ≠ P2) := Lib.hid (by
       rcases TA.out.ne_ty Y2.out.ty (by decide) with q | q
       · cases q
       · exact fun e => q (by rw [e]; rfl))
     have GPB : Hid (PB ≤ g) := Lib.hid (owns_block TA.out.own g rfl).1
     have ga5 : Hid (Gr w4 W5) := GA4
     obtain ⟨ps, hps⟩ : ∃ ps, n.props = ps := ⟨_, rfl⟩
     have c2 := cell_gr ga5.out C4.out
     have hs := HS4.out.gr RPrp.mono ga5.out
     rw [hps] at c2 hs PP
     have PSE : Hid ((nd ts k).props = ps) := Lib.hid (by rw [← NK.out]; exact hps)
     have pl := PP.out.len
     have FR : Hid (∀ W, Gr W5 W → W.frozen? ⟨g, k * 3 + 2, none⟩ = false) := Lib.hid (fun W hg => by have q := (TA.out.gr hg).own; rw [ML.out] at q; exact q.frozenAt _)
     refine wp_code_eq (c := Code.region 8 (regIn 8 Tryz.f16) true) (by kernel_rfl) (del8 (wr := W5) (g := g) (k := k) (B := B) (o := o) (PB := PB) (PX := PX) (n := ts.length) (vc := vc) (cap := cap) (nm := nm) (pa := pa) (pc := pc) (ps := ps) (qs := woP ps nm) BX.out Y1.out hk c2 hs rfl (by omega) ⟨q2, FR.out⟩ ?_)
     intro t38 t39 t40 t41 t42 t43 t44 t45 t46 t47 t48 t49 t50 wx hfin
     obtain ⟨w6, x6, c6, rfl, hg6, ho6⟩ := hfin
     have PQ := Lib.hid (PV_wo (s := nm) PP.out)
     have hkm : k < ms.length := by have := ML.out; omega
     have SK := Lib.hid ((TA.out.nds _ (List.getElem_mem hkm)).sm)
     have T7 := Lib.hid ((TA.out.gr hg6).put hkm (ps := woP ps nm) (owns_low ho6 (by have := GA.out.size; have := HPB.out; omega)) ⟨SK.out.plo, SK.out.phi, SK.out.nam, by have := PQ.out.len; simp only; omega, fun q hq => ⟨by have := (PQ.out.prop q hq).2; omega, by have := (PQ.out.mem q hq).2; omega⟩⟩)
     have MQ : Hid ((ms.set k ⟨{ (ms[k]'hkm).n with props := woP ps nm }, x6, c6⟩).map NM.n = setN ts k (woP ps nm)) := Lib.hid (by rw [map_putN, MP.out])
     have BX7 := Lib.hid ((BX.out.gr hg6).oth (b := g) (o := k * 3 + 2) (v := .slice x6 (woP ps nm).length c6) GPX.out)
     have Y7 := Lib.hid ((Y2.out.gr hg6).oth (b := g) (o := k * 3 + 2) (v := .slice x6 (woP ps nm).length c6) GP2.out)
     have G7 : Hid (Gr w (w6.setCell ⟨g, k * 3 + 2, none⟩ (.slice x6 (woP ps nm).length c6))) := Lib.hid ((GA.out.trans hg6).setc (by have := GPB.out; have := HPB.out; omega))
     obtain ⟨W7, hW7⟩ : ∃ W : World, Hid (W = w6.setCell ⟨g, k * 3 + 2, none⟩ (.slice x6 (woP ps nm).length c6)) := ⟨_, Lib.hid rfl⟩
     rw [← hW7.out] at T7 BX7 Y7 G7 ⊢
     obtain ⟨m7, hm7⟩ : ∃ m : List NM, m = ms.set k ⟨{ (ms[k]'hkm).n with props := woP ps nm }, x6, c6⟩ := ⟨_, rfl⟩
     rw [← hm7] at T7 MQ
     have L7 : Hid (m7.length = ts.length) := Lib.hid (by rw [hm7, List.length_set]; exact ML.out)
     have V7 := Lib.hid (VT_set HV.out hk PQ.out)
     have SL7 := Lib.hid T7.out.sl.2
     clear hW7 hg6 ho6 q0 q1 q2 c2 hs hps BX Y1 Y2 TA GA hm7
     have L9 : Hid ((setN ts k (woP ps nm)).length = ts.length) := Lib.hid (by rw [← MQ.out, List.length_map]; exact L7.out)
     rw [MQ.out] at SL7
     have b0 : W7.cell? ⟨PX, 0, none⟩ = some (.slice (some ⟨g, 0, none⟩) ts.length vc) := BX7.out.cell 0 (by simp)
     have hb := has_of_cell b0
     have z0 := Y7.out.cell 0 (by simp)
     have zf := Y7.out.free 0
     have hz := has_of_cell z0
     unfold del8A
     go_wp2_with fail
     have RF := Lib.hid (Y7.out.set 0 (.slice (some ⟨g, 0, none⟩) ts.length vc))
     have TF := Lib.hid (T7.out.box (o := 0) (u := .slice (some ⟨g, 0, none⟩) ts.length vc) Y7.out.ty (by decide) (T7.out.ne_ty Y7.out.ty (by decide)))
     have GF : Hid (Gr w (W7.setCell ⟨P2, 0, none⟩ (.slice (some ⟨g, 0, none⟩) ts.length vc))) := Lib.hid (G7.out.setc (by have := HPB.out; have := HP2.out; omega))
     obtain ⟨W3, hW3⟩ : ∃ W : World, Hid (W = W7.setCell ⟨P2, 0, none⟩ (.slice (some ⟨g, 0, none⟩) ts.length vc)) := ⟨_, Lib.hid rfl⟩
     rw [← hW3.out] at RF TF GF ⊢
     have e0 : W3.cell? ⟨P2, 0, none⟩ = some (.slice (some ⟨g, 0, none⟩) ts.length vc) := RF.out.cell 0 (by simp)
     clear hW3 z0 zf hz b0 hb
     refine bodyPost_ret (v := .tuple #[.agg #[.slice (some ⟨g, 0, none⟩) ts.length vc], .int .i64 0]) (by simp [results, Tryz.results16, e0, go_sem]) rfl ?_
     rw [HP0.out]
     exact ⟨GF.out, .inr ⟨k, _, m7, hk, PT.out, rfl, by rw [HPB.out]; exact TF.out, by rw [PSE.out]; exact MQ.out⟩⟩
theorem nodesV_sl : nodesV.all (fun s => !s.contains 47 && decide (0 < s.length)) = true := by kernel_rfl
theorem VT.noSl {ts : Tr} (h : VT ts) {i : Nat} (h0 : 0 < i) (hi : i < ts.length) : (47 : UInt8) ∉ nmT ts i ∧ nmT ts i ≠ [] := by
  have q := List.all_eq_true.1 nodesV_sl _ (h.nam i h0 hi)
  rw [Bool.and_eq_true] at q
  refine ⟨fun hm => ?_, fun e => ?_⟩
  · rw [List.contains_iff_mem.2 hm] at q
    simp at q
  · rw [e] at q
    simp at q
theorem cut_sl {s t a b : St} (ha : (47 : UInt8) ∉ a) (hb : (47 : UInt8) ∉ b) (h : s ++ 47 :: a = t ++ 47 :: b) : s = t ∧ a = b := by
  rcases List.append_eq_append_iff.1 h with ⟨c, h1, h2⟩ | ⟨c, h1, h2⟩
  · cases c with
    | nil =>
      rw [List.append_nil] at h1
      rw [List.nil_append] at h2
      injection h2 with _ h2
      exact ⟨h1.symm, h2⟩
    | cons x c =>
      rw [List.cons_append] at h2
      injection h2 with _ h2
      exact absurd (by rw [h2]; simp) ha
  · cases c with
    | nil =>
      rw [List.append_nil] at h1
      rw [List.nil_append] at h2
      injection h2 with _ h2
      exact ⟨h1, h2.symm⟩
    | cons x c =>
      rw [List.cons_append] at h2
      injection h2 with _ h2
      exact absurd (by rw [h2]; simp) hb
theorem VT.pthInj {ts : Tr} (h : VT ts) {j : Nat} {x y : St} (hj : Pth ts j x) : ∀ k, Pth ts k y → x = y → j < ts.length → k < ts.length → j = k := by
  induction hj generalizing y with
  | zero =>
    intro k hk e _ _
    cases hk with
    | zero => rfl
    | succ _ _ => simp at e
  | @succ u s hu _ ih =>
    intro k hk e hul hkl
    cases hk with
    | zero => simp at e
    | @succ _ s2 hk0 hk2 =>
      obtain ⟨e1, e2⟩ := cut_sl (h.noSl hu hul).1 (h.noSl hk0 hkl).1 e
      have p1 := h.shp.par u hu hul
      have p2 := h.shp.par k hk0 hkl
      have hp := ih _ hk2 e1 (by omega) (by omega)
      rcases Nat.lt_trichotomy u k with q | q | q
      · exact absurd e2 (vlt_ne (h.shp.sib u k hu q hkl hp))
      · exact q
      · exact absurd e2.symm (vlt_ne (h.shp.sib k u hk0 q hul hp.symm))
theorem VT.pathInj {ts : Tr} (h : VT ts) {j k : Nat} {s : St} (hj : PathIs ts j s) (hk : PathIs ts k s) (hjl : j < ts.length) (hkl : k < ts.length) : j = k := by
  obtain ⟨x, hx, e1⟩ := hj
  obtain ⟨y, hy, e2⟩ := hk
  have key : ∀ {i : Nat} {z : St}, 0 < i → i < ts.length → Pth ts i z → z ≠ [47] := fun {i z} h0 hi hz e => by
    cases hz with
    | zero => omega
    | @succ _ s2 _ _ =>
      have q := cut_sl (s := s2) (t := []) (h.noSl h0 hi).1 (b := []) (by simp) (by rw [e]; rfl)
      exact (h.noSl h0 hi).2 q.2
  by_cases j0 : j = 0
  · by_cases k0 : k = 0
    · rw [j0, k0]
    · rw [if_pos j0] at e1
      rw [if_neg k0] at e2
      exact absurd (e2.symm.trans e1) (key (by omega) hkl hy)
  · by_cases k0 : k = 0
    · rw [if_neg j0] at e1
      rw [if_pos k0] at e2
      exact absurd (e1.symm.trans e2) (key (by omega) hjl hx)
    · rw [if_neg j0] at e1
      rw [if_neg k0] at e2
      exact h.pthInj hx k hy (e1.symm.trans e2) hjl hkl
theorem wrap_up {k : Nat} (h : k ≤ 1000000) : wrap64 ((k : Int) + 1) = (k : Int) + 1 := by unfold wrap64; omega
theorem meas_up {n k : Nat} (h : k < n) : n - (intOf (.int .i64 ((k : Int) + 1))).toNat < n - (intOf (.int .i64 (k : Int))).toNat := by simp [intOf]; omega
def txtOk (s : St) : Bool := !s.isEmpty && s.all (fun c => decide (32 ≤ c.toNat) && decide (c.toNat ≤ 126))
def strsP (v : St) : Option (List St) :=
  if Lib.hasSuffix v [0] = true ∧ (Lib.split (Lib.trimSuffix v [0]) [0]).all txtOk = true then some (Lib.split (Lib.trimSuffix v [0]) [0]) else none
def cmpN : St := [99, 111, 109, 112, 97, 116, 105, 98, 108, 101]
def compP (n : Nod) : List St := (strsP ((valP n.props cmpN).getD [])).getD []
def govF (l : List Sch) : List St → Option Nat
  | [] => none
  | c :: cs => match findC l c with
    | some k => some k
    | none => govF l cs
def govP (n : Nod) (l : List Sch) : Option Nat := govF l (compP n)
def celBad (ts : Tr) (r : Rul) (v : St) : Int :=
  if cellsOk v = false then 2 else
  if r.count ≠ 0 ∧ ((cellsL v).length : Int) ≠ r.count then 3 else
  if r.kind = 3 ∧ (cellsL v).any (fun n => decide (n < r.low) || decide (r.high < n)) = true then 4 else
  if r.kind = 6 ∧ (phan ts ((cellsL v).getD 0 0)).isNone = true then 5 else 0
def cntR (r : Rul) : Int := if r.kind = 4 then 1 else r.count
def txtBad (r : Rul) (v : St) : Int :=
  match strsP v with
  | none => 2
  | some l => if cntR r ≠ 0 ∧ (l.length : Int) ≠ cntR r then 3 else
    if r.kind = 4 ∧ r.words.contains (l.getD 0 []) = false then 4 else 0
def brkP (ts : Tr) (n : Nod) (r : Rul) : Int :=
  match valP n.props r.name with
  | none => if r.req = true then 1 else 0
  | some v =>
    if r.kind = 1 then 0 else
    if r.kind = 3 ∨ r.kind = 6 then celBad ts r v else
    if r.kind = 5 ∨ r.kind = 4 then txtBad r v else
    if v = [] then 0 else 2
structure Vio where
  kind : Int
  node : Int
  sch : St
  prop : St
  deriving DecidableEq
instance : Inhabited Vio := ⟨⟨0, 0, [], []⟩⟩
def Vio.enc (v : Vio) : List Value := [.int .i64 v.kind, .int .i64 v.node, .string (bs v.sch), .string (bs v.prop)]
def stdS : List St := [[99, 111, 109, 112, 97, 116, 105, 98, 108, 101], [112, 104, 97, 110, 100, 108, 101], [115, 116, 97, 116, 117, 115], [114, 101, 103], [114, 97, 110, 103, 101, 115], [35, 97, 100, 100, 114, 101, 115, 115, 45, 99, 101, 108, 108, 115], [35, 115, 105, 122, 101, 45, 99, 101, 108, 108, 115]]
def rulV (ts : Tr) (i : Nat) (n : Nod) (s : Sch) (r : Rul) : Option Vio := if brkP ts n r = 0 then none else some ⟨brkP ts n r, i, s.comp, r.name⟩
def extB (s : Sch) (p : Prp) : Bool := s.closed && (!(s.rules.any (fun r => r.name == p.name)) && !stdS.contains p.name)
def extV (i : Nat) (s : Sch) (p : Prp) : Option Vio := if extB s p = true then some ⟨6, i, s.comp, p.name⟩ else none
def vioN (ts : Tr) (l : List Sch) (i : Nat) (n : Nod) : List Vio :=
  match govP n l with
  | none => match compP n with
    | [] => []
    | c :: _ => [⟨7, i, c, []⟩]
  | some k => (l.getD k default).rules.filterMap (rulV ts i n (l.getD k default)) ++ n.props.filterMap (extV i (l.getD k default))
def vioF (ts : Tr) (l : List Sch) : Nat → List Vio
  | 0 => []
  | k + 1 => vioF ts l k ++ vioN ts l k (nd ts k)
def vioT (ts : Tr) (l : List Sch) : List Vio := vioF ts l ts.length
theorem govF_lt {l : List Sch} {k : Nat} : ∀ {cs : List St}, govF l cs = some k → k < l.length
  | [], h => by cases h
  | c :: cs, h => by
    rw [govF] at h
    cases e : findC l c with
    | none => rw [e] at h; exact govF_lt h
    | some j =>
      rw [e] at h
      injection h with h
      subst h
      exact (find_at e).1
theorem filterMap_le {α β : Type} (f : α → Option β) (l : List α) : (l.filterMap f).length ≤ l.length := List.length_filterMap_le f l
theorem vioN_few {ts : Tr} {l : List Sch} {i : Nat} {n : Nod} {a b : Nat} (hr : ∀ s ∈ l, s.rules.length ≤ a) (hp : n.props.length ≤ b) : (vioN ts l i n).length ≤ a + b + 1 := by
  unfold vioN
  cases e : govP n l with
  | none =>
    dsimp only
    cases compP n with
    | nil => simp
    | cons c cs => simp
  | some k =>
    dsimp only
    have hk := govF_lt e
    have e2 : l.getD k default = l[k] := by rw [List.getD_eq_getElem?_getD, List.getElem?_eq_getElem hk]; rfl
    rw [e2, List.length_append]
    have h1 := filterMap_le (rulV ts i n l[k]) l[k].rules
    have h2 := filterMap_le (extV i l[k]) n.props
    have h3 := hr l[k] (List.getElem_mem hk)
    omega
theorem vioF_few {ts : Tr} {l : List Sch} {a b : Nat} (hr : ∀ s ∈ l, s.rules.length ≤ a) (hp : ∀ i, i < ts.length → (nd ts i).props.length ≤ b) : ∀ k, k ≤ ts.length → (vioF ts l k).length ≤ k * (a + b + 1)
  | 0, _ => by simp [vioF]
  | k + 1, h => by
    have h1 := vioF_few hr hp k (by omega)
    have h2 := vioN_few (ts := ts) (l := l) (i := k) hr (hp k (by omega))
    rw [vioF, List.length_append, Nat.succ_mul]
    omega
theorem ascN_pw : ∀ {l : List St}, ascN l = true → l.Pairwise (fun a b => ltS a b = true)
  | [], _ => .nil
  | [a], _ => List.pairwise_singleton _ _
  | a :: b :: l, h => by
    rw [ascN, Bool.and_eq_true] at h
    have ih := ascN_pw h.2
    rw [List.pairwise_cons]
    refine ⟨fun x hx => ?_, ih⟩
    rcases List.mem_cons.1 hx with rfl | q
    · exact h.1
    · exact vlt_trans h.1 ((List.pairwise_cons.1 ih).1 x q)
theorem ascN_nodup {l : List St} (h : ascN l = true) : l.Nodup := (ascN_pw h).imp (fun q => vlt_ne q)
theorem filterMap_sub {α β γ : Type} {f : α → Option β} {g : β → γ} {h : α → γ} (hf : ∀ x y, f x = some y → g y = h x) : ∀ l : List α, ((l.filterMap f).map g).Sublist (l.map h)
  | [] => .slnil
  | x :: l => by
    rw [List.filterMap_cons]
    cases e : f x with
    | none => exact .cons _ (filterMap_sub hf l)
    | some y =>
      simp only [List.map_cons]
      rw [hf x y e]
      exact .cons_cons _ (filterMap_sub hf l)
theorem rulV_prop {ts : Tr} {i : Nat} {n : Nod} {s : Sch} (r : Rul) (y : Vio) (h : rulV ts i n s r = some y) : y.prop = r.name ∧ y.node = i ∧ y.sch = s.comp ∧ y.kind = brkP ts n r ∧ brkP ts n r ≠ 0 := by
  unfold rulV at h
  split at h
  · cases h
  · injection h with h
    subst h
    exact ⟨rfl, rfl, rfl, rfl, by assumption⟩
theorem extV_prop {i : Nat} {s : Sch} (p : Prp) (y : Vio) (h : extV i s p = some y) : y.prop = p.name ∧ y.node = i ∧ y.sch = s.comp ∧ y.kind = 6 ∧ extB s p = true := by
  unfold extV at h
  split at h
  · injection h with h
    subst h
    exact ⟨rfl, rfl, rfl, rfl, by assumption⟩
  · cases h
theorem celBad_le (ts : Tr) (r : Rul) (v : St) : 0 ≤ celBad ts r v ∧ celBad ts r v ≤ 5 := by
  unfold celBad
  split; omega; split; omega; split; omega; split <;> omega
theorem txtBad_le (r : Rul) (v : St) : 0 ≤ txtBad r v ∧ txtBad r v ≤ 5 := by
  unfold txtBad
  cases strsP v with
  | none => dsimp only; omega
  | some l => dsimp only; split; omega; split <;> omega
theorem brkP_le (ts : Tr) (n : Nod) (r : Rul) : 0 ≤ brkP ts n r ∧ brkP ts n r ≤ 5 := by
  unfold brkP
  cases valP n.props r.name with
  | none => dsimp only; split <;> omega
  | some v =>
    dsimp only
    split; omega
    split; exact celBad_le ts r v
    split; exact txtBad_le r v
    split <;> omega
theorem vioN_fac {ts : Tr} {l : List Sch} {i : Nat} {n : Nod} {v : Vio} (h : v ∈ vioN ts l i n) : v.node = i ∧ 1 ≤ v.kind ∧ v.kind ≤ 7 := by
  unfold vioN at h
  cases e : govP n l with
  | none =>
    rw [e] at h
    dsimp only at h
    cases e2 : compP n with
    | nil => rw [e2] at h; cases h
    | cons c cs =>
      rw [e2] at h
      rw [List.mem_singleton.1 h]
      exact ⟨rfl, by show (1 : Int) ≤ 7; decide, by show (7 : Int) ≤ 7; decide⟩
  | some k =>
    rw [e] at h
    dsimp only at h
    rcases List.mem_append.1 h with q | q
    · obtain ⟨r, hr, he⟩ := List.mem_filterMap.1 q
      obtain ⟨_, h1, _, h2, h3⟩ := rulV_prop r v he
      have := brkP_le ts n r
      rw [h2]
      exact ⟨h1, by omega, by omega⟩
    · obtain ⟨p, hp, he⟩ := List.mem_filterMap.1 q
      obtain ⟨_, h1, _, h2, h3⟩ := extV_prop p v he
      rw [h2]
      exact ⟨h1, by omega, by omega⟩
theorem vioN_props {ts : Tr} {l : List Sch} {i : Nat} {n : Nod} (hr : ∀ s ∈ l, ascN (s.rules.map Rul.name) = true) (hp : (n.props.map Prp.name).Nodup) : ((vioN ts l i n).map Vio.prop).Nodup := by
  unfold vioN
  cases e : govP n l with
  | none =>
    dsimp only
    cases compP n with
    | nil => exact .nil
    | cons c cs => simp
  | some k =>
    dsimp only
    have hk := govF_lt e
    have e2 : l.getD k default = l[k] := by rw [List.getD_eq_getElem?_getD, List.getElem?_eq_getElem hk]; rfl
    rw [e2, List.map_append, List.nodup_append]
    have s1 := filterMap_sub (f := rulV ts i n l[k]) (g := Vio.prop) (h := Rul.name) (fun x y h => (rulV_prop x y h).1) l[k].rules
    have s2 := filterMap_sub (f := extV i l[k]) (g := Vio.prop) (h := Prp.name) (fun x y h => (extV_prop x y h).1) n.props
    refine ⟨(ascN_nodup (hr l[k] (List.getElem_mem hk))).sublist s1, hp.sublist s2, fun a ha b hb hab => ?_⟩
    subst hab
    obtain ⟨y, hy, rfl⟩ := List.mem_map.1 hb
    obtain ⟨p, hp2, he⟩ := List.mem_filterMap.1 hy
    obtain ⟨h1, _, _, _, h2⟩ := extV_prop p y he
    have h3 := s1.subset ha
    rw [h1] at h3
    obtain ⟨r, hr2, hre⟩ := List.mem_map.1 h3
    have h4 : l[k].rules.any (fun r => r.name == p.name) = true := List.any_eq_true.2 ⟨r, hr2, by rw [hre]; simp⟩
    unfold extB at h2
    rw [h4] at h2
    simp at h2
def Vio.key (v : Vio) : Int × St := (v.node, v.prop)
theorem vioF_node {ts : Tr} {l : List Sch} : ∀ {k : Nat} {v : Vio}, v ∈ vioF ts l k → 0 ≤ v.node ∧ v.node < k ∧ 1 ≤ v.kind ∧ v.kind ≤ 7
  | 0, v, h => by cases h
  | k + 1, v, h => by
    rw [vioF] at h
    rcases List.mem_append.1 h with q | q
    · have := vioF_node q
      omega
    · have := vioN_fac q
      omega
theorem vioF_keys {ts : Tr} {l : List Sch} (hr : ∀ s ∈ l, ascN (s.rules.map Rul.name) = true) (hp : ∀ i, i < ts.length → ((nd ts i).props.map Prp.name).Nodup) : ∀ k, k ≤ ts.length → ((vioF ts l k).map Vio.key).Nodup
  | 0, _ => .nil
  | k + 1, h => by
    rw [vioF, List.map_append, List.nodup_append]
    refine ⟨vioF_keys hr hp k (by omega), ?_, fun a ha b hb hab => ?_⟩
    · have h1 := vioN_props (ts := ts) (l := l) (i := k) hr (hp k (by omega))
      have h2 : (((vioN ts l k (nd ts k)).map Vio.key).map Prod.snd).Nodup := by
        rw [List.map_map]
        exact h1
      rw [List.Nodup, List.pairwise_map] at h2
      exact h2.imp (fun q e => q (by rw [e]))
    · subst hab
      obtain ⟨y, hy, rfl⟩ := List.mem_map.1 ha
      obtain ⟨z, hz, he⟩ := List.mem_map.1 hb
      have h1 := (vioF_node hy).2.1
      have h2 := (vioN_fac hz).1
      have h3 : z.node = y.node := congrArg Prod.fst he
      omega
theorem nodup_getElem {α : Type} {l : List α} (h : l.Nodup) {i k : Nat} (hk : k < i) (hi : i < l.length) : l[k] ≠ l[i] := (List.pairwise_iff_getElem.1 h) k i (by omega) hi hk
theorem finds_once {ts : Tr} {l : List Sch} (hr : ∀ s ∈ l, ascN (s.rules.map Rul.name) = true) (hp : ∀ i, i < ts.length → ((nd ts i).props.map Prp.name).Nodup) {i k : Nat} (hk : k < i) (hi : i < (vioT ts l).length) : (vioT ts l)[k] ≠ (vioT ts l)[i] := by
  have h := vioF_keys hr hp ts.length (Nat.le_refl _)
  rw [List.Nodup, List.pairwise_map] at h
  have := (List.pairwise_iff_getElem.1 h) k i (by unfold vioT at hi; omega) hi hk
  intro e
  exact this (congrArg Vio.key e)

def MaxV (w : World) : Prop := ∃ m, w.cell? ⟨1, 0, none⟩ = some (.int .i64 m)
theorem MaxV.gr {w w' : World} (h : MaxV w) (hg : Gr w w') : MaxV w' := let ⟨m, h2⟩ := h; ⟨m, cell_gr hg h2⟩
theorem cutSuf_any (l p : St) (w : World) (hl : l.length ≤ 1000000) :
    Calls Tryz.prog 118 #[.string (bs l), .string (bs p)] w fun e w' => e = .returned (.tuple #[.string (bs (Lib.trimSuffix l p)), .bool (Lib.hasSuffix l p)]) ∧ w = w' :=
  (Tryz.strings_CutSuffix (bs l) (bs p) w (by rw [bs_size]; omega)).mono fun e w' ⟨he, hw⟩ => ⟨by rw [he, bs_data, bs_data]; rfl, hw.symm⟩
theorem split_any (l sep : St) (w : World) (hl : l.length ≤ 1000000) (h1 : 1 ≤ sep.length) (h : MaxV w) :
    Calls Tryz.prog 119 #[.string (bs l), .string (bs sep)] w fun e w' => ∃ B, e = .returned (.slice (some ⟨B, 0, none⟩) (Lib.split l sep).length (Lib.split l sep).length) ∧ Row w' B 9 (strV (Lib.split l sep)) ∧ w.heap.size ≤ B ∧ Gr w w' := by
  obtain ⟨m, hm⟩ := h
  refine (Tryz.strings_Split (bs l) (bs sep) m w (by rw [bs_size]; omega) hm (by rw [bs_size]; exact h1)).mono ?_
  rintro e w' ⟨he, rfl⟩
  rw [countB_len l sep h1] at he
  refine ⟨w.heap.size, he, ?_, Nat.le_refl _, (Gr.refl _).alloc _⟩
  have R := Row.new w ((Lib.splitB (bs sep) 0 (Lib.countB (bs l) (bs sep)) (bs l)).map Value.string).toArray 9
  have e : ((Lib.splitB (bs sep) 0 (Lib.countB (bs l) (bs sep)) (bs l)).map Value.string).toArray.toList = strV (Lib.split l sep) := by
    rw [List.toList_toArray, ← bs_map, Lib.splitB_data, bs_data, bs_data]
    unfold Lib.split Lib.countB
    rw [bs_data, bs_data]
  rw [e] at R
  exact R
def chrOk (c : UInt8) : Bool := decide (32 ≤ c.toNat) && decide (c.toNat ≤ 126)
theorem txtOk_eq (s : St) : txtOk s = (!s.isEmpty && s.all chrOk) := rfl
def GivesStrs (o : Option (List St)) (w : World) (e : Ending) (w' : World) : Prop := Gr w w' ∧ match o with
  | none => e = .returned (.tuple #[.slice none 0 0, .bool false])
  | some l => ∃ B, e = .returned (.tuple #[.slice (some ⟨B, 0, none⟩) l.length l.length, .bool true]) ∧ Row w' B 9 (strV l) ∧ w.heap.size ≤ B
theorem strings_any (v : St) (w : World) (hf : v.length ≤ 1000000) (hM : MaxV w) :
    Calls Tryz.prog 94 #[.string (bs v)] w (GivesStrs (strsP v) w) := by
  obtain ⟨P0, hP0⟩ : ∃ P : Ending → World → Prop, P = GivesStrs (strsP v) w := ⟨_, rfl⟩
  rw [← hP0]
  have HP0 := Lib.hid hP0
  clear hP0
  by_cases hs : Lib.hasSuffix v [0] = true
  · go_enter Tryz.func94, Tryz.ntmps94
    go_wp2_with fail
    refine (cutSuf_any v [0] w hf).mono ?_
    rintro e w' ⟨rfl, rfl⟩
    rw [hs]
    obtain ⟨body, hbody⟩ : ∃ body, Lib.trimSuffix v [0] = body := ⟨_, rfl⟩
    have BL : body.length ≤ 1000000 := by
      rw [← hbody]; unfold Lib.trimSuffix; split <;> simp only [List.length_take] <;> omega
    have SP : Hid (strsP v = if (Lib.split body [0]).all txtOk = true then some (Lib.split body [0]) else none) := Lib.hid (by
      unfold strsP; rw [hbody, hs]; simp)
    rw [hbody]
    clear hbody
    go_wp2_with fail
    refine (split_any body [0] w BL (by simp) hM).mono ?_
    rintro e w1 ⟨B, rfl, hr, hB, hg⟩
    have R1 := Lib.hid hr
    have G1 := Lib.hid hg
    have SB := Lib.hid hB
    have LL : Hid (∀ s ∈ Lib.split body [0], s.length ≤ 1000000) := Lib.hid (fun s hs2 => Nat.le_trans (split_le body [0] s hs2) BL)
    have LN : Hid ((Lib.split body [0]).length ≤ 2000000) := Lib.hid (by have := split_len body [0] (by simp); omega)
    obtain ⟨L, hL⟩ : ∃ L, Lib.split body [0] = L := ⟨_, rfl⟩
    rw [hL] at R1 SP LL LN ⊢
    clear hr hg hB hL
    have ln := LN.out
    go_wp2_with fail
    go_loopw [21] (fun i wr => ∃ k : Nat, k ≤ L.length ∧ i = .int .i64 (k : Int) ∧ (L.take k).all txtOk = true ∧ Gr w1 wr) (fun i _ => L.length - (intOf i).toNat)
    case atStart => exact ⟨0, Nat.zero_le _, rfl, rfl, Gr.refl _⟩
    case round =>
      obtain ⟨k, hk, rfl, hall, hg⟩ := hrel
      have HA := Lib.hid hall
      have HG := Lib.hid hg
      clear hall hg
      by_cases hlt : k < L.length
      · have c0 := (R1.out.gr HG.out).cell k (by simpa [strV] using hlt)
        rw [strV_get hlt] at c0
        have hh := has_of_cell c0
        have SL : L[k].length ≤ 1000000 := LL.out _ (List.getElem_mem hlt)
        obtain ⟨s, hs2⟩ : ∃ s, L[k] = s := ⟨_, rfl⟩
        have HS := Lib.hid hs2
        rw [hs2] at c0 SL
        clear hs2
        by_cases he : s = []
        · have OUT : Hid (strsP v = none) := Lib.hid (by
            rw [SP.out, if_neg]
            rw [Bool.not_eq_true, List.all_eq_false]
            exact ⟨_, List.getElem_mem hlt, by rw [HS.out, he]; simp [txtOk]⟩)
          have h0 : s.isEmpty = true := by rw [he]; rfl
          clear he
          go_wp2_with fail
          rw [HP0.out, OUT.out]
          exact ⟨G1.out.trans HG.out, rfl⟩
        · have h0 : s.isEmpty = false := by simpa using he
          have HE := Lib.hid he
          clear he
          go_wp2_with fail
          go_loop [29] (fun i => ∃ m : Nat, m ≤ s.length ∧ i = .int .i64 (m : Int) ∧ (s.take m).all chrOk = true) (fun i => s.length - (intOf i).toNat)
          case atStart => exact ⟨0, Nat.zero_le _, rfl, rfl⟩
          case round =>
            obtain ⟨m, hm, rfl, hc⟩ := hrel
            have HC := Lib.hid hc
            clear hc
            by_cases hlm : m < s.length
            · obtain ⟨c, hcc⟩ : ∃ c, s[m] = c := ⟨_, rfl⟩
              have HCC := Lib.hid hcc
              have hb := s[m].toNat_lt
              by_cases h1 : (s[m].toNat : Int) < 32
              · have BAD : Hid (strsP v = none) := Lib.hid (by
                  rw [SP.out, if_neg]
                  rw [Bool.not_eq_true, List.all_eq_false]
                  refine ⟨_, List.getElem_mem hlt, ?_⟩
                  rw [HS.out, txtOk_eq, Bool.and_eq_true, not_and]
                  intro _ q
                  have := List.all_eq_true.1 q _ (List.getElem_mem hlm)
                  unfold chrOk at this
                  simp at this
                  omega)
                clear hcc
                go_wp2_with fail
                rw [HP0.out, BAD.out]
                exact ⟨G1.out.trans HG.out, rfl⟩
              · by_cases h2 : (126 : Int) < (s[m].toNat : Int)
                · have BAD : Hid (strsP v = none) := Lib.hid (by
                    rw [SP.out, if_neg]
                    rw [Bool.not_eq_true, List.all_eq_false]
                    refine ⟨_, List.getElem_mem hlt, ?_⟩
                    rw [HS.out, txtOk_eq, Bool.and_eq_true, not_and]
                    intro _ q
                    have := List.all_eq_true.1 q _ (List.getElem_mem hlm)
                    unfold chrOk at this
                    simp at this
                    omega)
                  clear hcc
                  go_wp2_with fail
                  rw [HP0.out, BAD.out]
                  exact ⟨G1.out.trans HG.out, rfl⟩
                · have OKC : Hid (chrOk s[m] = true) := Lib.hid (by unfold chrOk; simp; omega)
                  clear hcc
                  go_wp2_with fail
                  go_round
                  case rel => exact ⟨m + 1, by omega, by go_num, by rw [List.take_succ_eq_append_getElem hlm, List.all_append, HC.out]; simp [OKC.out]⟩
                  case measure => simp [intOf]; omega
            · have TOK : Hid (txtOk s = true) := Lib.hid (by
                rw [txtOk_eq]
                have h3 : s.all chrOk = true := by rw [← HC.out, List.take_of_length_le (by omega)]
                rw [h3]; simp [HE.out])
              go_wp2_with fail
              go_roundw
              case rel => exact ⟨k + 1, by omega, by go_num, by rw [List.take_succ_eq_append_getElem hlt, List.all_append, HA.out, HS.out]; simp [TOK.out], HG.out⟩
              case measure => simp [intOf]; omega
      · obtain rfl : k = L.length := by omega
        have OUT : Hid (strsP v = some L) := Lib.hid (by rw [SP.out, if_pos]; rw [← HA.out, List.take_length])
        clear HA
        go_wp2_with fail
        rw [HP0.out, OUT.out]
        exact ⟨G1.out.trans HG.out, B, rfl, R1.out.gr HG.out, SB.out⟩
  · rw [Bool.not_eq_true] at hs
    have OUT : Hid (strsP v = none) := Lib.hid (by unfold strsP; rw [hs]; simp)
    go_enter Tryz.func94, Tryz.ntmps94
    go_wp2_with fail
    refine (cutSuf_any v [0] w hf).mono ?_
    rintro e w' ⟨rfl, rfl⟩
    rw [hs]
    go_wp2_with fail
    rw [HP0.out, OUT.out]
    exact ⟨Gr.refl _, rfl⟩
def StrsV (base : Nat) (w : World) (v : Value) (l : List St) : Prop := (v = .slice none 0 0 ∧ l = []) ∨ ∃ B, v = .slice (some ⟨B, 0, none⟩) l.length l.length ∧ Row w B 9 (strV l) ∧ base ≤ B
theorem StrsV.gr {base : Nat} {w w' : World} {v : Value} {l : List St} (h : StrsV base w v l) (hg : Gr w w') : StrsV base w' v l := h.imp id (fun ⟨B, h1, h2, h3⟩ => ⟨B, h1, h2.gr hg, h3⟩)
theorem StrsV.form {base : Nat} {w : World} {v : Value} {l : List St} (h : StrsV base w v l) : ∃ a, v = .slice a l.length l.length := by
  rcases h with ⟨rfl, rfl⟩ | ⟨B, rfl, _⟩
  · exact ⟨_, rfl⟩
  · exact ⟨_, rfl⟩
theorem StrsV.at {base : Nat} {w : World} {a : Option Addr} {n c : Nat} {l : List St} (h : StrsV base w (.slice a n c) l) {k : Nat} (hk : k < l.length) : ∃ B, a = some ⟨B, 0, none⟩ ∧ w.cell? ⟨B, k, none⟩ = some (.string (bs l[k])) := by
  rcases h with ⟨_, rfl⟩ | ⟨B, e, h2, _⟩
  · simp at hk
  · injection e with e _ _
    refine ⟨B, e, ?_⟩
    rw [h2.cell k (by simpa [strV] using hk), strV_get hk]
def NodOk (n : Nod) : Prop := ascP n.props = true ∧ n.props.length ≤ 24 ∧ ∀ p ∈ n.props, p.val.length ≤ 256
theorem valP_mem {ps : List Prp} {s v : St} (h : valP ps s = some v) : ∃ p ∈ ps, p.name = s ∧ p.val = v := by
  unfold valP at h
  cases e : ps.find? (fun p => p.name == s) with
  | none => rw [e] at h; cases h
  | some p =>
    rw [e] at h
    injection h with h
    have := List.find?_some e
    exact ⟨p, List.mem_of_find?_eq_some e, by simpa using this, h⟩
theorem NodOk.val {n : Nod} (h : NodOk n) (s : St) : ((valP n.props s).getD []).length ≤ 256 := by
  cases e : valP n.props s with
  | none => simp
  | some v =>
    obtain ⟨p, hp, _, rfl⟩ := valP_mem e
    exact h.2.2 p hp
theorem GivesVal.form {o : Option St} {w w' : World} {e : Ending} (h : GivesVal o w e w') : Gr w w' ∧ e = .returned (.tuple #[.string (bs (o.getD [])), .bool o.isSome]) := by
  obtain ⟨h1, h2⟩ := h
  cases o with
  | none => exact ⟨h1, h2⟩
  | some v => exact ⟨h1, h2⟩
theorem GivesStrs.form {o : Option (List St)} {w w' : World} {e : Ending} (h : GivesStrs o w e w') : Gr w w' ∧ ∃ v, e = .returned (.tuple #[v, .bool o.isSome]) ∧ StrsV w.heap.size w' v (o.getD []) := by
  obtain ⟨h1, h2⟩ := h
  cases o with
  | none => exact ⟨h1, _, h2, .inl ⟨rfl, rfl⟩⟩
  | some l =>
    obtain ⟨B, e1, r, hB⟩ := h2
    exact ⟨h1, _, e1, .inr ⟨B, rfl, r, hB⟩⟩
def GivesComp (l : List St) (w : World) (e : Ending) (w' : World) : Prop := ∃ v, e = .returned v ∧ StrsV w.heap.size w' v l ∧ Gr w w'
theorem comp_any (n : Nod) (a : Option Addr) (cap : Nat) (w : World) (h : SlOf 2 RPrp w a n.props) (hn : NodOk n) (hM : MaxV w) :
    Calls Tryz.prog 59 #[.agg #[.int .i64 n.parent, .string (bs n.name), .slice a n.props.length cap]] w (GivesComp (compP n) w) := by
  have H := Lib.hid h
  have HN := Lib.hid hn
  have HM := Lib.hid hM
  clear h hn hM
  obtain ⟨P0, hP0⟩ : ∃ P : Ending → World → Prop, P = GivesComp (compP n) w := ⟨_, rfl⟩
  rw [← hP0]
  have HP0 := Lib.hid hP0
  clear hP0
  go_enter Tryz.func59, Tryz.ntmps59
  go_upto_region 1 with (fail)
  have R1 := Lib.hid (Row.new w #[.int .i64 n.parent, .string (bs n.name), .slice a n.props.length cap] 86)
  obtain ⟨W, hW⟩ : ∃ W : World, Hid (W = w.alloc (.cells #[.int .i64 n.parent, .string (bs n.name), .slice a n.props.length cap] 86)) := ⟨_, Lib.hid rfl⟩
  have GW : Hid (Gr w W) := Lib.hid (by rw [hW.out]; exact (Gr.refl _).alloc _)
  rw [← hW.out] at R1 ⊢
  obtain ⟨PB, hPB⟩ : ∃ N : Nat, Hid (w.heap.size = N) := ⟨_, Lib.hid rfl⟩
  rw [hPB.out] at R1 ⊢
  clear hW hPB
  have x0 : W.cell? ⟨PB, 0, none⟩ = some (.int .i64 n.parent) := R1.out.cell 0 (by simp)
  have x1 : W.cell? ⟨PB, 1, none⟩ = some (.string (bs n.name)) := R1.out.cell 1 (by simp)
  have x2 : W.cell? ⟨PB, 2, none⟩ = some (.slice a n.props.length cap) := R1.out.cell 2 (by simp)
  have hx := has_of_cell x0
  go_wp2_with fail
  refine (cProperty_any n a cap cmpN W (H.out.gr RPrp.mono GW.out) (by have := HN.out.2.1; omega) HN.out.1).mono ?_
  intro e w1 hv
  obtain ⟨hg1, rfl⟩ := hv.form
  have G1 := Lib.hid (GW.out.trans hg1)
  have VL : Hid (((valP n.props cmpN).getD []).length ≤ 256) := Lib.hid (HN.out.val cmpN)
  have CP : Hid (compP n = (strsP ((valP n.props cmpN).getD [])).getD []) := Lib.hid rfl
  obtain ⟨vv, hvv⟩ : ∃ vv, (valP n.props cmpN).getD [] = vv := ⟨_, rfl⟩
  obtain ⟨bb, hbb⟩ : ∃ bb, (valP n.props cmpN).isSome = bb := ⟨_, rfl⟩
  rw [hvv] at VL CP ⊢
  rw [hbb]
  clear hg1 hv x0 x1 x2 hx hvv hbb
  go_wp2_with fail
  refine (strings_any vv w1 (by have := VL.out; omega) (HM.out.gr G1.out)).mono ?_
  intro e w2 hs
  obtain ⟨hg2, v, rfl, hv⟩ := hs.form
  have SV := Lib.hid hv
  have G2 := Lib.hid (G1.out.trans hg2)
  have GS := Lib.hid G1.out.size
  obtain ⟨cc, hcc⟩ : ∃ cc, (strsP vv).isSome = cc := ⟨_, rfl⟩
  rw [hcc]
  clear hv hg2 hs hcc
  go_wp2_with fail
  rw [HP0.out]
  refine ⟨v, rfl, ?_, G2.out⟩
  rw [CP.out]
  exact SV.out.imp id (fun ⟨B, h1, h2, h3⟩ => ⟨B, h1, h2, Nat.le_trans GS.out h3⟩)
theorem strsP_len {v : St} {l : List St} (h : strsP v = some l) : l.length ≤ v.length + 1 := by
  unfold strsP at h
  split at h
  · injection h with h
    have h1 := split_len (Lib.trimSuffix v [0]) [0] (by simp)
    have h2 : (Lib.trimSuffix v [0]).length ≤ v.length := by
      unfold Lib.trimSuffix
      split
      · rw [List.length_take]; omega
      · exact Nat.le_refl _
    rw [← h]; omega
  · cases h
theorem compP_len {n : Nod} (h : NodOk n) : (compP n).length ≤ 1000 := by
  have h1 := h.val cmpN
  unfold compP
  cases e : strsP ((valP n.props cmpN).getD []) with
  | none => simp
  | some l =>
    have := strsP_len e
    simp only [Option.getD_some]
    omega
def govV (o : Option Nat) : Value := .tuple #[.int .i64 ((o.getD 0 : Nat) : Int), .bool o.isSome]
theorem govF_drop {l : List Sch} {cs : List St} {k : Nat} (hk : k < cs.length) : govF l (cs.drop k) = match findC l cs[k] with
    | some j => some j
    | none => govF l (cs.drop (k + 1)) := by
  rw [List.drop_eq_getElem_cons hk, govF]
  all_goals (cases findC l cs[k] <;> rfl)
theorem gov_any (n : Nod) (a : Option Addr) (cap : Nat) (ts : List Sch) (sa : Option Addr) (sc : Nat) (w : World) (h : SlOf 2 RPrp w a n.props) (hn : NodOk n) (hM : MaxV w) (hs : SlOf 3 RSch w sa ts) (hl : ts.length ≤ 1000000) :
    Calls Tryz.prog 58 #[.agg #[.int .i64 n.parent, .string (bs n.name), .slice a n.props.length cap], .slice sa ts.length sc] w (Grows w (govV (govP n ts))) := by
  have H := Lib.hid h
  have HN := Lib.hid hn
  have HM := Lib.hid hM
  have HS := Lib.hid hs
  clear h hn hM hs
  obtain ⟨P0, hP0⟩ : ∃ P : Ending → World → Prop, P = Grows w (govV (govP n ts)) := ⟨_, rfl⟩
  rw [← hP0]
  have HP0 := Lib.hid hP0
  clear hP0
  go_enter Tryz.func58, Tryz.ntmps58
  go_upto_region 1 with (fail)
  have R1 := Lib.hid (Row.new w #[.int .i64 n.parent, .string (bs n.name), .slice a n.props.length cap] 86)
  obtain ⟨W, hW⟩ : ∃ W : World, Hid (W = w.alloc (.cells #[.int .i64 n.parent, .string (bs n.name), .slice a n.props.length cap] 86)) := ⟨_, Lib.hid rfl⟩
  have GW : Hid (Gr w W) := Lib.hid (by rw [hW.out]; exact (Gr.refl _).alloc _)
  rw [← hW.out] at R1 ⊢
  obtain ⟨PB, hPB⟩ : ∃ N : Nat, Hid (w.heap.size = N) := ⟨_, Lib.hid rfl⟩
  rw [hPB.out] at R1 ⊢
  clear hW hPB
  have x0 : W.cell? ⟨PB, 0, none⟩ = some (.int .i64 n.parent) := R1.out.cell 0 (by simp)
  have x1 : W.cell? ⟨PB, 1, none⟩ = some (.string (bs n.name)) := R1.out.cell 1 (by simp)
  have x2 : W.cell? ⟨PB, 2, none⟩ = some (.slice a n.props.length cap) := R1.out.cell 2 (by simp)
  have hx := has_of_cell x0
  go_wp2_with fail
  refine (comp_any n a cap W (H.out.gr RPrp.mono GW.out) HN.out (HM.out.gr GW.out)).mono ?_
  rintro e w1 ⟨v, rfl, hv, hg1⟩
  obtain ⟨ca, rfl⟩ := hv.form
  have SV := Lib.hid hv
  have G1 := Lib.hid (GW.out.trans hg1)
  have GP : Hid (govP n ts = govF ts (compP n)) := Lib.hid rfl
  have CL : Hid ((compP n).length ≤ 1000) := Lib.hid (compP_len HN.out)
  obtain ⟨cs, hcs⟩ : ∃ cs, compP n = cs := ⟨_, rfl⟩
  rw [hcs] at SV GP CL ⊢
  have cl := CL.out
  clear hv hg1 x0 x1 x2 hx hcs
  go_wp2_with fail
  go_loopw [13] (fun i wr => ∃ k : Nat, k ≤ cs.length ∧ i = .int .i64 (k : Int) ∧ govF ts cs = govF ts (cs.drop k) ∧ Gr w1 wr) (fun i _ => cs.length - (intOf i).toNat)
  case atStart => exact ⟨0, Nat.zero_le _, rfl, rfl, Gr.refl _⟩
  case round =>
    obtain ⟨k, hk, rfl, he, hg⟩ := hrel
    have HE := Lib.hid he
    have HG := Lib.hid hg
    clear he hg
    by_cases hlt : k < cs.length
    · obtain ⟨B, rfl, c0⟩ := (SV.out.gr HG.out).at hlt
      have hh := has_of_cell c0
      have FC := Lib.hid (find_any ts sa sc cs[k] wr (HS.out.giC (G1.out.trans HG.out)) hl)
      have GD := Lib.hid (govF_drop (l := ts) hlt)
      obtain ⟨s, hs2⟩ : ∃ s, cs[k] = s := ⟨_, rfl⟩
      rw [hs2] at c0 FC GD
      clear hs2
      cases hz : findC ts s with
      | none =>
        rw [hz] at FC GD
        simp only [Option.getD_none, Option.isSome_none] at FC
        go_wp2_with (go_at_call 92; refine FC.out.mono ?_; rintro e w' ⟨rfl, O, d, rfl⟩)
        go_roundw
        case rel => exact ⟨k + 1, by omega, by go_num, by rw [HE.out, GD.out], HG.out.xt _ _⟩
        case measure => simp [intOf]; omega
      | some j =>
        rw [hz] at FC GD
        simp only [Option.getD_some, Option.isSome_some] at FC
        go_wp2_with (go_at_call 92; refine FC.out.mono ?_; rintro e w' ⟨rfl, O, d, rfl⟩)
        rw [HP0.out]
        refine ⟨?_, (G1.out.trans HG.out).xt _ _⟩
        rw [GP.out, HE.out, GD.out]
        rfl
    · obtain rfl : k = cs.length := by omega
      go_wp2_with fail
      rw [HP0.out]
      refine ⟨?_, G1.out.trans HG.out⟩
      rw [GP.out, HE.out, List.drop_length]
      rfl
theorem idxS_any (ys : List St) (s : St) (a : Option Addr) (cap : Nat) (w : World) (h : SlOf 1 RS w a ys) (hf : ys.length ≤ 1000000) :
    Calls Tryz.prog 110 #[.slice a ys.length cap, .string (bs s)] w fun e w' => ∃ i : Int, e = .returned (.int .i64 i) ∧ (decide (0 ≤ i) = ys.any (fun x => s == x)) ∧ Gr w w' := by
  have H := Lib.hid h
  clear h
  go_enter Tryz.func110, Tryz.ntmps110
  go_wp2_with fail
  go_loopw [8] (fun i wr => ∃ k : Nat, k ≤ ys.length ∧ i = .int .i64 k ∧ (∀ j (hj : j < k) (hjl : j < ys.length), (s == ys[j]) = false) ∧ Gr w wr) (fun i _ => ys.length - (intOf i).toNat)
  case atStart => exact ⟨0, Nat.zero_le _, rfl, fun j h => absurd h (by omega), Gr.refl _⟩
  case round =>
    obtain ⟨k, hk, rfl, hall, hg⟩ := hrel
    have HA := Lib.hid hall
    have HG := Lib.hid hg
    clear hall hg
    by_cases hlt : k < ys.length
    · obtain ⟨b, o, rfl, c0, _⟩ := (H.out.giS HG.out).one k hlt
      obtain ⟨y, hyk⟩ : ∃ y, ys[k] = y := ⟨_, rfl⟩
      have HYK := Lib.hid hyk
      rw [hyk] at c0
      have hh := has_of_cell c0
      clear hyk
      by_cases hv : (s == y) = true
      · have V := Lib.hid hv
        go_wp2_with fail
        go_ret
        refine ⟨_, rfl, ?_, HG.out⟩
        rw [show decide (0 ≤ (k : Int)) = true by simp, eq_comm, List.any_eq_true]
        exact ⟨_, List.getElem_mem hlt, by rw [HYK.out]; exact V.out⟩
      · rw [Bool.not_eq_true] at hv
        have V := Lib.hid hv
        go_wp2_with fail
        go_roundw
        case rel =>
          refine ⟨k + 1, by omega, by go_num, fun j hj hjl => ?_, HG.out⟩
          by_cases e : j = k
          · subst e; rw [HYK.out]; exact V.out
          · exact HA.out j (by omega) hjl
        case measure => simp [intOf]; omega
    · go_wp2_with fail
      go_ret
      refine ⟨_, rfl, ?_, HG.out⟩
      rw [eq_comm, show decide ((0:Int) ≤ -1) = false by simp, List.any_eq_false]
      intro x hx
      obtain ⟨j, hj, rfl⟩ := List.getElem_of_mem hx
      rw [HA.out j (by omega) hj]; simp
theorem conS_any (ys : List St) (s : St) (a : Option Addr) (cap : Nat) (w : World) (h : SlOf 1 RS w a ys) (hf : ys.length ≤ 1000000) :
    Calls Tryz.prog 85 #[.slice a ys.length cap, .string (bs s)] w (Grows w (.bool (ys.any (fun x => s == x)))) := by
  have HI := Lib.hid (idxS_any ys s a cap w h hf)
  clear h
  go_enter Tryz.func85, Tryz.ntmps85
  go_wp2_with fail
  refine HI.out.mono ?_
  rintro e w' ⟨x, rfl, hx, O, d, rfl⟩
  have X := Lib.hid hx
  clear hx
  go_wp2_with fail
  go_ret
  exact ⟨ret_bool X.out, (Gr.refl _).xt _ _⟩
theorem cel1_any (x : Int) (PB : Nat) (lo hi : Int) (w : World) (h3 : w.cell? ⟨PB, 3, none⟩ = some (.int .i64 lo)) (h4 : w.cell? ⟨PB, 4, none⟩ = some (.int .i64 hi)) :
    Calls Tryz.prog 131 #[.int .i64 x, .pointer (some ⟨PB, 0, none⟩)] w fun e w' => e = .returned (.bool (decide (x < lo) || decide (hi < x))) ∧ w = w' := by
  have hh := has_of_cell h3
  by_cases h : x < lo
  · have hd : decide (x < lo) = true := decide_eq_true h
    go_enter Tryz.func131, Tryz.ntmps131
    go_wp2_with fail
    go_ret
    exact ⟨ret_bool (by rw [hd]; rfl), rfl⟩
  · have hd : decide (x < lo) = false := decide_eq_false h
    go_enter Tryz.func131, Tryz.ntmps131
    go_wp2_with fail
    go_ret
    exact ⟨ret_bool (by first | (rw [hd]; simp; done) | (simp [h]; done) | exact decide_eq_decide.2 Iff.rfl), rfl⟩
theorem idxI_any (ys : List Int) (PB : Nat) (lo hi : Int) (a : Option Addr) (cap : Nat) (w : World) (h : SlOf 1 RI w a ys) (hf : ys.length ≤ 1000000) (hq : w.cell? ⟨PB, 3, none⟩ = some (.int .i64 lo) ∧ w.cell? ⟨PB, 4, none⟩ = some (.int .i64 hi)) :
    Calls Tryz.prog 145 #[.slice a ys.length cap, .func (.func 131) #[] #[.pointer (some ⟨PB, 0, none⟩)]] w fun e w' => ∃ i : Int, e = .returned (.int .i64 i) ∧ (decide (0 ≤ i) = ys.any (fun x => decide (x < lo) || decide (hi < x))) ∧ Gr w w' := by
  have H := Lib.hid h
  clear h
  have HQ := Lib.hid hq
  clear hq
  go_enter Tryz.func145, Tryz.ntmps145
  go_wp2_with fail
  go_loopw [8] (fun i wr => ∃ k : Nat, k ≤ ys.length ∧ i = .int .i64 k ∧ (∀ j (hj : j < k) (hjl : j < ys.length), (decide (ys[j] < lo) || decide (hi < ys[j])) = false) ∧ Gr w wr) (fun i _ => ys.length - (intOf i).toNat)
  case atStart => exact ⟨0, Nat.zero_le _, rfl, fun j h => absurd h (by omega), Gr.refl _⟩
  case round =>
    obtain ⟨k, hk, rfl, hall, hg⟩ := hrel
    have HA := Lib.hid hall
    have HG := Lib.hid hg
    clear hall hg
    by_cases hlt : k < ys.length
    · obtain ⟨b, o, rfl, c0, _⟩ := (H.out.gr RI.mono HG.out).one k hlt
      obtain ⟨y, hyk⟩ : ∃ y, ys[k] = y := ⟨_, rfl⟩
      have HYK := Lib.hid hyk
      rw [hyk] at c0
      have hh := has_of_cell c0
      have HC := Lib.hid (cel1_any y PB lo hi wr (cell_gr HG.out HQ.out.1) (cell_gr HG.out HQ.out.2))
      clear hyk
      by_cases hv : (decide (y < lo) || decide (hi < y)) = true
      · have V := Lib.hid hv
        rw [hv] at HC
        clear hv
        go_wp2_with (go_at_call 131; refine HC.out.mono ?_; rintro e w' ⟨rfl, rfl⟩)
        go_ret
        refine ⟨_, rfl, ?_, HG.out⟩
        rw [show decide (0 ≤ (k : Int)) = true by simp, eq_comm, List.any_eq_true]
        exact ⟨_, List.getElem_mem hlt, by rw [HYK.out]; exact V.out⟩
      · rw [Bool.not_eq_true] at hv
        have V := Lib.hid hv
        rw [hv] at HC
        clear hv
        go_wp2_with (go_at_call 131; refine HC.out.mono ?_; rintro e w' ⟨rfl, rfl⟩)
        go_roundw
        case rel =>
          refine ⟨k + 1, by omega, by go_num, fun j hj hjl => ?_, HG.out⟩
          by_cases e : j = k
          · subst e; rw [HYK.out]; exact V.out
          · exact HA.out j (by omega) hjl
        case measure => simp [intOf]; omega
    · go_wp2_with fail
      go_ret
      refine ⟨_, rfl, ?_, HG.out⟩
      rw [eq_comm, show decide ((0:Int) ≤ -1) = false by simp, List.any_eq_false]
      intro x hx
      obtain ⟨j, hj, rfl⟩ := List.getElem_of_mem hx
      rw [HA.out j (by omega) hj]; simp
theorem conI_any (ys : List Int) (PB : Nat) (lo hi : Int) (a : Option Addr) (cap : Nat) (w : World) (h : SlOf 1 RI w a ys) (hf : ys.length ≤ 1000000) (hq : w.cell? ⟨PB, 3, none⟩ = some (.int .i64 lo) ∧ w.cell? ⟨PB, 4, none⟩ = some (.int .i64 hi)) :
    Calls Tryz.prog 130 #[.slice a ys.length cap, .func (.func 131) #[] #[.pointer (some ⟨PB, 0, none⟩)]] w (Grows w (.bool (ys.any (fun x => decide (x < lo) || decide (hi < x))))) := by
  have HI := Lib.hid (idxI_any ys PB lo hi a cap w h hf hq)
  clear h
  go_enter Tryz.func130, Tryz.ntmps130
  go_wp2_with fail
  refine HI.out.mono ?_
  rintro e w' ⟨x, rfl, hx, O, d, rfl⟩
  have X := Lib.hid hx
  clear hx
  go_wp2_with fail
  go_ret
  exact ⟨ret_bool X.out, (Gr.refl _).xt _ _⟩
theorem vio1_any (r : Rul) (a : Option Addr) (n cap PB : Nat) (s : St) (w : World) (h : w.cell? ⟨PB, 0, none⟩ = some (.string (bs s))) :
    Calls Tryz.prog 84 #[.agg #[.string (bs r.name), .bool r.req, .int .i64 r.kind, .int .i64 r.low, .int .i64 r.high, .int .i64 r.count, .slice a n cap], .pointer (some ⟨PB, 0, none⟩)] w (Grows w (.bool (r.name == s))) := by
  have hh := has_of_cell h
  go_enter Tryz.func84, Tryz.ntmps84
  go_wp2_with fail
  go_ret
  exact ⟨rfl, (Gr.refl _).alloc _⟩
theorem idxR_any (ys : List Rul) (PB : Nat) (s : St) (a : Option Addr) (cap : Nat) (w : World) (h : SlOf 7 RRul w a ys) (hf : ys.length ≤ 1000000) (hq : w.cell? ⟨PB, 0, none⟩ = some (.string (bs s))) :
    Calls Tryz.prog 105 #[.slice a ys.length cap, .func (.func 84) #[] #[.pointer (some ⟨PB, 0, none⟩)]] w fun e w' => ∃ i : Int, e = .returned (.int .i64 i) ∧ (decide (0 ≤ i) = ys.any (fun x => x.name == s)) ∧ Gr w w' := by
  have H := Lib.hid h
  clear h
  have HQ := Lib.hid hq
  clear hq
  go_enter Tryz.func105, Tryz.ntmps105
  go_wp2_with fail
  go_loopw [8] (fun i wr => ∃ k : Nat, k ≤ ys.length ∧ i = .int .i64 k ∧ (∀ j (hj : j < k) (hjl : j < ys.length), (ys[j].name == s) = false) ∧ Gr w wr) (fun i _ => ys.length - (intOf i).toNat)
  case atStart => exact ⟨0, Nat.zero_le _, rfl, fun j h => absurd h (by omega), Gr.refl _⟩
  case round =>
    obtain ⟨k, hk, rfl, hall, hg⟩ := hrel
    have HA := Lib.hid hall
    have HG := Lib.hid hg
    clear hall hg
    by_cases hlt : k < ys.length
    · obtain ⟨b, o, pa, pc, rfl, c0, c1, c2, c3, c4, c5, c6, _⟩ := ruls_at (H.out.giU HG.out) k hlt
      obtain ⟨y, hyk⟩ : ∃ y, ys[k] = y := ⟨_, rfl⟩
      have HYK := Lib.hid hyk
      rw [hyk] at c0 c1 c2 c3 c4 c5 c6
      have hh := has_of_cell c0
      have HC := Lib.hid (vio1_any y pa y.words.length pc PB s wr (cell_gr HG.out HQ.out))
      clear hyk
      by_cases hv : (y.name == s) = true
      · have V := Lib.hid hv
        rw [hv] at HC
        clear hv
        go_wp2_with (go_at_call 84; refine HC.out.mono ?_; rintro e w' ⟨rfl, O, d, rfl⟩)
        go_ret
        refine ⟨_, rfl, ?_, HG.out.xt _ _⟩
        rw [show decide (0 ≤ (k : Int)) = true by simp, eq_comm, List.any_eq_true]
        exact ⟨_, List.getElem_mem hlt, by rw [HYK.out]; exact V.out⟩
      · rw [Bool.not_eq_true] at hv
        have V := Lib.hid hv
        rw [hv] at HC
        clear hv
        go_wp2_with (go_at_call 84; refine HC.out.mono ?_; rintro e w' ⟨rfl, O, d, rfl⟩)
        go_roundw
        case rel =>
          refine ⟨k + 1, by omega, by go_num, fun j hj hjl => ?_, HG.out.xt _ _⟩
          by_cases e : j = k
          · subst e; rw [HYK.out]; exact V.out
          · exact HA.out j (by omega) hjl
        case measure => simp [intOf]; omega
    · go_wp2_with fail
      go_ret
      refine ⟨_, rfl, ?_, HG.out⟩
      rw [eq_comm, show decide ((0:Int) ≤ -1) = false by simp, List.any_eq_false]
      intro x hx
      obtain ⟨j, hj, rfl⟩ := List.getElem_of_mem hx
      rw [HA.out j (by omega) hj]; simp
theorem conR_any (ys : List Rul) (PB : Nat) (s : St) (a : Option Addr) (cap : Nat) (w : World) (h : SlOf 7 RRul w a ys) (hf : ys.length ≤ 1000000) (hq : w.cell? ⟨PB, 0, none⟩ = some (.string (bs s))) :
    Calls Tryz.prog 76 #[.slice a ys.length cap, .func (.func 84) #[] #[.pointer (some ⟨PB, 0, none⟩)]] w (Grows w (.bool (ys.any (fun x => x.name == s)))) := by
  have HI := Lib.hid (idxR_any ys PB s a cap w h hf hq)
  clear h
  go_enter Tryz.func76, Tryz.ntmps76
  go_wp2_with fail
  refine HI.out.mono ?_
  rintro e w' ⟨x, rfl, hx, O, d, rfl⟩
  have X := Lib.hid hx
  clear hx
  go_wp2_with fail
  go_ret
  exact ⟨ret_bool X.out, (Gr.refl _).xt _ _⟩
end Go.Proofs.YtbpkndiecomggaaGreatDoor
