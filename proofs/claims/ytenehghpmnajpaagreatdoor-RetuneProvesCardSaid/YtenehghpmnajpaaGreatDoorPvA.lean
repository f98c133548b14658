/- The walk of RetuneProves. -/
import Derived.Test.YtenehghpmnajpaaGreatDoorCdB
import Derived.Test.YtenehghpmnajpaaGreatDoorChA
import Derived.Test.YtenehghpmnajpaaGreatDoorRkA
import Derived.Test.YtenehghpmnajpaaGreatDoorKq
set_option linter.unusedVariables false
set_option linter.unusedSimpArgs false
namespace Go.Proofs.YtenehghpmnajpaaGreatDoor
open Go.RowKit
open Classical

/-- There is a way there exactly if there is one back. -/
theorem both_ways {l : List Clk} {cal : List Int → Bool} {f t : List Int} {D D' : List Int → Option Int} (hD : DistOk l cal t D) (hD' : DistOk l cal f D') (hf : SetOk l f) (ht : SetOk l t) (cf : cal f = true) (ct : cal t = true) : (D f).isSome = (D' t).isSome := by
  rw [dS_unique hD ht ct, dS_unique hD' hf cf]
  rw [Bool.eq_iff_iff]
  constructor
  · intro h
    obtain ⟨d, hd⟩ := Option.isSome_iff_exists.1 h
    have h0 := (dS_ok ht ct).dist.nonneg f d hd
    obtain ⟨e, q, _⟩ := dS_sym ht ct d.toNat f (by rw [hd]; congr 1; omega)
    rw [q]; rfl
  · intro h
    obtain ⟨d, hd⟩ := Option.isSome_iff_exists.1 h
    have h0 := (dS_ok hf cf).dist.nonneg t d hd
    obtain ⟨e, q, _⟩ := dS_sym hf cf d.toNat t (by rw [hd]; congr 1; omega)
    rw [q]; rfl
theorem ris_len {l : List Clk} {cs : List (List Int)} (ho : SetsOk l cs) (hr : ∀ i j (hi : i < cs.length) (hj : j < i), num l cs[j] < num l cs[i]) : cs.length ≤ prodC l := by
  have h1 : (cs.map (num l)).Nodup := by
    refine List.pairwise_iff_getElem.2 (fun i j hi hj hij => ?_)
    simp only [List.length_map] at hi hj
    have := hr j i hj hij
    simp only [List.getElem_map]
    omega
  have := nodup_int_le h1 (n := prodC l) (fun x hx => by
    obtain ⟨s, hs, rfl⟩ := List.mem_map.1 hx
    exact num_bound (ho s hs))
  simpa using this
set_option maxRecDepth 100000 in
set_option maxHeartbeats 4000000 in
theorem proves18_walk (a : Option Addr) (len cap : Nat) (zs : List Int) (w : World) (h : RowIn w a len cap zs) (hoff : OffV w) :
    Calls Tryz.prog 4 #[.slice a len cap] w (Grows w (.bool true)) := by
  have H := Lib.hid h
  have HO := Lib.hid hoff
  clear h hoff
  go_enter Tryz.func4, Tryz.ntmps4
  go_wp2_with fail
  refine (newTape_any w a len cap zs H.out).mono ?_
  rintro e w1 ⟨b, n, rfl, T, hg, hb, _⟩
  have HT : Hid (Tp w1 b n) := Lib.hid ⟨_, T⟩
  have HB := Lib.hid T.has
  have HG := Lib.hid hg
  have LB := Lib.hid hb
  clear T hg hb
  go_wp2_with fail
  refine (calmOnes_any w1 b n 300 HT.out (by omega) (by omega)).mono ?_
  rintro e w2 ⟨ts, ms, f, t, g, c, vm, af, at', cf, ct, ok, rfl, ho, hr, hck, hge, hle, hom, hls, hof, hsf, hot, hst, hcal, hm2⟩
  have hcl : (clks ts).length = ts.length := clks_len ts
  obtain ⟨am, cm, rfl, sm2⟩ := lmts_of_owns hom (by rw [hcl]; omega) hls
  have G2 : Hid (Gr w w2) := Lib.hid (Mv.gr_low HG.out LB.out hm2)
  cases ok with
  | false =>
    clear ho hr hck hom hls hof hsf hot hst hcal hm2 hcl sm2
    go_wp2_with fail
    refine (awake_any w2 (HO.out.gr G2.out)).mono ?_
    rintro e w3 ⟨rfl, hg3⟩
    have G3 := Lib.hid (G2.out.trans hg3)
    clear hg3
    go_wp2_with fail
    go_ret
    exact ⟨rfl, G3.out⟩
  | true =>
    obtain ⟨_, _, eq3, _, sl2⟩ := clks_at ho hr (by omega)
    cases eq3
    have sf2 := hof.slI (setOk_wide hck hsf)
    have st2 := hot.slI (setOk_wide hck hst)
    have E2 : Hid (Env w2 (clks ts) ms (some ⟨g, 0, none⟩) am) := Lib.hid ⟨sl2, sm2, HO.out.gr G2.out, hck, hls⟩
    have SF := Lib.hid hsf
    have ST := Lib.hid hst
    have MF := Lib.hid sf2
    have MT := Lib.hid st2
    obtain ⟨cal1, cal2⟩ := hcal rfl
    have C1 := Lib.hid cal1
    have C2 := Lib.hid cal2
    have P1 : Hid (Calls Tryz.prog 30 #[.slice (some ⟨g, 0, none⟩) ts.length c, .slice af ts.length cf, .slice at' ts.length ct, .slice am ms.length cm] w2 (GivesPlan w2 (clks ts) ms f t)) := Lib.hid (by
      have := plan_any (clks ts) ms f t (some ⟨g, 0, none⟩) am af at' c cm cf ct w2 E2.out hsf hst sf2 st2
      rwa [hsf.1, hst.1, hcl] at this)
    have P2 : Hid (∀ W, Gr w2 W → Calls Tryz.prog 31 #[.slice (some ⟨g, 0, none⟩) ts.length c, .slice af ts.length cf, .slice at' ts.length ct, .slice am ms.length cm] W (GivesClosed W (clks ts) ms f t)) := Lib.hid (fun W hW => by
      have := closed_any (clks ts) ms f t (some ⟨g, 0, none⟩) am af at' c cm cf ct W (E2.out.gr hW) hsf hst (sf2.giI hW) (st2.giI hW) cal1 cal2
      rwa [hsf.1, hst.1, hcl] at this)
    have P3 : Hid (∀ (cs : List (List Int)) (ac : Option Addr) (cc : Nat) W, Gr w2 W → SlOf 1 RSet W ac cs → SetsOk (clks ts) cs → cs.length ≤ 1000000 → Calls Tryz.prog 32 #[.slice (some ⟨g, 0, none⟩) ts.length c, .slice af ts.length cf, .slice at' ts.length ct, .slice am ms.length cm, .slice ac cs.length cc] W (Grows W (.bool (decide (ChkC (clks ts) (calS (clks ts) ms) f t cs))))) := Lib.hid (fun cs ac cc W hW sc hok hlen => by
      have := pCheck3_any (clks ts) ms f t cs (some ⟨g, 0, none⟩) am af at' ac c cm cf ct cc W (E2.out.gr hW) hsf hst (sf2.giI hW) (st2.giI hW) sc hok hlen cal1 cal2
      rwa [hsf.1, hst.1, hcl] at this)
    have P4 : Hid (∀ (cs : List (List Int)) (ac : Option Addr) (cc : Nat) W, Gr w2 W → SlOf 1 RSet W ac cs → SetsOk (clks ts) cs → cs.length ≤ 1000000 → Calls Tryz.prog 33 #[.slice (some ⟨g, 0, none⟩) ts.length c, .slice af ts.length cf, .slice at' ts.length ct, .slice am ms.length cm, .slice ac cs.length cc] W (Grows W (.bool (decide (ChkC (clks ts) (calS (clks ts) ms) f t cs))))) := Lib.hid (fun cs ac cc W hW sc hok hlen => by
      have := rCheck3_any (clks ts) ms f t cs (some ⟨g, 0, none⟩) am af at' ac c cm cf ct cc W (E2.out.gr hW) hsf hst (sf2.giI hW) (st2.giI hW) sc hok hlen (by rw [hcl]; exact hge) cal1 cal2
      rwa [hsf.1, hst.1, hcl] at this)
    have FIN : Hid (∀ W, Gr w2 W → Calls Tryz.prog 29 #[] W (fun e w' => e = .returned (.bool true) ∧ Gr w w')) := Lib.hid (fun W hW => (awake_any W (HO.out.gr (G2.out.trans hW))).mono (by rintro e w' ⟨rfl, hg⟩; exact ⟨rfl, (G2.out.trans hW).trans hg⟩))
    have FL : Hid (f.length = ts.length) := Lib.hid (by rw [hsf.1, hcl])
    have PR : Hid (prodC (clks ts) ≤ 4096) := Lib.hid (cchk_zero hck).2.2.1
    clear ho hr hck hom hls hof hsf hot hst hcal hm2 sl2 sm2 sf2 st2 hcl
    go_wp2_with fail
    refine P1.out.mono ?_
    rintro e w3 ⟨hg3, _, hc3⟩
    obtain ⟨D, hD, hDn, hDs⟩ := hc3 (by rw [cal1, cal2]; rfl)
    have G3 := Lib.hid hg3
    have DD := Lib.hid hD
    clear hg3 cal1 cal2 hc3 P1
    cases hd : D f with
    | some d =>
      obtain ⟨v, rfl, hv⟩ := hDs d hd
      obtain ⟨av, cv, rfl⟩ := owns_slice hv
      have HD := Lib.hid hd
      clear hD hDn hDs hv hd
      go_wp2_with fail
      refine (P2.out w3 G3.out).mono ?_
      rintro e w4 ⟨hg4, D', hD', h8, _⟩
      obtain rfl := h8 (by rw [← both_ways DD.out hD' SF.out ST.out C1.out C2.out, HD.out]; rfl)
      have G4 := Lib.hid (G3.out.trans hg4)
      have gA := fun (W : World) => (Gr.refl W).alloc (.cells #[.slice af ts.length cf] 22)
      have one : Hid (∀ W, Gr w2 W → SlOf 1 RSet (W.alloc (.cells #[.slice af ts.length cf] 22)) (some ⟨W.heap.size, 0, none⟩) [f]) := Lib.hid (fun W hW k hk => by
        have : k = 0 := by simpa using hk
        subst this
        refine ⟨W.heap.size, 0, rfl, af, cf, ?_, MF.out.giI (hW.alloc _)⟩
        have e := (Row.new W #[.slice af ts.length cf] 22).cell 0 (by simp)
        simp only [List.getElem_cons_zero, FL.out]
        exact e)
      have ok1 : Hid (SetsOk (clks ts) [f]) := Lib.hid (fun s hs => by have : s = f := by simpa using hs
                                                                       subst this; exact SF.out)
      obtain ⟨bb, hbb⟩ : ∃ bb, decide (ChkC (clks ts) (calS (clks ts) ms) f t [f]) = bb := ⟨_, rfl⟩
      have K3 : Hid (∀ W, Gr w2 W → Calls Tryz.prog 32 #[.slice (some ⟨g, 0, none⟩) ts.length c, .slice af ts.length cf, .slice at' ts.length ct, .slice am ms.length cm, .slice (some ⟨W.heap.size, 0, none⟩) 1 1] (W.alloc (.cells #[.slice af ts.length cf] 22)) (Grows (W.alloc (.cells #[.slice af ts.length cf] 22)) (.bool bb))) := Lib.hid (fun W hW => by
        have := P3.out [f] (some ⟨W.heap.size, 0, none⟩) 1 _ (hW.trans (gA W)) (one.out W hW) ok1.out (by simp)
        rwa [hbb] at this)
      have K4 : Hid (∀ W, Gr w2 W → Calls Tryz.prog 33 #[.slice (some ⟨g, 0, none⟩) ts.length c, .slice af ts.length cf, .slice at' ts.length ct, .slice am ms.length cm, .slice (some ⟨W.heap.size, 0, none⟩) 1 1] (W.alloc (.cells #[.slice af ts.length cf] 22)) (Grows (W.alloc (.cells #[.slice af ts.length cf] 22)) (.bool bb))) := Lib.hid (fun W hW => by
        have := P4.out [f] (some ⟨W.heap.size, 0, none⟩) 1 _ (hW.trans (gA W)) (one.out W hW) ok1.out (by simp)
        rwa [hbb] at this)
      clear hg4 hD' h8 P2 P3 P4 hbb gA
      go_wp2_with fail
      refine (K3.out w4 G4.out).mono ?_
      rintro e w5 ⟨rfl, hg5⟩
      have G5 := Lib.hid ((G4.out.alloc _).trans hg5)
      clear hg5 K3
      go_wp2_with fail
      refine (K4.out w5 G5.out).mono ?_
      rintro e w6 ⟨rfl, hg6⟩
      have G6 := Lib.hid ((G5.out.alloc _).trans hg6)
      clear hg6 K4
      have eb : ((!bb) == (!bb)) = true := by simp
      go_wp2_with fail
      refine (FIN.out w6 G6.out).mono ?_
      rintro e w7 ⟨rfl, hg7⟩
      go_wp2_with fail
      go_ret
      exact ⟨rfl, hg7⟩
    | none =>
      obtain rfl := hDn hd
      have HD := Lib.hid hd
      clear hD hDn hDs hd
      go_wp2_with fail
      refine (P2.out w3 G3.out).mono ?_
      rintro e w4 ⟨hg4, D', hD', _, h0⟩
      have hn : D' t = none := by
        have := both_ways DD.out hD' SF.out ST.out C1.out C2.out
        rw [HD.out] at this
        cases e : D' t with
        | none => rfl
        | some x => rw [e] at this; cases this
      obtain ⟨cs, ac, cc, rfl, hsl, hok, hmem, hris⟩ := h0 hn
      have G4 := Lib.hid (G3.out.trans hg4)
      have CK : decide (ChkC (clks ts) (calS (clks ts) ms) f t cs) = true := decide_eq_true (reach_chk hD' hn hmem hris)
      have hlen : cs.length ≤ 1000000 := by have := ris_len hok hris; have := PR.out; omega
      have K3 : Hid (∀ W, Gr w4 W → Calls Tryz.prog 32 #[.slice (some ⟨g, 0, none⟩) ts.length c, .slice af ts.length cf, .slice at' ts.length ct, .slice am ms.length cm, .slice ac cs.length cc] W (Grows W (.bool true))) := Lib.hid (fun W hW => by
        have := P3.out cs ac cc W (G4.out.trans hW) (hsl.gr RSet.mono hW) hok hlen
        rwa [CK] at this)
      have K4 : Hid (Calls Tryz.prog 33 #[.slice (some ⟨g, 0, none⟩) ts.length c, .slice af ts.length cf, .slice at' ts.length ct, .slice am ms.length cm, .slice ac cs.length cc] w4 (Grows w4 (.bool true))) := Lib.hid (by
        have := P4.out cs ac cc w4 G4.out hsl hok hlen
        rwa [CK] at this)
      clear hg4 hD' h0 P2 P3 P4 hn hsl hok hmem hris CK hlen
      go_wp2_with fail
      refine K4.out.mono ?_
      rintro e w5 ⟨rfl, hg5⟩
      have G5 := Lib.hid hg5
      clear hg5 K4
      go_wp2_with fail
      refine (K3.out w5 G5.out).mono ?_
      rintro e w6 ⟨rfl, hg6⟩
      have G6 := Lib.hid (G4.out.trans (G5.out.trans hg6))
      clear hg6 K3
      go_wp2_with fail
      refine (FIN.out w6 G6.out).mono ?_
      rintro e w7 ⟨rfl, hg7⟩
      go_wp2_with fail
      go_ret
      exact ⟨rfl, hg7⟩
end Go.Proofs.YtenehghpmnajpaaGreatDoor
