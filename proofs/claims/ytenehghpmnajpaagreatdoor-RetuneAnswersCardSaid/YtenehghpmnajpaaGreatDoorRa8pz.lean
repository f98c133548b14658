/- Lemmas and contracts for the proof of RetuneAnswers (several texts in one, printed by wip/tools/pack.py): RcG RaB CdB ClG StG. -/
import Derived.Test.YtenehghpmnajpaaGreatDoorRa8py
import Derived.Test.YtenehghpmnajpaaGreatDoorRa8pq
import Derived.Test.YtenehghpmnajpaaGreatDoorRa8pr
import Derived.Test.YtenehghpmnajpaaGreatDoorRa8pt
import Derived.Test.YtenehghpmnajpaaGreatDoorRa8ps
set_option maxRecDepth 100000
set_option maxHeartbeats 16000000
set_option linter.unusedVariables false
set_option linter.unusedSimpArgs false
namespace Go.Proofs.YtenehghpmnajpaaGreatDoor
open Go.RowKit
open Classical
theorem bad_split {l : List Clk} : ∀ {cs : List (List Int)}, ¬ ListOk l cs → ∃ ps x qs, cs = ps ++ x :: qs ∧ ListOk l ps ∧ ¬ SetOk l x := by
  intro cs
  induction cs with
  | nil => intro h; exact absurd (fun s hs => by simp at hs) h
  | cons s cs ih =>
    intro h
    by_cases hs : SetOk l s
    · obtain ⟨ps, x, qs, rfl, h1, h2⟩ := ih (fun q => h (fun y hy => by
        rcases List.mem_cons.1 hy with rfl | hy
        · exact hs
        · exact q y hy))
      exact ⟨s :: ps, x, qs, rfl, fun y hy => by
        rcases List.mem_cons.1 hy with rfl | hy
        · exact hs
        · exact h1 y hy, h2⟩
    · exact ⟨[], s, cs, rfl, fun y hy => by simp at hy, hs⟩
def ChkG (l : List Clk) (ms : List Lmt) (f t : List Int) (cs : List (List Int)) : Prop := e18 l ms f t = 0 ∧ ListOk l cs ∧ ChkC l (calS l ms) f t cs
theorem pCheckBad_any (l : List Clk) (ms : List Lmt) (f t : List Int) (cs ps qs : List (List Int)) (x : List Int) (al am af at' ac : Option Addr) (cl cm cf ct cc : Nat) (w : World) (henv : Env w l ms al am) (hf : SetOk l f) (ht : SetOk l t) (sf : SlOf 1 RI w af f) (st : SlOf 1 RI w at' t) (sc : SlOf 1 RSet w ac cs) (hcx : cs = ps ++ x :: qs) (fx : Fit x.length) (ho : ListOk l ps) (hbx : ¬ SetOk l x) (hcs : cs.length ≤ 1000000) (cf' : calS l ms f = true) (ct' : calS l ms t = true) :
    Calls Tryz.prog 32 #[.slice al l.length cl, .slice af f.length cf, .slice at' t.length ct, .slice am ms.length cm, .slice ac cs.length cc] w (Grows w (.bool false)) := by
  have hnb := small_len (cchk_zero henv.chk).1
  have hfl : f.length = l.length := hf.1
  have htl : t.length = l.length := ht.1
  have BG := begin_any l ms f t al am af at' cl cm cf ct w henv hf ht sf st
  rw [hfl, htl, cf', ct'] at BG
  have HE := Lib.hid henv
  have SF := Lib.hid sf
  have ST := Lib.hid st
  have SC := Lib.hid sc
  have TF := Lib.hid hf
  have TT := Lib.hid ht
  have HO := Lib.hid ho
  have BG' := Lib.hid BG
  have hmm := @run_makeMap Tryz.prog
  have HBX := Lib.hid hbx
  have hpl : ps.length < cs.length := by rw [hcx]; simp
  have PS := Lib.hid (fun (k : Nat) (h : k < ps.length) (h' : k < cs.length) => (show cs[k] = ps[k] by subst hcx; exact List.getElem_append_left h))
  have PX := Lib.hid (fun (h' : ps.length < cs.length) => (show cs[ps.length] = x by subst hcx; simp))
  have SC2 := Lib.hid sc
  clear BG henv hf ht sf st sc ho cf' ct' hcx hbx
  go_enter Tryz.func32, Tryz.ntmps32
  go_wp2_with fail
  refine BG'.out.mono ?_
  rintro e w1 ⟨hg, h0, _⟩
  obtain ⟨BK, rfl, hbk, hmk⟩ := h0 rfl
  have G1 := Lib.hid hg
  have BKL := Lib.hid hbk
  have MK := Lib.hid hmk
  clear h0 hg hbk hmk BG'
  go_wp2_with fail
  obtain ⟨XP, hXP⟩ : ∃ XP : Nat, Hid (w1.heap.size = XP) := ⟨_, Lib.hid rfl⟩
  obtain ⟨BM, hBM⟩ : ∃ BM : Nat, Hid (w1.heap.size + 1 = BM) := ⟨_, Lib.hid rfl⟩
  obtain ⟨BI, hBI⟩ : ∃ BI : Nat, Hid (w1.heap.size + 1 + 1 = BI) := ⟨_, Lib.hid rfl⟩
  rw [hBI.out, hBM.out, hXP.out]
  obtain ⟨W2, hW2⟩ : ∃ W2 : World, Hid (W2 = ((w1.alloc (.cells #[.slice al l.length cl, .slice am ms.length cm, .map (some BK)] 127)).alloc (.map #[] 0)).alloc (.cells #[.map (some BM)] 125)) := ⟨_, Lib.hid rfl⟩
  rw [← hW2.out]
  have H0 : Hid (HSt l ms al am cl cm BK XP BI BM ps w 0 W2) := Lib.hid (by
    rw [hW2.out]
    refine ⟨⟨?_, ?_, ((G1.out.alloc _).alloc _).alloc _, ((G1.out.alloc _).alloc _).alloc _ |>.size⟩, ?_, ?_, trivial⟩
    · rw [← hXP.out]; exact ((Row.new w1 _ _).alloc _).alloc _
    · exact ⟨[], MK.out.gr ((((Gr.refl _).alloc _).alloc _).alloc _), by simp, by simp⟩
    · exact row_new' _ _ _ _ (by rw [← hBI.out]; simp)
    · have := MapV.made (w1.alloc (.cells #[.slice al l.length cl, .slice am ms.length cm, .map (some BK)] 127)) 4 Lit.bool
      have := this.gr ((Gr.refl _).alloc (.cells #[.map (some BM)] 125))
      have e : (w1.alloc (.cells #[.slice al l.length cl, .slice am ms.length cm, .map (some BK)] 127)).heap.size = BM := by rw [← hBM.out]; simp
      rw [e] at this
      simpa [entV] using this)
  have xp : Hid (w.heap.size ≤ XP) := Lib.hid (by have := hXP.out; have := G1.out.size; omega)
  have bm : Hid (w.heap.size ≤ BM) := Lib.hid (by have := hBM.out; have := G1.out.size; omega)
  have bi : Hid (w.heap.size ≤ BI) := Lib.hid (by have := hBI.out; have := G1.out.size; omega)
  have nmk : Hid (BM ≠ BK) := Lib.hid (by have := hBM.out; have := MK.out.has; unfold Has at this; omega)
  clear hW2 hmm G1 MK hXP hBM hBI
  go_loopw [14, 33] (fun s14 s33 wr => ∃ k : Nat, s33 = .int .i64 (k : Int) ∧ s14 = .int .i64 (lastN l ps k) ∧ k ≤ ps.length ∧ HSt l ms al am cl cm BK XP BI BM ps w k wr) (fun _ s33 _ => ps.length - (intOf s33).toNat)
  case atStart => exact ⟨0, rfl, rfl, Nat.zero_le _, H0.out⟩
  case round =>
    clear H0
    obtain ⟨k, rfl, rfl, hk, hS⟩ := hrel
    have HS := Lib.hid hS
    have lb := lastN_bound HE.out.chk HO.out hk
    by_cases hlp : k < ps.length
    · have hlt : k < cs.length := by omega
      have k2 : (k : Int) < cs.length := by omega
      obtain ⟨b, o, rfl, a, c, q0, hsl⟩ := (SC.out.gr RSet.mono hS.pb.gr).one k hlt
      have hsk := HO.out _ (List.getElem_mem hlp)
      rw [PS.out k hlp hlt] at q0 hsl
      obtain ⟨s, hs⟩ : ∃ s, ps[k] = s := ⟨_, rfl⟩
      rw [hs] at q0 hsl hsk
      rw [hsk.1] at q0
      have HSK := Lib.hid hs
      have SK := Lib.hid hsk
      have SL := Lib.hid hsl
      have S1 : Hid (Calls Tryz.prog 86 #[.slice al l.length cl, .slice a l.length c] wr (Grows wr (.bool true))) := Lib.hid (by
        have := pSetting_any l s al a cl c wr (clks_gr HE.out.clks hS.pb.gr) hsl (by unfold Fit; omega) (by rw [hsk.1]; unfold Fit; omega)
        rwa [decide_eq_true ⟨HE.out.chk, hsk⟩, hsk.1] at this)
      have NM := number_any l s al a am cl c ms.length cm (.map (some BK))
      have N1 : Hid (∀ W, Gr wr W → Calls Tryz.prog 81 #[.agg #[.slice al l.length cl, .slice am ms.length cm, .map (some BK)], .slice a l.length c] W (Grows W (.int .i64 (num l s)))) := Lib.hid (fun W hW => by
        have := NM W (clks_gr HE.out.clks (hS.pb.gr.trans hW)) (hsl.giI hW) HE.out.chk hsk
        rwa [hsk.1] at this)
      have NB := num_small HE.out.chk hsk
      obtain ⟨m, hm⟩ : ∃ m, num l s = m := ⟨_, rfl⟩
      obtain ⟨last, hlast⟩ : ∃ last, lastN l ps k = last := ⟨_, rfl⟩
      rw [hm] at N1 NB
      rw [hlast] at lb ⊢
      have HM := Lib.hid hm
      have HL := Lib.hid hlast
      have qh := has_of_cell q0
      clear hS hs hsk hsl NM hm hlast
      go_wp2_with fail
      refine S1.out.mono ?_
      rintro e w3 ⟨rfl, hg3⟩
      have G3 := Lib.hid hg3
      have y0 := (HS.out.pb.box.gr hg3).cell 0 (by simp)
      have y1 := (HS.out.pb.box.gr hg3).cell 1 (by simp)
      have y2 := (HS.out.pb.box.gr hg3).cell 2 (by simp)
      have yh := (HS.out.pb.box.gr hg3).has
      simp only [List.getElem_cons_zero, List.getElem_cons_succ] at y0 y1 y2
      clear hg3 S1 q0 qh
      go_wp2_with fail
      refine (N1.out w3 G3.out).mono ?_
      rintro e w4 ⟨rfl, hg4⟩
      have S4 := Lib.hid (HS.out.grow (G3.out.trans hg4))
      clear hg4 N1 G3 y0 y1 y2 yh HS
      have y0 := S4.out.pb.box.cell 0 (by simp)
      have y1 := S4.out.pb.box.cell 1 (by simp)
      have y2 := S4.out.pb.box.cell 2 (by simp)
      have yh := S4.out.pb.box.has
      simp only [List.getElem_cons_zero, List.getElem_cons_succ] at y0 y1 y2
      by_cases hml : last < m
      · have hb : decide (m ≤ last) = false := decide_eq_false (by omega)
        have SCm := scalm_any l ms s al am cl cm BK w4 (HE.out.gr S4.out.pb.gr) SK.out S4.out.pb.kn
        rw [HM.out] at SCm
        have SC' := Lib.hid SCm
        have ML := Lib.hid hml
        clear SCm hml
        cases hc : calS l ms s with
        | false =>
          rw [hc] at SC'
          have HC := Lib.hid hc
          clear hc
          go_wp2_with fail
          refine SC'.out.mono ?_
          rintro e w5 ⟨rfl, hk5, hg5⟩
          have S5 := Lib.hid (S4.out.known BKL.out nmk.out hg5 hk5)
          clear hk5 hg5
          go_wp2_with fail
          go_ret
          exact ⟨rfl, S5.out.pb.gr⟩
        | true =>
          rw [hc] at SC'
          have HC := Lib.hid hc
          clear hc
          go_wp2_with fail
          refine SC'.out.mono ?_
          rintro e w5 ⟨rfl, hk5, hg5⟩
          have S5 := Lib.hid (S4.out.known BKL.out nmk.out hg5 hk5)
          clear hk5 hg5 y0 y1 y2 yh S4
          go_wp2_with fail
          have hlk : look (entV l (ps.take k)) m = none := by
            rw [← HM.out, ← HSK.out]
            exact look_ent_new hlp S5.out.ris (by rw [HL.out, HSK.out, HM.out]; exact ML.out)
          have SR := run_store_bool (w := w5.drew) (S5.out.map.gr (Gr.refl _).drew) (k := m) (by rw [← HM.out]; exact wide_num HE.out.chk SK.out) hlk (by rw [entV_len, List.length_take]; unfold maxLen; omega) true
          refine wp_code_eq (c := Code.region 14 (regIn 14 Tryz.f32) true) (by kernel_rfl) (ch14 (R := fun w' => MapB w' BM (entV l (ps.take k) ++ [(m, true)]) ∧ w5.drew.grownBy w' (some BM)) (wr := w5) (n := m) (BI := BI) (BM := BM) S5.out.bi SR ?_)
          intro t53 t54 t55 wx hx
          simp only [ch14A]
          have S6 : Hid (HSt l ms al am cl cm BK XP BI BM ps w (k + 1) wx) := Lib.hid ((S5.out.grow (Gr.refl _).drew).put bm.out nmk.out hlp (by rw [HSK.out]; exact HC.out) (by rw [HL.out, HSK.out, HM.out]; exact ML.out) hx.2 (by rw [HSK.out, HM.out]; exact hx.1))
          clear hx SR hlk
          go_wp2_with fail
          go_roundw
          case rel => exact ⟨k + 1, by go_num, by rw [← HM.out, ← HSK.out]; simp only [lastN]; rw [getD_at hlp], by omega, S6.out⟩
          case measure => simp [intOf]; omega
      · have hb : decide (m ≤ last) = true := decide_eq_true (by omega)
        have ML := Lib.hid hml
        clear hml
        go_wp2_with fail
        go_ret
        exact ⟨rfl, S4.out.pb.gr⟩
    · obtain rfl : k = ps.length := by omega
      have k2 : (ps.length : Int) < cs.length := by omega
      obtain ⟨b, o, rfl, a, c, q0, hsl⟩ := (SC2.out.gr RSet.mono hS.pb.gr).one ps.length hpl
      rw [PX.out hpl] at q0 hsl
      have S1 : Hid (Calls Tryz.prog 86 #[.slice al l.length cl, .slice a x.length c] wr (Grows wr (.bool false))) := Lib.hid (by
        have := pSetting_any l x al a cl c wr (clks_gr HE.out.clks hS.pb.gr) hsl (by unfold Fit; omega) fx
        rwa [decide_eq_false (fun q => HBX.out q.2)] at this)
      have qh := has_of_cell q0
      clear hS hsl
      go_wp2_with fail
      refine S1.out.mono ?_
      rintro e w3 ⟨rfl, hg3⟩
      have G3 := Lib.hid (HS.out.pb.gr.trans hg3)
      clear hg3 S1 q0 qh
      go_wp2_with fail
      go_ret
      exact ⟨rfl, G3.out⟩
theorem rCheckBad_any (l : List Clk) (ms : List Lmt) (f t : List Int) (cs ps qs : List (List Int)) (x : List Int) (al am af at' ac : Option Addr) (cl cm cf ct cc : Nat) (w : World) (henv : Env w l ms al am) (hf : SetOk l f) (ht : SetOk l t) (sf : SlOf 1 RI w af f) (st : SlOf 1 RI w at' t) (sc : SlOf 1 RSet w ac cs) (hcx : cs = ps ++ x :: qs) (fx : Fit x.length) (ho : ListOk l ps) (hbx : ¬ SetOk l x) (hcs : cs.length ≤ 1000000) (cf' : calS l ms f = true) (ct' : calS l ms t = true) :
    Calls Tryz.prog 33 #[.slice al l.length cl, .slice af f.length cf, .slice at' t.length ct, .slice am ms.length cm, .slice ac cs.length cc] w (Grows w (.bool false)) := by
  have hnb := small_len (cchk_zero henv.chk).1
  have hfl : f.length = l.length := hf.1
  have htl : t.length = l.length := ht.1
  have BG := refBegin3_any l ms f t al am af at' cl cm cf ct w henv hf ht sf st cf' ct'
  rw [hfl, htl] at BG
  have HE := Lib.hid henv
  have SF := Lib.hid sf
  have ST := Lib.hid st
  have SC := Lib.hid sc
  have TF := Lib.hid hf
  have TT := Lib.hid ht
  have HO := Lib.hid ho
  have BG' := Lib.hid BG
  have CN := Lib.hid (fun W (hW : Gr w W) => refCount_any l al cl W (clks_gr henv.clks hW) henv.chk)
  have PR := (cchk_zero henv.chk).2.2.1
  have NB := Lib.hid (cchk_zero henv.chk).1
  obtain ⟨N, hN⟩ : ∃ N, prodC l = N := ⟨_, rfl⟩
  have EN := Lib.hid hN
  rw [hN] at PR CN
  obtain ⟨i0, hi, hz0, hz1, hz2⟩ := info_parts infoBool
  have hmk : ∀ W : World, (Instr.makeSlice 88 (.int .i64 (N : Int)) (.int .i64 (N : Int))).run Tryz.prog W = .ok (.slice (some ⟨W.heap.size, 0, none⟩) N N) (W.alloc (.cells (madeCells #[.bool false] N) 4)) := fun W => by
    have hr := run_make (P := Tryz.prog) W 88 4 i0 (.bool false) Tryz.underlying88 hi hz0 .i64 .i64 N N (by omega) (Int.le_refl _) (by rw [hz2]; omega) (by omega)
    simp only [Int.toNat_natCast, hz1, Nat.mul_one] at hr
    exact hr
  have HBX := Lib.hid hbx
  have hpl : ps.length < cs.length := by rw [hcx]; simp
  have PS := Lib.hid (fun (k : Nat) (h : k < ps.length) (h' : k < cs.length) => (show cs[k] = ps[k] by subst hcx; exact List.getElem_append_left h))
  have PX := Lib.hid (fun (h' : ps.length < cs.length) => (show cs[ps.length] = x by subst hcx; simp))
  have SC2 := Lib.hid sc
  have FX := Lib.hid fx
  clear BG henv hf ht sf st sc ho cf' ct' hcx hbx hN fx
  go_enter Tryz.func33, Tryz.ntmps33
  go_wp2_with fail
  refine BG'.out.mono ?_
  rintro e w1 ⟨rfl, hg1⟩
  have G1 := Lib.hid hg1
  clear hg1 BG'
  go_wp2_with fail
  refine (CN.out w1 G1.out).mono ?_
  rintro e w2 ⟨rfl, hg2⟩
  have G2 := Lib.hid (G1.out.trans hg2)
  clear hg2 CN G1
  go_wp2_with fail
  obtain ⟨IN, hIN⟩ : ∃ IN : Nat, Hid (w2.heap.size = IN) := ⟨_, Lib.hid rfl⟩
  rw [hIN.out]
  obtain ⟨W3, hW3⟩ : ∃ W3 : World, Hid (W3 = w2.alloc (.cells (madeCells #[.bool false] N) 4)) := ⟨_, Lib.hid rfl⟩
  rw [← hW3.out]
  have R3 : Hid (Row W3 IN 4 (bools (inV l ps N 0))) := Lib.hid (by
    have := Row.new w2 (madeCells #[.bool false] N) 4
    rw [made_false, ← hW3.out, hIN.out] at this
    rwa [inV_zero])
  have G3 : Hid (Gr w W3) := Lib.hid (by rw [hW3.out]; exact G2.out.alloc _)
  have LIN : Hid (w.heap.size ≤ IN) := Lib.hid (by have := hIN.out; have := G2.out.size; omega)
  clear hW3 hIN G2 hmk
  go_loopw [12, 32] (fun s12 s32 wr => ∃ k : Nat, s32 = .int .i64 (k : Int) ∧ s12 = .int .i64 (lastN l ps k) ∧ k ≤ ps.length ∧ risTo l (calS l ms) ps k ∧ Row wr IN 4 (bools (inV l ps N k)) ∧ Gr w wr) (fun _ s32 _ => ps.length - (intOf s32).toNat)
  case atStart => exact ⟨0, rfl, rfl, Nat.zero_le _, trivial, R3.out, G3.out⟩
  case round =>
    clear R3 G3
    obtain ⟨k, rfl, rfl, hk, hris, hrow, hg⟩ := hrel
    have RS := Lib.hid hris
    have RW := Lib.hid hrow
    have HG := Lib.hid hg
    have lb := lastN_bound HE.out.chk HO.out hk
    by_cases hlp : k < ps.length
    · have hlt : k < cs.length := by omega
      have k2 : (k : Int) < cs.length := by omega
      obtain ⟨b, o, rfl, a, c, q0, hsl⟩ := (SC.out.gr RSet.mono hg).one k hlt
      have hsk := HO.out _ (List.getElem_mem hlp)
      rw [PS.out k hlp hlt] at q0 hsl
      obtain ⟨s, hs⟩ : ∃ s, ps[k] = s := ⟨_, rfl⟩
      rw [hs] at q0 hsl hsk
      rw [hsk.1] at q0
      have HSK := Lib.hid hs
      have SK := Lib.hid hsk
      have CA : Hid (Calls Tryz.prog 41 #[.slice al l.length cl, .slice a l.length c, .slice am ms.length cm] wr (Grows wr (.bool (calS l ms s)))) := Lib.hid (by
        have := refCalm_any l ms s al a am cl c cm wr (clks_gr HE.out.clks hg) hsl (lmts_gr HE.out.lmts hg) HE.out.chk hsk HE.out.lims
        rwa [hsk.1] at this)
      have N1 : Hid (∀ W, Gr wr W → Calls Tryz.prog 91 #[.slice al l.length cl, .slice a l.length c] W (Grows W (.int .i64 (num l s)))) := Lib.hid (fun W hW => by
        have := refNumber_any l s al a cl c W (clks_gr HE.out.clks (hg.trans hW)) (hsl.giI hW) HE.out.chk hsk
        rwa [hsk.1] at this)
      have NBs := num_bound hsk
      rw [EN.out] at NBs
      obtain ⟨m, hm⟩ : ∃ m : Nat, num l s = (m : Int) := ⟨(num l s).toNat, by omega⟩
      obtain ⟨last, hlast⟩ : ∃ last, lastN l ps k = last := ⟨_, rfl⟩
      rw [hm] at N1 NBs
      rw [hlast] at lb ⊢
      have HM := Lib.hid hm
      have HL := Lib.hid hlast
      have qh := has_of_cell q0
      clear hris hrow hs hsk hsl hm hlast
      cases hc : calS l ms s with
      | false =>
        rw [hc] at CA
        have HC := Lib.hid hc
        clear hc hg
        go_wp2_with fail
        refine CA.out.mono ?_
        rintro e w3 ⟨rfl, hg3⟩
        have G3 := Lib.hid (HG.out.trans hg3)
        clear hg3
        go_wp2_with fail
        go_ret
        exact ⟨rfl, G3.out⟩
      | true =>
        rw [hc] at CA
        have HC := Lib.hid hc
        clear hc hg
        go_wp2_with fail
        refine CA.out.mono ?_
        rintro e w3 ⟨rfl, hg3⟩
        have G3 := Lib.hid hg3
        clear hg3 CA
        go_wp2_with fail
        refine (N1.out w3 G3.out).mono ?_
        rintro e w4 ⟨rfl, hg4⟩
        have G4 := Lib.hid (G3.out.trans hg4)
        clear hg4 G3
        by_cases hml : last < (m : Int)
        · have hb : decide ((m : Int) ≤ last) = false := decide_eq_false (by omega)
          have ML := Lib.hid hml
          clear hml
          go_wp2_with fail
          refine (N1.out w4 G4.out).mono ?_
          rintro e w5 ⟨rfl, hg5⟩
          have G5 := Lib.hid (G4.out.trans hg5)
          have r5 := RW.out.gr G5.out
          have c5 := r5.cell m (by rw [bools_len, inV_len]; omega)
          have f5 := r5.free m
          have h5 := r5.has
          have R5 := Lib.hid r5
          have m2 : (m : Int) < (N : Int) := NBs.2
          clear hg5 G4 r5
          go_wp2_with fail
          go_roundw
          case rel =>
            refine ⟨k + 1, by go_num, by rw [← HM.out, ← HSK.out]; simp only [lastN]; rw [getD_at hlp], by omega, ⟨RS.out, by rw [getD_at hlp, HSK.out]; exact HC.out, by rw [getD_at hlp, HSK.out, HM.out, HL.out]; exact ML.out⟩, ?_, (HG.out.trans G5.out).setc LIN.out⟩
            have := R5.out.bset m true
            rwa [inV_step hlp (by rw [HSK.out]; exact HM.out)] at this
          case measure => simp [intOf]; omega
        · have hb : decide ((m : Int) ≤ last) = true := decide_eq_true (by omega)
          have ML := Lib.hid hml
          clear hml
          go_wp2_with fail
          go_ret
          exact ⟨rfl, HG.out.trans G4.out⟩
    · obtain rfl : k = ps.length := by omega
      have k2 : (ps.length : Int) < cs.length := by omega
      obtain ⟨b, o, rfl, a, c, q0, hsl⟩ := (SC2.out.gr RSet.mono hg).one ps.length hpl
      rw [PX.out hpl] at q0 hsl
      have CA : Hid (Calls Tryz.prog 41 #[.slice al l.length cl, .slice a x.length c, .slice am ms.length cm] wr (Grows wr (.bool false))) := Lib.hid (by
        have := refCalmG_any l ms x al a am cl c cm wr (clks_gr HE.out.clks hg) hsl (lmts_gr HE.out.lmts hg) (by unfold Fit; omega) FX.out (by have := HE.out.lims.1; unfold Fit; omega)
        unfold calG at this
        rwa [decide_eq_false (fun q => HBX.out q.2 : ¬ (cchk l = 0 ∧ SetOk l x)), Bool.false_and, Bool.and_false] at this)
      have qh := has_of_cell q0
      clear hg hsl hris hrow
      go_wp2_with fail
      refine CA.out.mono ?_
      rintro e w3 ⟨rfl, hg3⟩
      have G3 := Lib.hid (HG.out.trans hg3)
      clear hg3 CA q0 qh
      go_wp2_with fail
      go_ret
      exact ⟨rfl, G3.out⟩
theorem pCheckG_any (l : List Clk) (ms : List Lmt) (f t : List Int) (cs : List (List Int)) (al am af at' ac : Option Addr) (cl cm cf ct cc : Nat) (w : World) (h : Env18 w l ms f t al am af at') (sc : SlOf 1 RSet w ac cs) (hcs : cs.length ≤ 1000000) (fs : ∀ s ∈ cs, Fit s.length) :
    Calls Tryz.prog 32 #[.slice al l.length cl, .slice af f.length cf, .slice at' t.length ct, .slice am ms.length cm, .slice ac cs.length cc] w (Grows w (.bool (decide (ChkG l ms f t cs)))) := by
  by_cases h0 : e18 l ms f t = 0
  · obtain ⟨lo, fo, tO, fc, tc⟩ := e18_zero h0
    by_cases ho : ListOk l cs
    · have := pCheck3_any l ms f t cs al am af at' ac cl cm cf ct cc w (h.env lo) fo tO h.sf h.st sc ho hcs fc tc
      rwa [show decide (ChkG l ms f t cs) = decide (ChkC l (calS l ms) f t cs) from by
        rw [decide_eq_decide]; exact ⟨fun q => q.2.2, fun q => ⟨h0, ho, q⟩⟩]
    · rw [decide_eq_false (fun q => ho q.2.1 : ¬ ChkG l ms f t cs)]
      obtain ⟨ps, x, qs, hcx, o1, o2⟩ := bad_split ho
      exact pCheckBad_any l ms f t cs ps qs x al am af at' ac cl cm cf ct cc w (h.env lo) fo tO h.sf h.st sc hcx (fs x (by rw [hcx]; simp)) o1 o2 hcs fc tc
  · rw [decide_eq_false (fun q => h0 q.1 : ¬ ChkG l ms f t cs)]
    have BG := Lib.hid (pBegin18_any l ms f t al am af at' cl cm cf ct w h)
    obtain ⟨E, hE⟩ : ∃ E, e18 l ms f t = E := ⟨_, rfl⟩
    unfold Begun18 at BG
    rw [hE] at BG h0
    have hb : (E != 0) = true := by simp [h0]
    have H0 := Lib.hid h0
    clear hE h h0 sc fs
    go_enter Tryz.func32, Tryz.ntmps32
    go_wp2_with fail
    refine BG.out.mono ?_
    rintro e w1 ⟨hg, _, h7⟩
    obtain rfl := h7 H0.out
    have G1 := Lib.hid hg
    clear h7 hg
    go_wp2_with fail
    go_ret
    exact ⟨rfl, by first | exact G1.out.alloc _ | exact G1.out⟩
theorem refCheck3G_any (l : List Clk) (ms : List Lmt) (f t : List Int) (cs : List (List Int)) (al am af at' ac : Option Addr) (cl cm cf ct cc : Nat) (w : World) (h : Env18 w l ms f t al am af at') (sc : SlOf 1 RSet w ac cs) (hcs : cs.length ≤ 1000000) (fs : ∀ s ∈ cs, Fit s.length) :
    Calls Tryz.prog 33 #[.slice al l.length cl, .slice af f.length cf, .slice at' t.length ct, .slice am ms.length cm, .slice ac cs.length cc] w (Grows w (.bool (decide (ChkG l ms f t cs)))) := by
  by_cases h0 : e18 l ms f t = 0
  · obtain ⟨lo, fo, tO, fc, tc⟩ := e18_zero h0
    by_cases ho : ListOk l cs
    · have := rCheck3_any l ms f t cs al am af at' ac cl cm cf ct cc w (h.env lo) fo tO h.sf h.st sc ho hcs fc tc
      rwa [show decide (ChkG l ms f t cs) = decide (ChkC l (calS l ms) f t cs) from by
        rw [decide_eq_decide]; exact ⟨fun q => q.2.2, fun q => ⟨h0, ho, q⟩⟩]
    · rw [decide_eq_false (fun q => ho q.2.1 : ¬ ChkG l ms f t cs)]
      obtain ⟨ps, x, qs, hcx, o1, o2⟩ := bad_split ho
      exact rCheckBad_any l ms f t cs ps qs x al am af at' ac cl cm cf ct cc w (h.env lo) fo tO h.sf h.st sc hcx (fs x (by rw [hcx]; simp)) o1 o2 hcs fc tc
  · rw [decide_eq_false (fun q => h0 q.1 : ¬ ChkG l ms f t cs)]
    have BG := Lib.hid (refBegin18_any l ms f t al am af at' cl cm cf ct w h)
    obtain ⟨E, hE⟩ : ∃ E, e18 l ms f t = E := ⟨_, rfl⟩
    rw [hE] at BG h0
    have hb : (E != 0) = true := by simp [h0]
    clear hE h h0 sc fs
    go_enter Tryz.func33, Tryz.ntmps33
    go_wp2_with fail
    refine BG.out.mono ?_
    rintro e w1 ⟨rfl, hg⟩
    have G1 := Lib.hid hg
    clear hg
    go_wp2_with fail
    go_ret
    exact ⟨rfl, G1.out⟩
theorem raB {Q : Exit → Act → World → Prop} {s0 s1 s2 s3 s4 s5 s6 s7 s8 s9 s10 s11 s12 s13 s14 s15 s16 s17 s18 s19 s20 s21 s22 s24 s26 s28 s29 s30 s31 s32 s33 s34 s35 s36 s37 s38 s39 s40 s41 s42 s43 s44 s45 s46 s47 s48 s49 s50 s51 s52 s53 s54 s55 s56 s57 s58 s59 s60 s61 s62 s63 s64 s65 s66 s67 s68 s69 s70 s71 s72 s73 s74 s75 s76 s77 s78 s79 s80 s81 s82 s83 s84 s85 s86 s87 s88 s89 s90 s91 s92 s93 s94 s95 s96 s97 s98 s99 s100 s101 s102 s103 s104 s105 s106 s107 s108 s109 s110 s111 s112 s113 s114 s115 s116 s117 s118 s119 s120 s121 s122 s123 s124 s125 s126 s127 s128 s129 s130 s131 s132 s133 s134 s135 s136 s137 s138 s139 s140 s141 s142 s143 s144 s145 s146 s147 s148 s149 s150 s151 s152 s153 s154 s155 s156 s157 s158 s159 s160 s161 s162 s163 s164 s165 s166 s167 s168 s169 s170 s171 s172 s173 s174 s175 s176 s177 s178 s179 s180 s181 s182 s183 s184 s185 s186 s187 s188 s189 s190 s191 s192 s193 s194 s195 s196 s197 s198 s199 s200 s201 s202 s203 s204 s208 s209 s210 s211 s212 s213 s214 s215 s216 s217 s218 s219 s220 s221 s222 s223 s224 s225 s226 s227 s228 s229 s230 s231 s232 s233 s234 s235 s236 s237 s238 s239 s240 s241 s242 s243 s244 s245 s246 s247 s248 s249 s250 s251 s252 s253 s254 s255 s256 s257 s258 s259 s260 s261 s262 s263 s264 s265 s266 s267 s268 s269 s270 s271 s272 s273 s274 s275 s276 s277 s278 s279 s280 s281 s282 s283 s284 s285 s286 s287 s288 s289 s290 s291 s292 s293 s294 s295 s296 : Value} {l : List Clk} {ms : List Lmt} {f t : List Int} {al am af at' : Option Addr} {cl cm cf ct gz Y : Nat} {W0 : World}
    (E : Env18 W0 l ms f t al am af at') (YB : Row W0 Y 67 [.slice af f.length cf, .slice at' t.length ct]) (Z : ∀ k, k < 3 → ∃ (a : Option Addr) (q : List (List Int)) (c : Nat), W0.cell? ⟨gz, k, none⟩ = some (.slice a q.length c) ∧ SlOf 1 RSet W0 a q ∧ q.length ≤ 1000000 ∧ ∀ s ∈ q, Fit s.length)
    (h : ∀ (t14 t37 t207 t208 t209 t210 t211 t212 t213 t214 t215 t216 t217 t218 t219 t220 t221 t222 t223 t224 t225 t226 t227 t228 : Value) (wx : World), Gr W0 wx → Q (.exit 6) { tmps := #[s0, s1, s2, s3, s4, s5, s6, s7, s8, s9, s10, s11, s12, s13, t14, s15, s16, s17, s18, s19, s20, s21, s22, .slice al l.length cl, s24, .slice am ms.length cm, s26, .pointer (some ⟨Y, 0, none⟩), s28, s29, s30, s31, s32, s33, s34, s35, s36, t37, s38, s39, s40, s41, s42, s43, s44, s45, s46, s47, s48, s49, s50, s51, s52, s53, s54, s55, s56, s57, s58, s59, s60, s61, s62, s63, s64, s65, s66, s67, s68, s69, s70, s71, s72, s73, s74, s75, s76, s77, s78, s79, s80, s81, s82, s83, s84, s85, s86, s87, s88, s89, s90, s91, s92, s93, s94, s95, s96, s97, s98, s99, s100, s101, s102, s103, s104, s105, s106, s107, s108, s109, s110, s111, s112, s113, s114, s115, s116, s117, s118, s119, s120, s121, s122, s123, s124, s125, s126, s127, s128, s129, s130, s131, s132, s133, s134, s135, s136, s137, s138, s139, s140, s141, s142, s143, s144, s145, s146, s147, s148, s149, s150, s151, s152, s153, s154, s155, s156, s157, s158, s159, s160, s161, s162, s163, s164, s165, s166, s167, s168, s169, s170, s171, s172, s173, s174, s175, s176, s177, s178, s179, s180, s181, s182, s183, s184, s185, s186, s187, s188, s189, s190, s191, s192, s193, s194, s195, s196, s197, s198, s199, s200, s201, s202, s203, s204, .slice (some ⟨gz, 0, none⟩) 3 3, .int .i64 3, t207, t208, t209, t210, t211, t212, t213, t214, t215, t216, t217, t218, t219, t220, t221, t222, t223, t224, t225, t226, t227, t228, s229, s230, s231, s232, s233, s234, s235, s236, s237, s238, s239, s240, s241, s242, s243, s244, s245, s246, s247, s248, s249, s250, s251, s252, s253, s254, s255, s256, s257, s258, s259, s260, s261, s262, s263, s264, s265, s266, s267, s268, s269, s270, s271, s272, s273, s274, s275, s276, s277, s278, s279, s280, s281, s282, s283, s284, s285, s286, s287, s288, s289, s290, s291, s292, s293, s294, s295, s296], defers := [] } wx) :
    (codeIn 6 Tryz.f5).wp Tryz.prog Q { tmps := #[s0, s1, s2, s3, s4, s5, s6, s7, s8, s9, s10, s11, s12, s13, s14, s15, s16, s17, s18, s19, s20, s21, s22, .slice al l.length cl, s24, .slice am ms.length cm, s26, .pointer (some ⟨Y, 0, none⟩), s28, s29, s30, s31, s32, s33, s34, s35, s36, s37, s38, s39, s40, s41, s42, s43, s44, s45, s46, s47, s48, s49, s50, s51, s52, s53, s54, s55, s56, s57, s58, s59, s60, s61, s62, s63, s64, s65, s66, s67, s68, s69, s70, s71, s72, s73, s74, s75, s76, s77, s78, s79, s80, s81, s82, s83, s84, s85, s86, s87, s88, s89, s90, s91, s92, s93, s94, s95, s96, s97, s98, s99, s100, s101, s102, s103, s104, s105, s106, s107, s108, s109, s110, s111, s112, s113, s114, s115, s116, s117, s118, s119, s120, s121, s122, s123, s124, s125, s126, s127, s128, s129, s130, s131, s132, s133, s134, s135, s136, s137, s138, s139, s140, s141, s142, s143, s144, s145, s146, s147, s148, s149, s150, s151, s152, s153, s154, s155, s156, s157, s158, s159, s160, s161, s162, s163, s164, s165, s166, s167, s168, s169, s170, s171, s172, s173, s174, s175, s176, s177, s178, s179, s180, s181, s182, s183, s184, s185, s186, s187, s188, s189, s190, s191, s192, s193, s194, s195, s196, s197, s198, s199, s200, s201, s202, s203, s204, .slice (some ⟨gz, 0, none⟩) 3 3, .int .i64 3, .int .i64 0, s208, s209, s210, s211, s212, s213, s214, s215, s216, s217, s218, s219, s220, s221, s222, s223, s224, s225, s226, s227, s228, s229, s230, s231, s232, s233, s234, s235, s236, s237, s238, s239, s240, s241, s242, s243, s244, s245, s246, s247, s248, s249, s250, s251, s252, s253, s254, s255, s256, s257, s258, s259, s260, s261, s262, s263, s264, s265, s266, s267, s268, s269, s270, s271, s272, s273, s274, s275, s276, s277, s278, s279, s280, s281, s282, s283, s284, s285, s286, s287, s288, s289, s290, s291, s292, s293, s294, s295, s296], defers := [] } W0 := by
  have HQ := PLift.up h
  clear h
  simp only [codeIn, Tryz.f5, codeOf, Option.bind_some, Option.getD_some, Nat.beq, cond_true, cond_false]
  have EE := Lib.hid E
  have YY := Lib.hid YB
  have ZZ := Lib.hid Z
  clear E YB Z
  go_loopw [207] (fun s wi => ∃ j : Nat, j ≤ 3 ∧ s = .int .i64 j ∧ Gr W0 wi) (fun s _ => 3 - (intOf s).toNat)
  case atStart => exact ⟨0, Nat.zero_le _, rfl, Gr.refl _⟩
  case round =>
    obtain ⟨j, hj, rfl, hg⟩ := hrel
    have GG := Lib.hid hg
    clear hg
    by_cases hl : j < 3
    · have j3 : (j : Int) < 3 := by omega
      obtain ⟨a, q, c, hc, hs, hq, hf⟩ := ZZ.out j hl
      have hc' := cell_gr GG.out hc
      have hh := has_of_cell hc'
      have PC := Lib.hid (fun W (hW : Gr wr W) => pCheckG_any l ms f t q al am af at' a cl cm cf ct c W (EE.out.gr (GG.out.trans hW)) (hs.gr RSet.mono (GG.out.trans hW)) hq hf)
      have RC := Lib.hid (fun W (hW : Gr wr W) => refCheck3G_any l ms f t q al am af at' a cl cm cf ct c W (EE.out.gr (GG.out.trans hW)) (hs.gr RSet.mono (GG.out.trans hW)) hq hf)
      obtain ⟨B, hB⟩ : ∃ B, decide (ChkG l ms f t q) = B := ⟨_, rfl⟩
      rw [hB] at PC RC
      have r := YY.out.gr GG.out
      have y0 := r.cell 0 (by simp)
      have y1 := r.cell 1 (by simp)
      have yh := r.has
      simp only [List.getElem_cons_zero, List.getElem_cons_succ] at y0 y1
      have hbb : (B != B) = false := by simp
      clear hc hs hq hf hB r
      go_wp2_with fail
      refine wp_region_grows (by kernel_rfl) (by kernel_rfl) ?_
      repeat (go_big_quiet_step (first | (go_at_call 32; exact calls_grows (PC.out _ (by repeat (first | with_reducible exact Gr.refl _ | with_reducible refine Gr.drewN _ ?_ | with_reducible refine Gr.xt _ _ ?_)))) | (go_at_call 33; exact calls_grows (RC.out _ (by repeat (first | with_reducible exact Gr.refl _ | with_reducible refine Gr.drewN _ ?_ | with_reducible refine Gr.xt _ _ ?_))))))
      refine wpQuiet_nil ?_
      rintro _ ⟨⟨O, d⟩, rfl⟩
      have G2 := Lib.hid (GG.out.xt O d)
      clear hc' hh y0 y1 yh PC RC
      go_wp2_with fail
      go_roundw
      case rel => exact ⟨j + 1, by omega, by simp, G2.out⟩
      case measure => simp [intOf]; omega
    · obtain rfl : j = 3 := by omega
      go_wp2_with fail
      exact HQ.down _ _ _ _ _ _ _ _ _ _ _ _ _ _ _ _ _ _ _ _ _ _ _ _ _ GG.out
def GivesClosed (w : World) (l : List Clk) (ms : List Lmt) (f t : List Int) (e : Ending) (w' : World) : Prop :=
  Gr w w' ∧ ∃ D, DistOk l (calS l ms) f D ∧ ((D t).isSome = true → e = .returned (.tuple #[.slice none 0 0, .int .i64 8])) ∧
    (D t = none → ∃ (cs : List (List Int)) (a : Option Addr) (c : Nat), e = .returned (.tuple #[.slice a cs.length c, .int .i64 0]) ∧ SlOf 1 RSet w' a cs ∧ ListOk l cs ∧ (∀ s, s ∈ cs ↔ (D s).isSome = true) ∧ ∀ i j (hi : i < cs.length) (hj : j < i), num l cs[j] < num l cs[i])
theorem closed_any (l : List Clk) (ms : List Lmt) (f t : List Int) (al am af at' : Option Addr) (cl cm cf ct : Nat) (w : World) (henv : Env w l ms al am) (hf : SetOk l f) (ht : SetOk l t) (sf : SlOf 1 RI w af f) (st : SlOf 1 RI w at' t) (cf' : calS l ms f = true) (ct' : calS l ms t = true) :
    Calls Tryz.prog 31 #[.slice al l.length cl, .slice af f.length cf, .slice at' t.length ct, .slice am ms.length cm] w (GivesClosed w l ms f t) := by
  have hnb := small_len (cchk_zero henv.chk).1
  have hfl : f.length = l.length := hf.1
  have htl : t.length = l.length := ht.1
  have BG := begin_any l ms f t al am af at' cl cm cf ct w henv hf ht sf st
  rw [hfl, htl, cf', ct'] at BG
  have HE := Lib.hid henv
  have SF := Lib.hid sf
  have ST := Lib.hid st
  have TF := Lib.hid hf
  have TT := Lib.hid ht
  have CF := Lib.hid cf'
  have BG' := Lib.hid BG
  obtain ⟨i0, hi, hz0, hz1, hz2⟩ := info_parts infoInt
  obtain ⟨k0, hk0, hx0, hx1, hx2⟩ := info_parts infoSl
  clear BG henv hf ht sf st cf' ct'
  go_enter Tryz.func31, Tryz.ntmps31
  go_wp2_with fail
  refine BG'.out.mono ?_
  rintro e w1 ⟨hg, h0, _⟩
  obtain ⟨BK, rfl, hbk, hmk⟩ := h0 rfl
  have G1 := Lib.hid hg
  have BKL := Lib.hid hbk
  have MK := Lib.hid hmk
  clear h0 hg hbk hmk BG'
  go_wp2_with fail
  obtain ⟨XP, hXP⟩ : ∃ XP : Nat, Hid (w1.heap.size = XP) := ⟨_, Lib.hid rfl⟩
  rw [hXP.out]
  obtain ⟨W2, hW2⟩ : ∃ W2 : World, Hid (W2 = w1.alloc (.cells #[.slice al l.length cl, .slice am ms.length cm, .map (some BK)] 127)) := ⟨_, Lib.hid rfl⟩
  rw [← hW2.out]
  have G2 : Hid (Gr w W2) := Lib.hid (by rw [hW2.out]; exact G1.out.alloc _)
  have X2 : Hid (Row W2 XP 127 [.slice al l.length cl, .slice am ms.length cm, .map (some BK)]) := Lib.hid (by rw [hW2.out, ← hXP.out]; exact Row.new w1 _ _)
  have K2 : Hid (Kn W2 BK l (calS l ms)) := Lib.hid (by rw [hW2.out]; exact ⟨[], MK.out.gr ((Gr.refl _).alloc _), by simp, by simp⟩)
  have x0 := X2.out.cell 0 (by simp)
  have x1 := X2.out.cell 1 (by simp)
  have x2 := X2.out.cell 2 (by simp)
  have xh := X2.out.has
  simp only [List.getElem_cons_zero, List.getElem_cons_succ] at x0 x1 x2
  clear hW2 MK hXP
  have SFl := SF.out
  refine wp_code_eq (c := Code.region 4 (regIn 4 Tryz.f31) true) (by kernel_rfl) (cd4 (w0 := w) (wr := W2) (l := l) (ms := ms) (t := f) (al := al) (am := am) (at' := af) (cl := cl) (cm := cm) (ct := cf) (BK := BK) (XP := XP) ⟨X2.out, K2.out, G2.out, Nat.le_refl _⟩ HE.out TF.out CF.out SFl BKL.out ?_)
  intro t31 t32 t33 t34 t35 BM V W3 hp hd
  simp only [cd4A]
  have HP := Lib.hid hp
  have DI := Lib.hid hd
  have NF := number_any l t al at' am cl ct ms.length cm (.map (some BK)) W3 (clks_gr HE.out.clks hp.gr) (ST.out.giI hp.gr) HE.out.chk TT.out
  rw [htl] at NF
  have NF' := Lib.hid NF
  have y0 := hp.box.cell 0 (by simp)
  have y1 := hp.box.cell 1 (by simp)
  have y2 := hp.box.cell 2 (by simp)
  have yh := hp.box.has
  simp only [List.getElem_cons_zero, List.getElem_cons_succ] at y0 y1 y2
  clear hp hd NF x0 x1 x2 xh SFl
  go_wp2_with fail
  refine NF'.out.mono ?_
  rintro e W4 ⟨rfl, hg4⟩
  have hV := DI.out.2.2.1
  have LK := run_look_ok (DI.out.2.1.gr hg4) (wide_num HE.out.chk TT.out)
  rw [look_num (fun q hq => (hV q hq).1) TT.out] at LK
  have HV := Lib.hid hV
  obtain ⟨n, hn⟩ : ∃ n, num l t = n := ⟨_, rfl⟩
  rw [hn] at LK ⊢
  have P4 := Lib.hid (HP.out.grow hg4)
  have M4 := Lib.hid (DI.out.2.1.gr hg4)
  have DD := Lib.hid DI.out.2.2.2
  clear hV hn NF' hg4 HP DI y0 y1 y2 yh
  cases hd : look V t with
  | some d =>
    rw [hd] at LK
    simp only [Option.getD_some, Option.isSome_some] at LK
    have HD := Lib.hid hd
    clear hd
    go_wp2_with fail
    go_ret2
    exact ⟨P4.out.gr, look V, DD.out, (fun _ => rfl), (fun q => by rw [HD.out] at q; cases q)⟩
  | none =>
    rw [hd] at LK
    simp only [Option.getD_none, Option.isSome_none] at LK
    have HD := Lib.hid hd
    clear hd
    obtain ⟨D, hown, hhas, hat0⟩ := M4.out
    have HH := Lib.hid hhas
    have HB : Hid (∀ x, (look (V.map fun q => (num l q.1, q.2)) x).isSome = true → 0 ≤ x ∧ x < (prodC l : Nat)) := Lib.hid (fun x hx => by
      obtain ⟨d, hd⟩ := Option.isSome_iff_exists.1 hx
      obtain ⟨q, hq, e⟩ := List.mem_map.1 (look_some hd)
      injection e with e1 e2
      rw [← e1]
      exact num_bound (HV.out q hq).1)
    have PL : Hid (prodC l ≤ 4096) := Lib.hid (cchk_zero HE.out.chk).2.2.1
    have LZ : Hid ((look (V.map fun q => (num l q.1, q.2)) (num l f)).isSome = true) := Lib.hid (by
      rw [look_num (fun q hq => (HV.out q hq).1) TF.out, DD.out.dist.zero]; rfl)
    obtain ⟨VN, hVN⟩ : ∃ VN, (V.map fun q => (num l q.1, q.2)) = VN := ⟨_, rfl⟩
    rw [hVN] at HH HB LZ hown
    have EV := Lib.hid hVN
    obtain ⟨BR, hBR⟩ : ∃ BR : Nat, Hid (W4.heap.size = BR) := ⟨_, Lib.hid rfl⟩
    clear hhas hat0 hVN M4
    go_wp2_with (first
      | (at_range; refine wpList_range_own _ rfl _ 130 rfl 3 3 keyed_int Tryz.underlying130 _ BM _ _ rfl hown ?_; intro w0 hrg0 hg0 hs0; rw [hBR.out] at hrg0 ⊢)
      | fail)
    go_frame
    have RG0 := Lib.hid hrg0
    have G50 : Hid (Gr W4 w0) := Lib.hid ((Gr.refl _).grown hg0 (fun k e => by cases e))
    clear hrg0 hg0 hs0 hown LK
    go_loopw [15] (fun v wr => ∃ (left : Lit → Bool) (cnt : Nat) (zs : List Int), wr.ranges Tryz.prog 3 (plainElem Tryz.prog 3) BM BR VN.length D left cnt ∧ CollI VN left zs ∧ wr.ownsRow W4.heap.size 3 1 v zs.length (nums zs) ∧ Gr W4 wr) (fun _ wr => wr.rangeLeft BM BR)
    case atStart => exact ⟨_, _, [], RG0.out, CollI.start HH.out, World.ownsRow_nil _ _ _ _, G50.out⟩
    case round =>
      clear RG0 G50
      obtain ⟨left, cnt, zs, hrg, hco, how, hgr⟩ := hrel
      obtain ⟨a, c, rfl⟩ := owns_slice how
      have CO := Lib.hid hco
      have OW := Lib.hid how
      have GR := Lib.hid hgr
      have ZL : Hid (zs.length ≤ 4096) := Lib.hid (by have := hco.len HB.out; have := PL.out; omega)
      clear hco how hgr
      go_wp2_with (first
        | (at_next; refine wpList_next_ranges_ii _ rfl _ rfl 3 3 .i64 .i64 keyed_int Tryz.underlying3 Tryz.underlying3 BM BR VN.length _ _ _ rfl hrg ?_ ?_)
        | fail)
      · intro _ hl0
        have hne : zs ≠ [] := by
          intro e
          have := (CO.out.2 (num l f)).2 ⟨LZ.out, hl0 _⟩
          rw [e] at this; cases this
        have SR := Lib.hid (sortI_any zs (.slice a zs.length c) W4.heap.size wr OW.out hne (by have := ZL.out; omega))
        obtain ⟨cs, hcs, hok, hmem, hris⟩ := sorted_sets (l := l) (D := look V) (V := V) (left := left) (zs := zs) (fun q hq => (HV.out q hq).1) rfl (by rw [EV.out]; exact CO.out) (fun k => hl0 _)
        have nz : cs.length = zs.length := by have := congrArg List.length hcs; simpa using this
        have hz1' : 1 ≤ cs.length := by rw [nz]; exact List.length_pos_iff.2 hne
        have OK := Lib.hid hok
        have MEM := Lib.hid hmem
        have RIS := Lib.hid hris
        have CS := Lib.hid hcs
        clear hok hmem hris hcs hne hrg hl0 LZ
        go_wp2_with fail
        refine SR.out.mono ?_
        rintro e Ws ⟨rfl, hos, hgs⟩
        have GS := Lib.hid (GR.out.grown hgs (fun k e => (OW.out.lt k e).1))
        have e2 : srt zs = cs.map (num l) := CS.out.symm
        rw [e2] at hos
        obtain ⟨g, cap, e1, _, _, hcell⟩ := owns_cell hos (by omega)
        cases e1
        have CELL : Hid (∀ j (h : j < cs.length), Ws.cell? ⟨g, j, none⟩ = some (.int .i64 (num l cs[j]))) := Lib.hid (fun j h => by
          rw [hcell j (by rw [← nz]; omega)]
          simp [nums, List.getElem?_eq_getElem h])
        rw [← nz]
        have CL : Hid (cs.length ≤ 4096) := Lib.hid (by rw [nz]; exact ZL.out)
        have G4s := Lib.hid (P4.out.grow GS.out)
        clear hos hgs hcell OW GR SR e2 nz ZL CO CS
        go_wp2_with fail
        go_loopw [17, 59] (fun o i wx => ∃ (k : Nat) (os : List OT) (a2 : Option Addr) (c2 : Nat), i = .int .i64 (k : Int) ∧ k ≤ cs.length ∧ o = .slice a2 os.length c2 ∧ os.map (·.t) = cs.take k ∧ wx.ownsRow Ws.heap.size 22 1 (.slice a2 os.length c2) os.length (os.map (encO l.length)) ∧ OsAt Ws.heap.size wx os ∧ Gr Ws wx) (fun _ i _ => cs.length - (intOf i).toNat)
        case atStart => exact ⟨0, [], none, 0, rfl, Nat.zero_le _, rfl, by simp, World.ownsRow_nil _ _ _ _, (fun o ho => by cases ho), Gr.refl _⟩
        case round =>
          obtain ⟨k, os, a2, c2, rfl, hk, rfl, hos, how, hoa, hgr⟩ := hrel
          have osl : os.length = k := by have := congrArg List.length hos; simpa [Nat.min_eq_left hk] using this
          have OSL := Lib.hid osl
          have OS := Lib.hid hos
          have OW := Lib.hid how
          have OA := Lib.hid hoa
          have GR := Lib.hid hgr
          have PX := Lib.hid (G4s.out.grow hgr)
          by_cases hlt : k < cs.length
          · have k2 : (k : Int) < cs.length := by omega
            have cl4 := CL.out
            have q0 := cell_gr hgr (CELL.out k hlt)
            have qh := has_of_cell q0
            have hsk := OK.out _ (List.getElem_mem hlt)
            have SK := Lib.hid hsk
            have SE := Lib.hid (spSet_any l cs[k] al am cl ms.length cm (.map (some BK)) wr (clks_gr HE.out.clks PX.out.gr) HE.out.chk hsk)
            have y0 := PX.out.box.cell 0 (by simp)
            have y1 := PX.out.box.cell 1 (by simp)
            have y2 := PX.out.box.cell 2 (by simp)
            have yh := PX.out.box.has
            simp only [List.getElem_cons_zero, List.getElem_cons_succ] at y0 y1 y2
            obtain ⟨m, hm⟩ : ∃ m, num l cs[k] = m := ⟨_, rfl⟩
            rw [hm] at SE q0
            clear hm hsk osl hos how hoa hgr
            go_wp2_with fail
            refine SE.out.mono ?_
            rintro e W6 ⟨SB, rfl, hr6, hb6, hg6⟩
            have gA : Gr W6 (W6.alloc (.cells #[.slice (some ⟨SB, 0, none⟩) l.length l.length] 22)) := (Gr.refl _).alloc _
            have OWa := Lib.hid (Gr.owns OW.out (hg6.trans gA))
            have OAa := Lib.hid (OA.out.gr (hg6.trans gA))
            have R6a := Lib.hid (hr6.s.gr gA)
            have GRa := Lib.hid (GR.out.trans (hg6.trans gA))
            have CC : Hid (∀ j u, ([Value.slice (some ⟨SB, 0, none⟩) l.length l.length])[j]? = some u → (W6.alloc (.cells #[.slice (some ⟨SB, 0, none⟩) l.length l.length] 22)).cell? ((⟨W6.heap.size, 0, none⟩ : Addr).add j) = some u) := Lib.hid (row_cells (Row.new W6 #[.slice (some ⟨SB, 0, none⟩) l.length l.length] 22))
            have base : Hid (Ws.heap.size ≤ (W6.alloc (.cells #[.slice (some ⟨SB, 0, none⟩) l.length l.length] 22)).heap.size) := Lib.hid GRa.out.size
            have sb : Hid (Ws.heap.size ≤ SB) := Lib.hid (Nat.le_trans GR.out.size hb6)
            have o4 : os.length ≤ 4096 := by have := OSL.out; have := CL.out; omega
            clear gA hr6 hb6 hg6 SE q0 qh y0 y1 y2 yh OW OA
            go_wp2_with (first
              | (at_builtin; refine wpList_append_own _ rfl _ _ 59 rfl Ws.heap.size 22 k0 (.slice none 0 0) 1 24 Tryz.underlying59 hk0 hx0 hx1 hx2 rfl (by decide) (.slice a2 os.length c2) os.length (os.map (encO l.length)) rfl OWa.out ⟨W6.heap.size, 0, none⟩ 1 1 [.slice (some ⟨SB, 0, none⟩) l.length l.length] rfl rfl CC.out (by simp [Value.oneCell']) (by unfold maxLen; omega) (by omega) base.out ?_; intro v' W7 hown hgrow hnil; obtain ⟨a7, c7, rfl⟩ := owns_slice hown; have O8 := Lib.hid hown; have OA8 : Hid (OsAt Ws.heap.size W7 os) := Lib.hid (fun o ho => ⟨(OAa.out o ho).1.grown hgrow (owns_apart OWa.out (OAa.out o ho).1 (by decide)), (OAa.out o ho).2⟩); have R8 := Lib.hid (R6a.out.grown hgrow (owns_apart OWa.out R6a.out (by decide))); have G8 := Lib.hid (GRa.out.grown hgrow (fun k e => (OWa.out.lt k e).1)); clear hown hgrow hnil)
              | fail)
            go_roundw
            case rel =>
              refine ⟨k + 1, os ++ [(⟨cs[k], SB, l.length⟩ : OT)], a7, c7, by go_num, by omega, by simp, ?_, ?_, ?_, G8.out⟩
              · rw [List.map_append, OS.out, List.take_add_one, List.getElem?_eq_getElem hlt]; simp
              · have := O8.out
                simpa [encO] using this
              · intro o ho
                rcases List.mem_append.1 ho with ho | ho
                · exact OA8.out o ho
                · have : o = ⟨cs[k], SB, l.length⟩ := by simpa using ho
                  subst this
                  exact ⟨R8.out, sb.out⟩
            case measure => simp [intOf]; omega
          · obtain rfl : k = cs.length := by omega
            rw [List.take_length] at hos
            have SA := Lib.hid (sets_at HE.out.chk how hoa (by rw [hos]; exact OK.out))
            clear how hoa hgr
            go_wp2_with fail
            go_ret2
            refine ⟨PX.out.gr, look V, DD.out, (fun q => by rw [HD.out] at q; cases q), fun _ => ⟨cs, a2, c2, by rw [← osl]; rfl, ?_, OK.out, MEM.out, RIS.out⟩⟩
            have := SA.out
            rwa [hos] at this
      · intro x cc w1' cnt1 hwx hwc hlx hat hrg1 hlt hg1 hs1 hen
        have NE := ranges_owns hrg OW.out
        have OW1 := OW.out.kept hg1 (.inr (Ne.symm NE.2))
        have GR1 := GR.out.grown hg1 (fun k e => by injection e with e; subst e; exact Nat.le_of_eq hBR.out)
        have HX : (look VN x).isSome = true := by rw [← HH.out x]; exact Maps.has_true_of_atKey hat
        have CO1 := Lib.hid (CO.out.step hlx HX)
        have gA : Gr w1' (w1'.alloc (.cells #[.int .i64 x] 3)) := (Gr.refl _).alloc _
        have OWa := Lib.hid (Gr.owns OW1 gA)
        have RGa := Lib.hid (hrg1.alloc (.cells #[.int .i64 x] 3))
        have GRa := Lib.hid (GR1.trans gA)
        have CC : Hid (∀ j u, ([Value.int .i64 x])[j]? = some u → (w1'.alloc (.cells #[.int .i64 x] 3)).cell? ((⟨w1'.heap.size, 0, none⟩ : Addr).add j) = some u) := Lib.hid (row_cells (Row.new w1' #[.int .i64 x] 3))
        have base : Hid (W4.heap.size ≤ (w1'.alloc (.cells #[.int .i64 x] 3)).heap.size) := Lib.hid GRa.out.size
        have z4 := ZL.out
        have LE : Hid (wr.rangeLeft BM BR = cnt) := Lib.hid hrg.left_eq
        have LT := Lib.hid hlt
        clear hs1 hg1 hrg1 hat hlx hwx hwc NE OW1 GR1 HX gA hrg hlt
        go_wp2_with (first
          | (at_builtin; refine wpList_append_own _ rfl _ _ 22 rfl W4.heap.size 3 i0 (.int .i64 0) 1 8 Tryz.underlying22 hi hz0 hz1 hz2 rfl (by decide) (.slice a zs.length c) zs.length (nums zs) rfl OWa.out ⟨w1'.heap.size, 0, none⟩ 1 1 [.int .i64 x] rfl rfl CC.out (by simp [Value.oneCell']) (by unfold maxLen; omega) (by omega) base.out ?_; intro v' W7 hown hgrow hnil; have O8 := Lib.hid hown; have NE8 := ranges_owns RGa.out OWa.out; have RG8 := Lib.hid (RGa.out.kept hgrow NE8.1 NE8.2); have G8 := Lib.hid (GRa.out.grown hgrow (fun k e => (OWa.out.lt k e).1)); clear hown hgrow hnil NE8)
          | fail)
        go_roundw
        case rel => exact ⟨_, cnt1, zs ++ [x], RG8.out, CO1.out, by have := O8.out; simpa [nums] using this, G8.out⟩
        case measure => rw [RG8.out.left_eq, LE.out]; exact LT.out
noncomputable def clC (l : List Clk) (ms : List Lmt) (f : List Int) : List (List Int) := if h : ∃ cs, ClsOk l (dS l (calS l ms) f) cs then Classical.choose h else []
theorem clC_eq {l : List Clk} {ms : List Lmt} {f : List Int} {cs : List (List Int)} (h : ClsOk l (dS l (calS l ms) f) cs) : clC l ms f = cs := by
  unfold clC
  rw [dif_pos ⟨cs, h⟩]
  exact (Classical.choose_spec (⟨cs, h⟩ : ∃ cs, ClsOk l (dS l (calS l ms) f) cs)).unique h
noncomputable def clE (l : List Clk) (ms : List Lmt) (f t : List Int) : Int := if e18 l ms f t = 0 then (if dS l (calS l ms) f t = none then 0 else 8) else e18 l ms f t
noncomputable def clW (l : List Clk) (ms : List Lmt) (f t : List Int) : List (List Int) := if e18 l ms f t = 0 ∧ dS l (calS l ms) f t = none then clC l ms f else []
section
variable {l : List Clk} {ms : List Lmt} {f t : List Int}
theorem clE_none (h : e18 l ms f t = 0) (h2 : dS l (calS l ms) f t = none) : clE l ms f t = 0 ∧ clW l ms f t = clC l ms f := by
  unfold clE clW
  rw [if_pos h, if_pos h2, if_pos ⟨h, h2⟩]; exact ⟨rfl, rfl⟩
theorem clE_some (h : e18 l ms f t = 0) (h2 : dS l (calS l ms) f t ≠ none) : clE l ms f t = 8 ∧ clW l ms f t = [] := by
  unfold clE clW
  rw [if_pos h, if_neg h2, if_neg (fun q => h2 q.2)]; exact ⟨rfl, rfl⟩
theorem clW_ok : (clW l ms f t).length ≤ 4096 ∧ ∀ s ∈ clW l ms f t, cchk l = 0 ∧ SetOk l s := by
  unfold clW
  split
  · rename_i h
    obtain ⟨lo, -⟩ := e18_zero h.1
    have hc : cchk l = 0 := by
      refine Classical.byContradiction fun q => ?_
      have := h.1
      unfold e18 at this
      rw [if_neg q] at this
      exact q this
    unfold clC
    split
    · rename_i hx
      have hk := Classical.choose_spec hx
      have := hk.len
      have h2 := (cchk_zero hc).2.2.1
      exact ⟨by omega, fun s hs => ⟨hc, hk.ok s hs⟩⟩
    · exact ⟨by simp, fun s hs => by simp at hs⟩
  · exact ⟨by simp, fun s hs => by simp at hs⟩
theorem clE_err (h : e18 l ms f t ≠ 0) : clE l ms f t = e18 l ms f t ∧ clW l ms f t = [] := by
  unfold clE clW
  rw [if_neg h, if_neg (fun q => h q.1)]; exact ⟨rfl, rfl⟩
end
theorem pClosedG_any (l : List Clk) (ms : List Lmt) (f t : List Int) (al am af at' : Option Addr) (cl cm cf ct : Nat) (w : World) (h : Env18 w l ms f t al am af at') :
    Calls Tryz.prog 31 #[.slice al l.length cl, .slice af f.length cf, .slice at' t.length ct, .slice am ms.length cm] w (GivesSE w (clW l ms f t) (clE l ms f t)) := by
  by_cases h0 : e18 l ms f t = 0
  · obtain ⟨lo, fo, tO, fc, tc⟩ := e18_zero h0
    refine (closed_any l ms f t al am af at' cl cm cf ct w (h.env lo) fo tO h.sf h.st fc tc).mono ?_
    rintro e w' ⟨hg, D, hD, h1, h2⟩
    obtain rfl := dS_unique hD fo fc
    by_cases hn : dS l (calS l ms) f t = none
    · obtain ⟨cs, a, c, rfl, hs, q1, q2, q3⟩ := h2 hn
      obtain ⟨x1, x2⟩ := clE_none h0 hn
      rw [x1, x2, clC_eq (clsOk_of q1 q2 q3)]
      exact ⟨a, c, rfl, hs, hg⟩
    · obtain ⟨x1, x2⟩ := clE_some h0 hn
      rw [h1 (Option.isSome_iff_ne_none.2 hn), x1, x2]
      exact .none hg
  · have BG := Lib.hid (pBegin18_any l ms f t al am af at' cl cm cf ct w h)
    obtain ⟨x1, x2⟩ := clE_err h0
    rw [x1, x2]
    obtain ⟨E, hE⟩ : ∃ E, e18 l ms f t = E := ⟨_, rfl⟩
    unfold Begun18 at BG
    rw [hE] at BG h0 ⊢
    have hb : (E != 0) = true := by simp [h0]
    have H0 := Lib.hid h0
    clear hE x1 x2 h h0
    go_enter Tryz.func31, Tryz.ntmps31
    go_wp2_with fail
    refine BG.out.mono ?_
    rintro e w1 ⟨hg, _, h7⟩
    obtain rfl := h7 H0.out
    have G1 := Lib.hid hg
    clear h7 hg
    go_wp2_with fail
    go_ret2
    exact .none (by first | exact G1.out.alloc _ | exact G1.out)
theorem refClosed_ok (l : List Clk) (ms : List Lmt) (f t : List Int) (al am af at' : Option Addr) (cl cm cf ct : Nat) (w : World) (h : Env18 w l ms f t al am af at') (h0 : e18 l ms f t = 0) :
    Calls Tryz.prog 37 #[.slice al l.length cl, .slice af f.length cf, .slice at' t.length ct, .slice am ms.length cm] w (GivesSH w (clW l ms f t) (clE l ms f t)) := by
  obtain ⟨lo, fo, tO, fc, tc⟩ := e18_zero h0
  have henv := h.env lo
  have BG := Lib.hid (refBegin18_any l ms f t al am af at' cl cm cf ct w h)
  rw [h0] at BG
  have DS := Lib.hid (fun W (hW : Gr w W) => distances_any l ms f al am af cl cm cf W ((h.gr hW).env lo) fo (h.gr hW).sf fc)
  have NT := Lib.hid (fun W (hW : Gr w W) => refNumber_any l t al at' cl ct W (h.gr hW).clks (h.gr hW).st henv.chk tO)
  have SN := Lib.hid (fun W (hW : Gr w W) s (hs : SetOk l s) => refSetN_any l s al cl W (h.gr hW).clks henv.chk hs)
  rw [fo.1, tO.1] at BG
  rw [fo.1, tO.1]
  rw [fo.1] at DS
  rw [tO.1] at NT
  have TO := Lib.hid tO
  have FO := Lib.hid fo
  have FC := Lib.hid fc
  have CK := Lib.hid henv.chk
  have C1 := Lib.hid (fun q => clE_none h0 q)
  have C2 := Lib.hid (fun q => clE_some h0 q)
  have hl := small_len (cchk_zero henv.chk).1
  have PR := (cchk_zero henv.chk).2.2.1
  obtain ⟨N, hN⟩ : ∃ N, prodC l = N := ⟨_, rfl⟩
  have EN := Lib.hid hN
  rw [hN] at DS PR
  obtain ⟨xE, hxE⟩ : ∃ x, clE l ms f t = x := ⟨_, rfl⟩
  obtain ⟨xW, hxW⟩ : ∃ x, clW l ms f t = x := ⟨_, rfl⟩
  rw [hxE, hxW] at C1 C2
  rw [hxE, hxW]
  obtain ⟨i0, hi, hz0, hz1, hz2⟩ := info_parts infoSl
  clear h h0 lo henv fo tO fc tc hN hxE hxW
  go_enter Tryz.func37, Tryz.ntmps37
  go_wp2_with fail
  refine BG.out.mono ?_
  rintro e w1 ⟨rfl, hg1⟩
  have G1 := Lib.hid hg1
  clear hg1 BG
  go_wp2_with fail
  refine (DS.out w1 G1.out).mono ?_
  rintro e w2 ⟨D, V, rfl, hk, hd, hv, hr, hD, hg2⟩
  have G2 := Lib.hid (G1.out.trans hg2)
  have KO := Lib.hid hk
  have DO := Lib.hid hd
  have VB := Lib.hid hv
  have RD := Lib.hid hr
  have LD : Hid (w.heap.size ≤ D) := Lib.hid (by have := G1.out.size; omega)
  have DU : Hid (look V = dS l (calS l ms) f) := Lib.hid (dS_unique hd FO.out FC.out)
  clear hk hd hv hr hD hg2 DS G1
  go_wp2_with fail
  refine (NT.out w2 G2.out).mono ?_
  rintro e w3 ⟨rfl, hg3⟩
  have G3 := Lib.hid (G2.out.trans hg3)
  have R3 := Lib.hid (RD.out.gr hg3)
  clear hg3 NT G2 RD
  have nbs := num_bound TO.out
  rw [EN.out] at nbs
  obtain ⟨m, hm⟩ : ∃ m : Nat, num l t = (m : Int) := ⟨(num l t).toNat, by omega⟩
  have HM := Lib.hid hm
  rw [hm] at nbs ⊢
  have mk : m < (dA l N V).length := by rw [dA_len]; omega
  have c0 := R3.out.iat m mk
  rw [dA_at KO.out TO.out HM.out mk] at c0
  have ch := R3.out.has
  have m2 : (m : Int) < N := by omega
  cases hx : look V t with
  | some d =>
    have d0 : 0 ≤ d := (VB.out _ (look_some hx)).1
    have e8 := Lib.hid (C2.out (by rw [← DU.out, hx]; simp))
    rw [hx] at c0
    simp only [Option.getD_some] at c0
    have db : decide (0 ≤ d) = true := decide_eq_true d0
    clear hx d0 hm mk
    go_wp2_with fail
    go_ret2
    rw [e8.out.1, e8.out.2]
    exact .none G3.out
  | none =>
    have e0 := Lib.hid (C1.out (by rw [← DU.out, hx]))
    rw [hx] at c0
    simp only [Option.getD_none] at c0
    clear hx hm mk
    go_wp2_with fail
    clear c0 ch m2
    obtain ⟨w5, rfl⟩ : ∃ wo : World, wo = w3 := ⟨_, rfl⟩
    go_loopw [12, 35] (fun s12 s35 wr => ∃ (k : Nat) (os : List OT) (ao : Option Addr) (co : Nat), s35 = .int .i64 (k : Int) ∧ s12 = .slice ao os.length co ∧ k ≤ N ∧ ClsTo l (look V) k (os.map (·.t)) ∧ wr.ownsRow (D + 1) 22 1 (.slice ao os.length co) os.length (os.map (encO l.length)) ∧ OsAt (D + 1) wr os ∧ Row wr D 3 (nums (dA l N V)) ∧ Gr w wr) (fun _ s35 _ => N - (intOf s35).toNat)
    case atStart => exact ⟨0, [], none, 0, rfl, rfl, Nat.zero_le _, ClsTo.zero, World.ownsRow_nil _ _ _ _, (fun o ho => by simp at ho), R3.out, G3.out⟩
    case round =>
      clear R3 G3
      obtain ⟨k, os, ao, co, rfl, rfl, hk, hcl, hown, hos, hr, hg⟩ := hrel
      have CLS := Lib.hid hcl
      have OW := Lib.hid hown
      have OS := Lib.hid hos
      have HR := Lib.hid hr
      have HG := Lib.hid hg
      clear hown hos
      by_cases hlt : k < N
      · have k2 : (k : Int) < N := by omega
        have kk : k < (dA l N V).length := by rw [dA_len]; exact hlt
        have c1 := hr.iat k kk
        have c1h := hr.has
        have DB : Hid (D < wr.heap.size) := Lib.hid (by have := hr.has; exact this)
        obtain ⟨z, hz⟩ : ∃ z, (dA l N V)[k]'kk = z := ⟨_, rfl⟩
        rw [hz] at c1
        by_cases hneg : z < 0
        · have b0 : decide (0 ≤ z) = false := decide_eq_false (by omega)
          have NX := Lib.hid (hcl.skip (fun s hs hn => dA_none KO.out hlt (by rw [hz]; exact hneg) (fun q hq => (VB.out q hq).1) s hs hn))
          clear hcl hr hg hz kk hneg
          go_wp2_with fail
          go_roundw
          case rel => exact ⟨k + 1, os, ao, co, by go_num, rfl, by omega, NX.out, OW.out, OS.out, HR.out, HG.out⟩
          case measure => simp [intOf]; omega
        · have b0 : decide (0 ≤ z) = true := decide_eq_true (by omega)
          obtain ⟨s, hs, hn, hd⟩ := dA_some KO.out hlt (by rw [hz]; exact hneg)
          have NX := Lib.hid (hcl.add hs hn hd)
          have SNs := SN.out wr hg s hs
          rw [hn] at SNs
          have SN1 := Lib.hid SNs
          have HS := Lib.hid hs
          have LO : Hid (os.length ≤ 4096) := Lib.hid (by have := hcl.len; rw [List.length_map] at this; omega)
          clear hcl hr hg hz kk hneg SNs hs hn hd
          go_wp2_with fail
          refine SN1.out.mono ?_
          rintro e w6 ⟨RB, rfl, hrb, hb, hg6⟩
          obtain ⟨N7, hN7⟩ : ∃ N7 : Nat, Hid (w6.heap.size = N7) := ⟨_, Lib.hid rfl⟩
          obtain ⟨W7, hW7⟩ : ∃ W7 : World, Hid (W7 = w6.alloc (.cells #[.slice (some ⟨RB, 0, none⟩) l.length l.length] 22)) := ⟨_, Lib.hid rfl⟩
          have G67 : Hid (Gr wr W7) := Lib.hid (by rw [hW7.out]; exact hg6.alloc _)
          have O7 := Lib.hid (Gr.owns OW.out G67.out)
          have S7 := Lib.hid (OS.out.gr G67.out)
          have R7 := Lib.hid (HR.out.gr G67.out)
          have B7 : Hid (Row W7 RB 3 (nums s)) := Lib.hid (by rw [hW7.out]; exact hrb.alloc _)
          have LB : Hid (D + 1 ≤ RB) := Lib.hid (by have := DB.out; omega)
          have GG7 := Lib.hid (HG.out.trans G67.out)
          have BS : Hid (D + 1 ≤ W7.heap.size) := Lib.hid (by have := DB.out; have := G67.out.size; omega)
          have CC : Hid (∀ j u, ([.slice (some ⟨RB, 0, none⟩) l.length l.length] : List Value)[j]? = some u → W7.cell? ((⟨N7, 0, none⟩ : Addr).add j) = some u) := Lib.hid (by
            have := row_cells (Row.new w6 #[.slice (some ⟨RB, 0, none⟩) l.length l.length] 22)
            rw [← hW7.out, hN7.out] at this
            exact this)
          have ONE : Hid (∀ u ∈ ([.slice (some ⟨RB, 0, none⟩) l.length l.length] : List Value), u.oneCell' = true) := Lib.hid (fun u hu => by rw [List.mem_singleton.1 hu]; rfl)
          have LO' := LO.out
          clear hrb hb hg6 SN1 c1 c1h OW OS HR HG
          go_wp2_with (first
            | (at_builtin; rw [← hW7.out, hN7.out]; refine wpList_append_gets _ rfl _ _ 59 rfl (D + 1) 22 i0 (.slice none 0 0) 1 24 Tryz.underlying59 hi hz0 hz1 hz2 rfl (by decide) (.slice ao os.length co) os.length (os.map (encO l.length)) rfl O7.out (some ⟨N7, 0, none⟩) 1 1 [.slice (some ⟨RB, 0, none⟩) l.length l.length] rfl ⟨rfl, fun _ => ⟨_, rfl, CC.out⟩⟩ ONE.out (by unfold maxLen; omega) (by omega) BS.out ?_; intro v9 W9 hown hgrow _; obtain ⟨a9, c9, rfl⟩ := owns_slice hown; have O9 := Lib.hid hown; have H9 := Lib.hid hgrow; clear hown hgrow hW7)
            | fail)
          go_roundw
          case rel =>
            refine ⟨k + 1, os ++ [⟨s, RB, l.length⟩], a9, c9, by go_num, by simp, by omega, by rw [List.map_append]; exact NX.out, ?_, ?_, R7.out.grown H9.out (owns_apart O7.out R7.out.s (by decide)), GG7.out.grown H9.out (fun k e => by have := (O7.out.lt k e).1; have := LD.out; omega)⟩
            · have := O9.out
              simpa [encO] using this
            · intro o ho
              rcases List.mem_append.1 ho with ho | ho
              · exact ⟨(S7.out o ho).1.grown H9.out (owns_apart O7.out (S7.out o ho).1 (by decide)), (S7.out o ho).2⟩
              · have : o = ⟨s, RB, l.length⟩ := by simpa using ho
                subst this
                exact ⟨B7.out.s.grown H9.out (owns_apart O7.out B7.out.s (by decide)), LB.out⟩
          case measure => simp [intOf]; omega
      · obtain rfl : k = N := by omega
        clear hcl hr hg
        go_wp2_with fail
        go_ret2
        have hall := CLS.out.all EN.out (fun s h => by
          obtain ⟨d, hd⟩ := Option.isSome_iff_exists.1 h
          exact KO.out _ (look_some hd))
        rw [DU.out] at hall
        rw [e0.out.1, e0.out.2, clC_eq hall]
        exact ⟨ao, co, by rw [List.length_map]; rfl, setsH_at (by have := LD.out; omega) CK.out OW.out OS.out (fun s hs => CLS.out.ok s hs), HG.out⟩
theorem refClosedG_any (l : List Clk) (ms : List Lmt) (f t : List Int) (al am af at' : Option Addr) (cl cm cf ct : Nat) (w : World) (h : Env18 w l ms f t al am af at') :
    Calls Tryz.prog 37 #[.slice al l.length cl, .slice af f.length cf, .slice at' t.length ct, .slice am ms.length cm] w (GivesSH w (clW l ms f t) (clE l ms f t)) := by
  by_cases h0 : e18 l ms f t = 0
  · exact refClosed_ok l ms f t al am af at' cl cm cf ct w h h0
  · have BG := Lib.hid (refBegin18_any l ms f t al am af at' cl cm cf ct w h)
    obtain ⟨x1, x2⟩ := clE_err h0
    rw [x1, x2]
    obtain ⟨E, hE⟩ : ∃ E, e18 l ms f t = E := ⟨_, rfl⟩
    rw [hE] at BG h0 ⊢
    have hb : (E != 0) = true := by simp [h0]
    clear hE x1 x2 h h0
    go_enter Tryz.func37, Tryz.ntmps37
    go_wp2_with fail
    refine BG.out.mono ?_
    rintro e w1 ⟨rfl, hg⟩
    have G1 := Lib.hid hg
    clear hg
    go_wp2_with fail
    go_ret2
    exact .none G1.out
theorem slI_wide {w : World} {a : Option Addr} {xs : List Int} (h : SlOf 1 RI w a xs) : ∀ k (hk : k < xs.length), Wide xs[k] := fun k hk => by
  obtain ⟨b, o, _, _, hw⟩ := h k hk
  exact hw
def GivesI (w : World) (s : List Int) (e : Ending) (w' : World) : Prop := ∃ a c, e = .returned (.slice a s.length c) ∧ SlOf 1 RI w' a s ∧ Gr w w'
theorem cloneG_any (s : List Int) (aS : Option Addr) (cs : Nat) (w : World) (hs : SlOf 1 RI w aS s) (hl : s.length ≤ 1000000) :
    Calls Tryz.prog 60 #[.slice aS s.length cs] w (GivesI w s) := by
  obtain ⟨i0, hi, hz0, hz1, hz2⟩ := info_parts infoInt
  have HW := Lib.hid (slI_wide hs)
  cases aS with
  | none =>
    have e0 : s = [] := by
      cases s with
      | nil => rfl
      | cons x s => obtain ⟨b, o, e, _⟩ := hs 0 (by simp); cases e
    subst e0
    have he : ∀ w : World, (binOp .eql 22 (.slice none 0 cs) (.slice none 0 0)).run Tryz.prog w = .ok (.bool true) w := fun _ => rfl
    clear hs
    go_enter Tryz.func60, Tryz.ntmps60
    go_wp2_with fail
    go_ret
    exact ⟨none, 0, rfl, SlOf.nil _ _ _ _, Gr.refl _⟩
  | some p =>
    have he : ∀ w : World, (binOp .eql 22 (.slice (some p) s.length cs) (.slice none 0 0)).run Tryz.prog w = .ok (.bool false) w := fun _ => rfl
    have O1 : (w.alloc (.cells #[] 3)).ownsRow w.heap.size 3 1 (.slice (some ⟨w.heap.size, 0, none⟩) 0 0) 0 [] := World.ownsRow_lit w #[] 0 (Nat.le_refl _) (by unfold maxLen; omega) rfl
    have OO := Lib.hid O1
    have GN := Lib.hid (gets_slI (hs.giI ((Gr.refl w).alloc (.cells #[] 3))))
    clear O1 hs
    go_enter Tryz.func60, Tryz.ntmps60
    go_wp2_with (first
      | (at_builtin; refine wpList_append_gets _ rfl _ _ 22 rfl w.heap.size 3 i0 (.int .i64 0) 1 8 Tryz.underlying22 hi hz0 hz1 hz2 rfl (by decide) (.slice (some ⟨w.heap.size, 0, none⟩) 0 0) 0 [] rfl OO.out (some p) s.length cs (nums s) rfl GN.out (nums_one _) (by unfold maxLen; omega) (by omega) (by simp) ?_; intro v W3 hown hgrow hblk; rw [Nat.zero_add, List.nil_append] at hown; have O3 := Lib.hid hown; have G3 : Hid (Gr w W3) := Lib.hid (((Gr.refl w).alloc _).grown hgrow (fun k e => (OO.out.lt k e).1)); clear hown hgrow hblk)
      | fail)
    go_ret
    obtain ⟨a, c, rfl, h⟩ := owns_slI O3.out HW.out
    exact ⟨a, c, rfl, h, G3.out⟩
theorem one_set {W3 : World} {s : List Int} {a3 : Option Addr} {c3 : Nat} (h : SlOf 1 RI W3 a3 s) : SlOf 1 RSet (W3.alloc (.cells #[.slice a3 s.length c3] 22)) (some ⟨W3.heap.size, 0, none⟩) [s] := by
  intro k hk
  have k0 : k = 0 := by simpa using hk
  subst k0
  refine ⟨W3.heap.size, 0, rfl, a3, c3, ?_, h.giI ((Gr.refl _).alloc _)⟩
  simp
theorem refSettings0_any (n : Nat) (s : List Int) (al aS ap : Option Addr) (cl cs cp : Nat) (w : World) (hs : SlOf 1 RI w aS s) (hl : s.length ≤ 1000000) :
    Calls Tryz.prog 44 #[.slice al n cl, .slice aS s.length cs, .slice ap 0 cp] w (GivesSE w [s] 0) := by
  obtain ⟨i0, hi, hz0, hz1, hz2⟩ := info_parts infoInt
  have HW := Lib.hid (slI_wide hs)
  have O1 : (w.alloc (.cells #[] 3)).ownsRow w.heap.size 3 1 (.slice (some ⟨w.heap.size, 0, none⟩) 0 0) 0 [] := World.ownsRow_lit w #[] 0 (Nat.le_refl _) (by unfold maxLen; omega) rfl
  have OO := Lib.hid O1
  have GN := Lib.hid (gets_slI (hs.giI ((Gr.refl w).alloc (.cells #[] 3))))
  clear O1 hs
  go_enter Tryz.func44, Tryz.ntmps44
  go_wp2_with (first
    | (at_builtin; refine wpList_append_gets _ rfl _ _ 22 rfl w.heap.size 3 i0 (.int .i64 0) 1 8 Tryz.underlying22 hi hz0 hz1 hz2 rfl (by decide) (.slice (some ⟨w.heap.size, 0, none⟩) 0 0) 0 [] rfl OO.out aS s.length cs (nums s) rfl GN.out (nums_one _) (by unfold maxLen; omega) (by omega) (by simp) ?_; intro v W3 hown hgrow hblk; rw [Nat.zero_add, List.nil_append] at hown; have O3 := Lib.hid (owns_slI hown HW.out); have G3 : Hid (Gr w W3) := Lib.hid (((Gr.refl w).alloc _).grown hgrow (fun k e => (OO.out.lt k e).1)); clear hown hgrow hblk; obtain ⟨a3, c3, rfl, h3⟩ := O3.out; have S3 := Lib.hid h3; clear O3 h3)
    | fail)
  refine wp_loop_rounds 1 ?_
  rw [rounds_succ]
  go_wp2_with fail
  go_ret2
  exact ⟨_, 1, rfl, one_set S3.out, G3.out.alloc _⟩
theorem proSettings0_any (n : Nat) (s : List Int) (al aS ap : Option Addr) (cl cs cp : Nat) (w : World) (hs : SlOf 1 RI w aS s) (hl : s.length ≤ 1000000) :
    Calls Tryz.prog 43 #[.slice al n cl, .slice aS s.length cs, .slice ap 0 cp] w (GivesSE w [s] 0) := by
  have CL := Lib.hid (cloneG_any s aS cs w hs hl)
  clear hs
  go_enter Tryz.func43, Tryz.ntmps43
  go_wp2_with fail
  refine CL.out.mono ?_
  rintro e W3 ⟨a3, c3, rfl, h3, hg3⟩
  have S3 := Lib.hid h3
  have G3 := Lib.hid hg3
  clear h3 hg3
  go_wp2_with fail
  refine wp_loop_rounds 1 ?_
  rw [rounds_succ]
  go_wp2_with fail
  go_ret2
  exact ⟨_, 1, rfl, one_set S3.out, G3.out.alloc _⟩
theorem path_gives {w w' : World} {l : List Clk} {s : List Int} {ps : List (Int × Int)} {e : Ending} (hc : cchk l = 0) (hset : SetOk l s) (hw : ∀ p ∈ ps, WrOk l p) (h : GivesPath w s ps e w') : GivesSE w (pathS s ps) 0 e w' := by
  obtain ⟨os, a, c, rfl, hp, ho, hi, hg⟩ := h
  have hl : os.length = ps.length + 1 := by have := congrArg List.length hp; rwa [List.length_map, pathS_len] at this
  refine ⟨a, c, by rw [pathS_len], ?_, hg⟩
  rw [← hl, hset.1] at ho
  have := sets_at hc ho (fun o q => hi o q) (fun x hx => by
    have hx' : x ∈ pathS s ps := by rw [← hp]; exact hx
    obtain ⟨i, hi, rfl⟩ := List.mem_iff_getElem.1 hx'
    exact pathS_ok ps hset hw i hi)
  rw [← hp]
  exact this
theorem refSettingsG_any (l : List Clk) (ms : List Lmt) (f t : List Int) (al am af at' ap : Option Addr) (cl cf cp : Nat) (w : World) (h : Env18 w l ms f t al am af at') (hf : f.length ≤ 1000000) (hp : SlOf 3 RWc w ap (plW l ms f t)) :
    Calls Tryz.prog 44 #[.slice al l.length cl, .slice af f.length cf, .slice ap (plW l ms f t).length cp] w (GivesSE w (pathS f (plW l ms f t)) 0) := by
  cases hq : plW l ms f t with
  | nil => exact refSettings0_any l.length f al af ap cl cf cp w h.sf hf
  | cons p ps =>
    have h0 : e18 l ms f t = 0 := Classical.byContradiction fun q => by rw [plW_nil q] at hq; cases hq
    obtain ⟨lo, fo, tO, fc, tc⟩ := e18_zero h0
    have hc := (h.env lo).chk
    obtain ⟨hw, hl⟩ := plW_ok (l := l) (ms := ms) (f := f) (t := t) hc
    rw [hq] at hw hl hp
    obtain ⟨u, v, -, hu, -⟩ := hw p (by simp)
    exact (refSettings_any l f (p :: ps) al af ap cl cf cp w h.clks h.sf hp hc fo hw (by omega) hl).mono fun e w' q => path_gives hc fo hw q
theorem proSettingsG_any (l : List Clk) (ms : List Lmt) (f t : List Int) (al am af at' ap : Option Addr) (cl cf cp : Nat) (w : World) (h : Env18 w l ms f t al am af at') (hf : f.length ≤ 1000000) (hp : SlOf 3 RWc w ap (plW l ms f t)) :
    Calls Tryz.prog 43 #[.slice al l.length cl, .slice af f.length cf, .slice ap (plW l ms f t).length cp] w (GivesSE w (pathS f (plW l ms f t)) 0) := by
  cases hq : plW l ms f t with
  | nil => exact proSettings0_any l.length f al af ap cl cf cp w h.sf hf
  | cons p ps =>
    have h0 : e18 l ms f t = 0 := Classical.byContradiction fun q => by rw [plW_nil q] at hq; cases hq
    obtain ⟨lo, fo, tO, fc, tc⟩ := e18_zero h0
    have hc := (h.env lo).chk
    obtain ⟨hw, hl⟩ := plW_ok (l := l) (ms := ms) (f := f) (t := t) hc
    rw [hq] at hw hl hp
    obtain ⟨u, v, -, hu, -⟩ := hw p (by simp)
    exact (proSettings_any l f (p :: ps) al af ap cl cf cp w h.clks h.sf hp hc fo hw (by omega) hl).mono fun e w' q => path_gives hc fo hw q
end Go.Proofs.YtenehghpmnajpaaGreatDoor
