/- Contract of retune.Closed, where clocks, limits and settings are right and calm. -/
import Derived.Test.YtenehghpmnajpaaGreatDoorCdA
import Derived.Test.YtenehghpmnajpaaGreatDoorClP
import Derived.Test.YtenehghpmnajpaaGreatDoorSoI
set_option linter.unusedVariables false
set_option linter.unusedSimpArgs false
namespace Go.Proofs.YtenehghpmnajpaaGreatDoor
open Go.RowKit
open Classical

/-- All settings that can be reached, or an error if the end is among them. -/
def GivesClosed (w : World) (l : List Clk) (ms : List Lmt) (f t : List Int) (e : Ending) (w' : World) : Prop :=
  Gr w w' ∧ ∃ D, DistOk l (calS l ms) f D ∧ ((D t).isSome = true → e = .returned (.tuple #[.slice none 0 0, .int .i64 8])) ∧
    (D t = none → ∃ (cs : List (List Int)) (a : Option Addr) (c : Nat), e = .returned (.tuple #[.slice a cs.length c, .int .i64 0]) ∧ SlOf 1 RSet w' a cs ∧ SetsOk l cs ∧ (∀ s, s ∈ cs ↔ (D s).isSome = true) ∧ ∀ i j (hi : i < cs.length) (hj : j < i), num l cs[j] < num l cs[i])
set_option maxRecDepth 100000 in
set_option maxHeartbeats 2000000 in
theorem closed_any (l : List Clk) (ms : List Lmt) (f t : List Int) (al am af at' : Option Addr) (cl cm cf ct : Nat) (w : World) (henv : Env w l ms al am) (hf : SetOk l f) (ht : SetOk l t) (sf : SlOf 1 RI w af f) (st : SlOf 1 RI w at' t) (cf' : calS l ms f = true) (ct' : calS l ms t = true) :
    Calls Tryz.prog 31 #[.slice al l.length cl, .slice af f.length cf, .slice at' t.length ct, .slice am ms.length cm] w (GivesClosed w l ms f t) := by
  have hnb := small_len (cchk_zero henv.chk).1
  have hfl : f.length = l.length := hf.1
  have htl : t.length = l.length := ht.1
  have BG := begin_any l ms f t al am af at' cl cm cf ct w henv hf ht sf st
  rw [hfl, htl, cf', ct'] at BG
  have HE := Lib.hid henv
  have SF := Lib.hid sf
  have ST := Lib.hid st
  have TF := Lib.hid hf
  have TT := Lib.hid ht
  have CF := Lib.hid cf'
  have BG' := Lib.hid BG
  obtain ⟨i0, hi, hz0, hz1, hz2⟩ := info_parts infoInt
  obtain ⟨k0, hk0, hx0, hx1, hx2⟩ := info_parts infoSl
  clear BG henv hf ht sf st cf' ct'
  go_enter Tryz.func31, Tryz.ntmps31
  go_wp2_with fail
  refine BG'.out.mono ?_
  rintro e w1 ⟨hg, h0, _⟩
  obtain ⟨BK, rfl, hbk, hmk⟩ := h0 rfl
  have G1 := Lib.hid hg
  have BKL := Lib.hid hbk
  have MK := Lib.hid hmk
  clear h0 hg hbk hmk BG'
  go_wp2_with fail
  obtain ⟨XP, hXP⟩ : ∃ XP : Nat, Hid (w1.heap.size = XP) := ⟨_, Lib.hid rfl⟩
  rw [hXP.out]
  obtain ⟨W2, hW2⟩ : ∃ W2 : World, Hid (W2 = w1.alloc (.cells #[.slice al l.length cl, .slice am ms.length cm, .map (some BK)] 127)) := ⟨_, Lib.hid rfl⟩
  rw [← hW2.out]
  have G2 : Hid (Gr w W2) := Lib.hid (by rw [hW2.out]; exact G1.out.alloc _)
  have X2 : Hid (Row W2 XP 127 [.slice al l.length cl, .slice am ms.length cm, .map (some BK)]) := Lib.hid (by rw [hW2.out, ← hXP.out]; exact Row.new w1 _ _)
  have K2 : Hid (Kn W2 BK l (calS l ms)) := Lib.hid (by rw [hW2.out]; exact ⟨[], MK.out.gr ((Gr.refl _).alloc _), by simp, by simp⟩)
  have x0 := X2.out.cell 0 (by simp)
  have x1 := X2.out.cell 1 (by simp)
  have x2 := X2.out.cell 2 (by simp)
  have xh := X2.out.has
  simp only [List.getElem_cons_zero, List.getElem_cons_succ] at x0 x1 x2
  clear hW2 MK hXP
  have SFl := SF.out
  refine wp_code_eq (c := Code.region 4 (regIn 4 Tryz.f31) true) (by kernel_rfl) (cd4 (w0 := w) (wr := W2) (l := l) (ms := ms) (t := f) (al := al) (am := am) (at' := af) (cl := cl) (cm := cm) (ct := cf) (BK := BK) (XP := XP) ⟨X2.out, K2.out, G2.out, Nat.le_refl _⟩ HE.out TF.out CF.out SFl BKL.out ?_)
  intro t31 t32 t33 t34 t35 BM V W3 hp hd
  simp only [cd4A]
  have HP := Lib.hid hp
  have DI := Lib.hid hd
  have NF := number_any l t al at' am cl ct ms.length cm (.map (some BK)) W3 (clks_gr HE.out.clks hp.gr) (ST.out.giI hp.gr) HE.out.chk TT.out
  rw [htl] at NF
  have NF' := Lib.hid NF
  have y0 := hp.box.cell 0 (by simp)
  have y1 := hp.box.cell 1 (by simp)
  have y2 := hp.box.cell 2 (by simp)
  have yh := hp.box.has
  simp only [List.getElem_cons_zero, List.getElem_cons_succ] at y0 y1 y2
  clear hp hd NF x0 x1 x2 xh SFl
  go_wp2_with fail
  refine NF'.out.mono ?_
  rintro e W4 ⟨rfl, hg4⟩
  have hV := DI.out.2.2.1
  have LK := run_look_ok (DI.out.2.1.gr hg4) (wide_num HE.out.chk TT.out)
  rw [look_num (fun q hq => (hV q hq).1) TT.out] at LK
  have HV := Lib.hid hV
  obtain ⟨n, hn⟩ : ∃ n, num l t = n := ⟨_, rfl⟩
  rw [hn] at LK ⊢
  have P4 := Lib.hid (HP.out.grow hg4)
  have M4 := Lib.hid (DI.out.2.1.gr hg4)
  have DD := Lib.hid DI.out.2.2.2
  clear hV hn NF' hg4 HP DI y0 y1 y2 yh
  cases hd : look V t with
  | some d =>
    rw [hd] at LK
    simp only [Option.getD_some, Option.isSome_some] at LK
    have HD := Lib.hid hd
    clear hd
    go_wp2_with fail
    go_ret2
    exact ⟨P4.out.gr, look V, DD.out, (fun _ => rfl), (fun q => by rw [HD.out] at q; cases q)⟩
  | none =>
    rw [hd] at LK
    simp only [Option.getD_none, Option.isSome_none] at LK
    have HD := Lib.hid hd
    clear hd
    obtain ⟨D, hown, hhas, hat0⟩ := M4.out
    have HH := Lib.hid hhas
    have HB : Hid (∀ x, (look (V.map fun q => (num l q.1, q.2)) x).isSome = true → 0 ≤ x ∧ x < (prodC l : Nat)) := Lib.hid (fun x hx => by
      obtain ⟨d, hd⟩ := Option.isSome_iff_exists.1 hx
      obtain ⟨q, hq, e⟩ := List.mem_map.1 (look_some hd)
      injection e with e1 e2
      rw [← e1]
      exact num_bound (HV.out q hq).1)
    have PL : Hid (prodC l ≤ 4096) := Lib.hid (cchk_zero HE.out.chk).2.2.1
    have LZ : Hid ((look (V.map fun q => (num l q.1, q.2)) (num l f)).isSome = true) := Lib.hid (by
      rw [look_num (fun q hq => (HV.out q hq).1) TF.out, DD.out.dist.zero]; rfl)
    obtain ⟨VN, hVN⟩ : ∃ VN, (V.map fun q => (num l q.1, q.2)) = VN := ⟨_, rfl⟩
    rw [hVN] at HH HB LZ hown
    have EV := Lib.hid hVN
    obtain ⟨BR, hBR⟩ : ∃ BR : Nat, Hid (W4.heap.size = BR) := ⟨_, Lib.hid rfl⟩
    clear hhas hat0 hVN M4
    go_wp2_with (first
      | (at_range; refine wpList_range_own _ rfl _ 130 rfl 3 3 keyed_int Tryz.underlying130 _ BM _ _ rfl hown ?_; intro w0 hrg0 hg0 hs0; rw [hBR.out] at hrg0 ⊢)
      | fail)
    go_frame
    have RG0 := Lib.hid hrg0
    have G50 : Hid (Gr W4 w0) := Lib.hid ((Gr.refl _).grown hg0 (fun k e => by cases e))
    clear hrg0 hg0 hs0 hown LK
    go_loopw [15] (fun v wr => ∃ (left : Lit → Bool) (cnt : Nat) (zs : List Int), wr.ranges Tryz.prog 3 (plainElem Tryz.prog 3) BM BR VN.length D left cnt ∧ CollI VN left zs ∧ wr.ownsRow W4.heap.size 3 1 v zs.length (nums zs) ∧ Gr W4 wr) (fun _ wr => wr.rangeLeft BM BR)
    case atStart => exact ⟨_, _, [], RG0.out, CollI.start HH.out, World.ownsRow_nil _ _ _ _, G50.out⟩
    case round =>
      clear RG0 G50
      obtain ⟨left, cnt, zs, hrg, hco, how, hgr⟩ := hrel
      obtain ⟨a, c, rfl⟩ := owns_slice how
      have CO := Lib.hid hco
      have OW := Lib.hid how
      have GR := Lib.hid hgr
      have ZL : Hid (zs.length ≤ 4096) := Lib.hid (by have := hco.len HB.out; have := PL.out; omega)
      clear hco how hgr
      go_wp2_with (first
        | (at_next; refine wpList_next_ranges_ii _ rfl _ rfl 3 3 .i64 .i64 keyed_int Tryz.underlying3 Tryz.underlying3 BM BR VN.length _ _ _ rfl hrg ?_ ?_)
        | fail)
      · intro _ hl0
        have hne : zs ≠ [] := by
          intro e
          have := (CO.out.2 (num l f)).2 ⟨LZ.out, hl0 _⟩
          rw [e] at this; cases this
        have SR := Lib.hid (sortI_any zs (.slice a zs.length c) W4.heap.size wr OW.out hne (by have := ZL.out; omega))
        obtain ⟨cs, hcs, hok, hmem, hris⟩ := sorted_sets (l := l) (D := look V) (V := V) (left := left) (zs := zs) (fun q hq => (HV.out q hq).1) rfl (by rw [EV.out]; exact CO.out) (fun k => hl0 _)
        have nz : cs.length = zs.length := by have := congrArg List.length hcs; simpa using this
        have hz1' : 1 ≤ cs.length := by rw [nz]; exact List.length_pos_iff.2 hne
        have OK := Lib.hid hok
        have MEM := Lib.hid hmem
        have RIS := Lib.hid hris
        have CS := Lib.hid hcs
        clear hok hmem hris hcs hne hrg hl0 LZ
        go_wp2_with fail
        refine SR.out.mono ?_
        rintro e Ws ⟨rfl, hos, hgs⟩
        have GS := Lib.hid (GR.out.grown hgs (fun k e => (OW.out.lt k e).1))
        have e2 : srt zs = cs.map (num l) := CS.out.symm
        rw [e2] at hos
        obtain ⟨g, cap, e1, _, _, hcell⟩ := owns_cell hos (by omega)
        cases e1
        have CELL : Hid (∀ j (h : j < cs.length), Ws.cell? ⟨g, j, none⟩ = some (.int .i64 (num l cs[j]))) := Lib.hid (fun j h => by
          rw [hcell j (by rw [← nz]; omega)]
          simp [nums, List.getElem?_eq_getElem h])
        rw [← nz]
        have CL : Hid (cs.length ≤ 4096) := Lib.hid (by rw [nz]; exact ZL.out)
        have G4s := Lib.hid (P4.out.grow GS.out)
        clear hos hgs hcell OW GR SR e2 nz ZL CO CS
        go_wp2_with fail
        go_loopw [17, 59] (fun o i wx => ∃ (k : Nat) (os : List OT) (a2 : Option Addr) (c2 : Nat), i = .int .i64 (k : Int) ∧ k ≤ cs.length ∧ o = .slice a2 os.length c2 ∧ os.map (·.t) = cs.take k ∧ wx.ownsRow Ws.heap.size 22 1 (.slice a2 os.length c2) os.length (os.map (encO l.length)) ∧ OsAt Ws.heap.size wx os ∧ Gr Ws wx) (fun _ i _ => cs.length - (intOf i).toNat)
        case atStart => exact ⟨0, [], none, 0, rfl, Nat.zero_le _, rfl, by simp, World.ownsRow_nil _ _ _ _, (fun o ho => by cases ho), Gr.refl _⟩
        case round =>
          obtain ⟨k, os, a2, c2, rfl, hk, rfl, hos, how, hoa, hgr⟩ := hrel
          have osl : os.length = k := by have := congrArg List.length hos; simpa [Nat.min_eq_left hk] using this
          have OSL := Lib.hid osl
          have OS := Lib.hid hos
          have OW := Lib.hid how
          have OA := Lib.hid hoa
          have GR := Lib.hid hgr
          have PX := Lib.hid (G4s.out.grow hgr)
          by_cases hlt : k < cs.length
          · have k2 : (k : Int) < cs.length := by omega
            have cl4 := CL.out
            have q0 := cell_gr hgr (CELL.out k hlt)
            have qh := has_of_cell q0
            have hsk := OK.out _ (List.getElem_mem hlt)
            have SK := Lib.hid hsk
            have SE := Lib.hid (spSet_any l cs[k] al am cl ms.length cm (.map (some BK)) wr (clks_gr HE.out.clks PX.out.gr) HE.out.chk hsk)
            have y0 := PX.out.box.cell 0 (by simp)
            have y1 := PX.out.box.cell 1 (by simp)
            have y2 := PX.out.box.cell 2 (by simp)
            have yh := PX.out.box.has
            simp only [List.getElem_cons_zero, List.getElem_cons_succ] at y0 y1 y2
            obtain ⟨m, hm⟩ : ∃ m, num l cs[k] = m := ⟨_, rfl⟩
            rw [hm] at SE q0
            clear hm hsk osl hos how hoa hgr
            go_wp2_with fail
            refine SE.out.mono ?_
            rintro e W6 ⟨SB, rfl, hr6, hb6, hg6⟩
            have gA : Gr W6 (W6.alloc (.cells #[.slice (some ⟨SB, 0, none⟩) l.length l.length] 22)) := (Gr.refl _).alloc _
            have OWa := Lib.hid (Gr.owns OW.out (hg6.trans gA))
            have OAa := Lib.hid (OA.out.gr (hg6.trans gA))
            have R6a := Lib.hid (hr6.s.gr gA)
            have GRa := Lib.hid (GR.out.trans (hg6.trans gA))
            have CC : Hid (∀ j u, ([Value.slice (some ⟨SB, 0, none⟩) l.length l.length])[j]? = some u → (W6.alloc (.cells #[.slice (some ⟨SB, 0, none⟩) l.length l.length] 22)).cell? ((⟨W6.heap.size, 0, none⟩ : Addr).add j) = some u) := Lib.hid (row_cells (Row.new W6 #[.slice (some ⟨SB, 0, none⟩) l.length l.length] 22))
            have base : Hid (Ws.heap.size ≤ (W6.alloc (.cells #[.slice (some ⟨SB, 0, none⟩) l.length l.length] 22)).heap.size) := Lib.hid GRa.out.size
            have sb : Hid (Ws.heap.size ≤ SB) := Lib.hid (Nat.le_trans GR.out.size hb6)
            have o4 : os.length ≤ 4096 := by have := OSL.out; have := CL.out; omega
            clear gA hr6 hb6 hg6 SE q0 qh y0 y1 y2 yh OW OA
            go_wp2_with (first
              | (at_builtin; refine wpList_append_own _ rfl _ _ 59 rfl Ws.heap.size 22 k0 (.slice none 0 0) 1 24 Tryz.underlying59 hk0 hx0 hx1 hx2 rfl (by decide) (.slice a2 os.length c2) os.length (os.map (encO l.length)) rfl OWa.out ⟨W6.heap.size, 0, none⟩ 1 1 [.slice (some ⟨SB, 0, none⟩) l.length l.length] rfl rfl CC.out (by simp [Value.oneCell']) (by unfold maxLen; omega) (by omega) base.out ?_; intro v' W7 hown hgrow hnil; obtain ⟨a7, c7, rfl⟩ := owns_slice hown; have O8 := Lib.hid hown; have OA8 : Hid (OsAt Ws.heap.size W7 os) := Lib.hid (fun o ho => ⟨(OAa.out o ho).1.grown hgrow (owns_apart OWa.out (OAa.out o ho).1 (by decide)), (OAa.out o ho).2⟩); have R8 := Lib.hid (R6a.out.grown hgrow (owns_apart OWa.out R6a.out (by decide))); have G8 := Lib.hid (GRa.out.grown hgrow (fun k e => (OWa.out.lt k e).1)); clear hown hgrow hnil)
              | fail)
            go_roundw
            case rel =>
              refine ⟨k + 1, os ++ [(⟨cs[k], SB, l.length⟩ : OT)], a7, c7, by go_num, by omega, by simp, ?_, ?_, ?_, G8.out⟩
              · rw [List.map_append, OS.out, List.take_add_one, List.getElem?_eq_getElem hlt]; simp
              · have := O8.out
                simpa [encO] using this
              · intro o ho
                rcases List.mem_append.1 ho with ho | ho
                · exact OA8.out o ho
                · have : o = ⟨cs[k], SB, l.length⟩ := by simpa using ho
                  subst this
                  exact ⟨R8.out, sb.out⟩
            case measure => simp [intOf]; omega
          · obtain rfl : k = cs.length := by omega
            rw [List.take_length] at hos
            have SA := Lib.hid (sets_at HE.out.chk how hoa (by rw [hos]; exact OK.out))
            clear how hoa hgr
            go_wp2_with fail
            go_ret2
            refine ⟨PX.out.gr, look V, DD.out, (fun q => by rw [HD.out] at q; cases q), fun _ => ⟨cs, a2, c2, by rw [← osl]; rfl, ?_, OK.out, MEM.out, RIS.out⟩⟩
            have := SA.out
            rwa [hos] at this
      · intro x cc w1' cnt1 hwx hwc hlx hat hrg1 hlt hg1 hs1 hen
        have NE := ranges_owns hrg OW.out
        have OW1 := OW.out.kept hg1 (.inr (Ne.symm NE.2))
        have GR1 := GR.out.grown hg1 (fun k e => by injection e with e; subst e; exact Nat.le_of_eq hBR.out)
        have HX : (look VN x).isSome = true := by rw [← HH.out x]; exact Maps.has_true_of_atKey hat
        have CO1 := Lib.hid (CO.out.step hlx HX)
        have gA : Gr w1' (w1'.alloc (.cells #[.int .i64 x] 3)) := (Gr.refl _).alloc _
        have OWa := Lib.hid (Gr.owns OW1 gA)
        have RGa := Lib.hid (hrg1.alloc (.cells #[.int .i64 x] 3))
        have GRa := Lib.hid (GR1.trans gA)
        have CC : Hid (∀ j u, ([Value.int .i64 x])[j]? = some u → (w1'.alloc (.cells #[.int .i64 x] 3)).cell? ((⟨w1'.heap.size, 0, none⟩ : Addr).add j) = some u) := Lib.hid (row_cells (Row.new w1' #[.int .i64 x] 3))
        have base : Hid (W4.heap.size ≤ (w1'.alloc (.cells #[.int .i64 x] 3)).heap.size) := Lib.hid GRa.out.size
        have z4 := ZL.out
        have LE : Hid (wr.rangeLeft BM BR = cnt) := Lib.hid hrg.left_eq
        have LT := Lib.hid hlt
        clear hs1 hg1 hrg1 hat hlx hwx hwc NE OW1 GR1 HX gA hrg hlt
        go_wp2_with (first
          | (at_builtin; refine wpList_append_own _ rfl _ _ 22 rfl W4.heap.size 3 i0 (.int .i64 0) 1 8 Tryz.underlying22 hi hz0 hz1 hz2 rfl (by decide) (.slice a zs.length c) zs.length (nums zs) rfl OWa.out ⟨w1'.heap.size, 0, none⟩ 1 1 [.int .i64 x] rfl rfl CC.out (by simp [Value.oneCell']) (by unfold maxLen; omega) (by omega) base.out ?_; intro v' W7 hown hgrow hnil; have O8 := Lib.hid hown; have NE8 := ranges_owns RGa.out OWa.out; have RG8 := Lib.hid (RGa.out.kept hgrow NE8.1 NE8.2); have G8 := Lib.hid (GRa.out.grown hgrow (fun k e => (OWa.out.lt k e).1)); clear hown hgrow hnil NE8)
          | fail)
        go_roundw
        case rel => exact ⟨_, cnt1, zs ++ [x], RG8.out, CO1.out, by have := O8.out; simpa [nums] using this, G8.out⟩
        case measure => rw [RG8.out.left_eq, LE.out]; exact LT.out
end Go.Proofs.YtenehghpmnajpaaGreatDoor
