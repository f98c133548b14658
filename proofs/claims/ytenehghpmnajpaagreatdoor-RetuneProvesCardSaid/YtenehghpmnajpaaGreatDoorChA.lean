/- Contract of retune.Check for settings, where clocks, limits and the two settings are right and calm. -/
import Derived.Test.YtenehghpmnajpaaGreatDoorChR
import Derived.Test.YtenehghpmnajpaaGreatDoorSoI
set_option linter.unusedVariables false
set_option linter.unusedSimpArgs false
namespace Go.Proofs.YtenehghpmnajpaaGreatDoor
open Go.RowKit
open Classical

/-- What the loop over the list keeps. -/
structure HSt (l : List Clk) (ms : List Lmt) (al am : Option Addr) (cl cm BK XP BI BM : Nat) (cs : List (List Int)) (w : World) (k : Nat) (wr : World) : Prop where
  pb : PB l ms al am cl cm BK XP w w wr
  bi : Row wr BI 125 [.map (some BM)]
  map : MapB wr BM (entV l (cs.take k))
  ris : risTo l (calS l ms) cs k
section
variable {l : List Clk} {ms : List Lmt} {al am : Option Addr} {cl cm BK XP BI BM : Nat} {cs : List (List Int)} {w : World} {k : Nat} {wr w' : World}
theorem HSt.grow (h : HSt l ms al am cl cm BK XP BI BM cs w k wr) (hg : Gr wr w') : HSt l ms al am cl cm BK XP BI BM cs w k w' := ⟨h.pb.grow hg, h.bi.gr hg, h.map.gr hg, h.ris⟩
theorem HSt.known (h : HSt l ms al am cl cm BK XP BI BM cs w k wr) (h0 : w.heap.size ≤ BK) (hne : BM ≠ BK) (hg : wr.grownBy w' (some BK)) (hk : Kn w' BK l (calS l ms)) : HSt l ms al am cl cm BK XP BI BM cs w k w' where
  pb := by
    have nx : BK ≠ XP := by obtain ⟨V9, hm9, _⟩ := h.pb.kn; exact hm9.ne_row h.pb.box
    exact ⟨h.pb.box.grown hg (by intro e; injection e with e; exact nx e.symm), hk, h.pb.gr.grown hg (fun k e => by injection e with e; omega), Nat.le_trans h.pb.size hg.size⟩
  bi := by
    have nx : BK ≠ BI := by obtain ⟨V9, hm9, _⟩ := h.pb.kn; exact hm9.ne_row h.bi
    exact h.bi.grown hg (by intro e; injection e with e; exact nx e.symm)
  map := h.map.kept hg (by intro e; injection e with e; exact hne e)
  ris := h.ris
theorem HSt.put (h : HSt l ms al am cl cm BK XP BI BM cs w k wr) (h0 : w.heap.size ≤ BM) (hne : BM ≠ BK) (hk : k < cs.length) (hc : calS l ms cs[k] = true) (hlt : lastN l cs k < num l cs[k]) (hg : wr.grownBy w' (some BM)) (hm : MapB w' BM (entV l (cs.take k) ++ [(num l cs[k], true)])) : HSt l ms al am cl cm BK XP BI BM cs w (k + 1) w' where
  pb := by
    have nx := h.map.ne_row h.pb.box
    exact ⟨h.pb.box.grown hg (by intro e; injection e with e; exact nx e.symm), h.pb.kn.kept hg (by intro e; injection e with e; exact hne e.symm), h.pb.gr.grown hg (fun k e => by injection e with e; omega), Nat.le_trans h.pb.size hg.size⟩
  bi := by
    have nx := h.map.ne_row h.bi
    exact h.bi.grown hg (by intro e; injection e with e; exact nx e.symm)
  map := by rw [entV_snoc hk]; exact hm
  ris := ⟨h.ris, by rw [getD_at hk]; exact hc, by rw [getD_at hk]; exact hlt⟩
end
/-! The loop over the map. -/
section
variable {l : List Clk} {base BW BI BM BR : Nat} {cs : List (List Int)} {D : DataW Unit} {left left' : Lit → Bool} {cnt cnt' : Nat} {b : Bool} {w w' : World} {L : List Nat}
theorem ranges_row {T : Nat} {vs : List Value} {C : Nat} {E : Value → Option (DataW Unit × List MemPlace)} {n k : Nat} (h : w.ranges Tryz.prog k E BM BR n D left cnt) (r : Row w C T vs) : BM ≠ C ∧ BR ≠ C := by
  obtain ⟨es, clock, since, seen, c0, hb, _, _, _, hr, _⟩ := h
  constructor
  · rintro rfl
    unfold Row at r
    rw [r] at hb; cases hb
  · rintro rfl
    unfold Row at r
    rw [r] at hr; cases hr
theorem CSt.next (h : CSt l base BW BI BM BR cs D left cnt b w L) (hr : w'.ranges Tryz.prog 3 (plainElem Tryz.prog 4) BM BR cs.length D left' cnt') (hg : w.grownBy w' (some BR)) : CSt l base BW BI BM BR cs D left' cnt' b w' L where
  whole := h.whole.grown hg (by intro e; injection e with e; exact (ranges_row h.it h.whole).2 e.symm)
  box := h.box.grown hg (by intro e; injection e with e; exact (ranges_row h.it h.box).2 e.symm)
  it := hr
  has := h.has
  at' := h.at'
  off := h.off
  low := h.low
theorem CSt.has4 (h : CSt l base BW BI BM BR cs D left cnt b w L) : Has w BW ∧ Has w BI ∧ Has w BM ∧ Has w BR := ⟨h.whole.has, h.box.has, h.map.has, h.it.lt⟩
theorem CSt.start (h : CSt l base BW BI BM BR cs D left cnt b w L) : ∀ w1 L', Gr w w1 → (∀ b ∈ L', b ∈ L ∨ w.heap.size ≤ b) → CSt l base BW BI BM BR cs D left cnt b w1 L' := fun w1 L' hg hL => by
  have hn : ∀ c, Has w c → c ∉ L → c ∉ L' := fun c hc hn hm => by
    rcases hL c hm with e | e
    · exact hn e
    · unfold Has at hc; omega
  obtain ⟨a1, a2, a3, a4⟩ := h.has4
  exact ⟨h.whole.gr hg, h.box.gr hg, h.it.kept (hg.by none) (by simp) (by simp), h.has, h.at', ⟨hn _ a1 h.off.1, hn _ a2 h.off.2.1, hn _ a3 h.off.2.2.1, hn _ a4 h.off.2.2.2⟩, h.low⟩
theorem ent_mem {x : Int} (h : (look (entV l cs) x).isSome = true) : ∃ s ∈ cs, num l s = x := by
  obtain ⟨d, hd⟩ := Option.isSome_iff_exists.1 h
  obtain ⟨q, hq, e⟩ := List.mem_map.1 (look_some hd)
  obtain ⟨s, hs, e2⟩ := List.mem_map.1 hq
  subst e2
  injection e with e1 _
  exact ⟨s, hs, e1⟩
end
/-- No write leads out of the list from this setting. -/
def Cl1 (l : List Clk) (cal : List Int → Bool) (cs : List (List Int)) (s : List Int) : Prop := ∀ q ∈ nbS l cal s, q.2.2 ∈ cs
/-- Whether the list is closed, as far as it has been looked at. -/
noncomputable def wholeB (l : List Clk) (cal : List Int → Bool) (cs : List (List Int)) (x : Bool) (left : Lit → Bool) : Bool := x && decide (∀ s ∈ cs, left (.int .i64 (num l s)) = false → Cl1 l cal cs s)
section
variable {l : List Clk} {cal : List Int → Bool} {cs : List (List Int)} {x : Bool} {left : Lit → Bool}
theorem whole_start (h : ∀ s ∈ cs, left (.int .i64 (num l s)) = true) : wholeB l cal cs x left = x := by
  unfold wholeB
  rw [decide_eq_true (fun s hs e => by rw [h s hs] at e; cases e), Bool.and_true]
theorem whole_step (ho : SetsOk l cs) {s : List Int} (hs : s ∈ cs) : (nbS l cal s).foldl (cStep cs) (wholeB l cal cs x left) = wholeB l cal cs x (fun z => left z && !z.sameKey (.int .i64 (num l s))) := by
  have e : (nbS l cal s).foldl (cStep cs) (wholeB l cal cs x left) = (wholeB l cal cs x left && (nbS l cal s).all fun t => decide (t.2.2 ∈ cs)) := foldl_and (fun t : Nbr => decide (t.2.2 ∈ cs)) _ _
  rw [e]
  unfold wholeB
  have h1 : ((nbS l cal s).all fun t => decide (t.2.2 ∈ cs)) = decide (Cl1 l cal cs s) := by
    rw [Bool.eq_iff_iff]
    simp [List.all_eq_true, Cl1]
  rw [h1, Bool.and_assoc]
  congr 1
  rw [Bool.eq_iff_iff]
  simp only [Bool.and_eq_true, decide_eq_true_eq, Bool.and_eq_false_iff, Bool.not_eq_false']
  constructor
  · rintro ⟨a, b⟩ u hu hl
    rcases hl with hl | hl
    · exact a u hu hl
    · have : num l u = num l s := by simpa [Lit.sameKey] using hl
      rw [num_inj (ho u hu) (ho s hs) this]; exact b
  · intro a
    exact ⟨fun u hu hl => a u hu (.inl hl), a s hs (.inr (by simp [Lit.sameKey]))⟩
theorem whole_end {f t : List Int} (h : ∀ kl, left kl = false) (hr : risTo l cal cs cs.length) : wholeB l cal cs (decide (f ∈ cs) && !decide (t ∈ cs)) left = decide (ChkC l cal f t cs) := by
  unfold wholeB
  rw [Bool.eq_iff_iff]
  simp only [Bool.and_eq_true, decide_eq_true_eq, Bool.not_eq_true', decide_eq_false_iff_not]
  constructor
  · rintro ⟨⟨a, b⟩, c⟩
    exact ⟨hr, a, b, fun s hs => c s hs (h _)⟩
  · rintro ⟨_, a, b, c⟩
    exact ⟨⟨a, b⟩, fun s hs _ => c s hs⟩
end
set_option maxRecDepth 100000 in
set_option maxHeartbeats 4000000 in
theorem pCheck3_any (l : List Clk) (ms : List Lmt) (f t : List Int) (cs : List (List Int)) (al am af at' ac : Option Addr) (cl cm cf ct cc : Nat) (w : World) (henv : Env w l ms al am) (hf : SetOk l f) (ht : SetOk l t) (sf : SlOf 1 RI w af f) (st : SlOf 1 RI w at' t) (sc : SlOf 1 RSet w ac cs) (ho : SetsOk l cs) (hcs : cs.length ≤ 1000000) (cf' : calS l ms f = true) (ct' : calS l ms t = true) :
    Calls Tryz.prog 32 #[.slice al l.length cl, .slice af f.length cf, .slice at' t.length ct, .slice am ms.length cm, .slice ac cs.length cc] w (Grows w (.bool (decide (ChkC l (calS l ms) f t cs)))) := by
  have hnb := small_len (cchk_zero henv.chk).1
  have hfl : f.length = l.length := hf.1
  have htl : t.length = l.length := ht.1
  have BG := begin_any l ms f t al am af at' cl cm cf ct w henv hf ht sf st
  rw [hfl, htl, cf', ct'] at BG
  have HE := Lib.hid henv
  have SF := Lib.hid sf
  have ST := Lib.hid st
  have SC := Lib.hid sc
  have TF := Lib.hid hf
  have TT := Lib.hid ht
  have HO := Lib.hid ho
  have BG' := Lib.hid BG
  have hmm := @run_makeMap Tryz.prog
  obtain ⟨P, hP⟩ : ∃ P : Prop, P = ChkC l (calS l ms) f t cs := ⟨_, rfl⟩
  rw [← hP]
  have HP := Lib.hid hP
  clear BG henv hf ht sf st sc ho cf' ct' hP
  go_enter Tryz.func32, Tryz.ntmps32
  go_wp2_with fail
  refine BG'.out.mono ?_
  rintro e w1 ⟨hg, h0, _⟩
  obtain ⟨BK, rfl, hbk, hmk⟩ := h0 rfl
  have G1 := Lib.hid hg
  have BKL := Lib.hid hbk
  have MK := Lib.hid hmk
  clear h0 hg hbk hmk BG'
  go_wp2_with fail
  obtain ⟨XP, hXP⟩ : ∃ XP : Nat, Hid (w1.heap.size = XP) := ⟨_, Lib.hid rfl⟩
  obtain ⟨BM, hBM⟩ : ∃ BM : Nat, Hid (w1.heap.size + 1 = BM) := ⟨_, Lib.hid rfl⟩
  obtain ⟨BI, hBI⟩ : ∃ BI : Nat, Hid (w1.heap.size + 1 + 1 = BI) := ⟨_, Lib.hid rfl⟩
  rw [hBI.out, hBM.out, hXP.out]
  obtain ⟨W2, hW2⟩ : ∃ W2 : World, Hid (W2 = ((w1.alloc (.cells #[.slice al l.length cl, .slice am ms.length cm, .map (some BK)] 127)).alloc (.map #[] 0)).alloc (.cells #[.map (some BM)] 125)) := ⟨_, Lib.hid rfl⟩
  rw [← hW2.out]
  have H0 : Hid (HSt l ms al am cl cm BK XP BI BM cs w 0 W2) := Lib.hid (by
    rw [hW2.out]
    refine ⟨⟨?_, ?_, ((G1.out.alloc _).alloc _).alloc _, ((G1.out.alloc _).alloc _).alloc _ |>.size⟩, ?_, ?_, trivial⟩
    · rw [← hXP.out]; exact ((Row.new w1 _ _).alloc _).alloc _
    · exact ⟨[], MK.out.gr ((((Gr.refl _).alloc _).alloc _).alloc _), by simp, by simp⟩
    · exact row_new' _ _ _ _ (by rw [← hBI.out]; simp)
    · have := MapV.made (w1.alloc (.cells #[.slice al l.length cl, .slice am ms.length cm, .map (some BK)] 127)) 4 Lit.bool
      have := this.gr ((Gr.refl _).alloc (.cells #[.map (some BM)] 125))
      have e : (w1.alloc (.cells #[.slice al l.length cl, .slice am ms.length cm, .map (some BK)] 127)).heap.size = BM := by rw [← hBM.out]; simp
      rw [e] at this
      simpa [entV] using this)
  have xp : Hid (w.heap.size ≤ XP) := Lib.hid (by have := hXP.out; have := G1.out.size; omega)
  have bm : Hid (w.heap.size ≤ BM) := Lib.hid (by have := hBM.out; have := G1.out.size; omega)
  have bi : Hid (w.heap.size ≤ BI) := Lib.hid (by have := hBI.out; have := G1.out.size; omega)
  have nmk : Hid (BM ≠ BK) := Lib.hid (by have := hBM.out; have := MK.out.has; unfold Has at this; omega)
  clear hW2 hmm G1 MK hXP hBM hBI
  go_loopw [14, 33] (fun s14 s33 wr => ∃ k : Nat, s33 = .int .i64 (k : Int) ∧ s14 = .int .i64 (lastN l cs k) ∧ k ≤ cs.length ∧ HSt l ms al am cl cm BK XP BI BM cs w k wr) (fun _ s33 _ => cs.length - (intOf s33).toNat)
  case atStart => exact ⟨0, rfl, rfl, Nat.zero_le _, H0.out⟩
  case round =>
    clear H0
    obtain ⟨k, rfl, rfl, hk, hS⟩ := hrel
    have HS := Lib.hid hS
    have lb := lastN_bound HE.out.chk HO.out hk
    by_cases hlt : k < cs.length
    · have k2 : (k : Int) < cs.length := by omega
      obtain ⟨b, o, rfl, a, c, q0, hsl⟩ := (SC.out.gr RSet.mono hS.pb.gr).one k hlt
      have hsk := HO.out _ (List.getElem_mem hlt)
      obtain ⟨s, hs⟩ : ∃ s, cs[k] = s := ⟨_, rfl⟩
      rw [hs] at q0 hsl hsk
      rw [hsk.1] at q0
      have HSK := Lib.hid hs
      have SK := Lib.hid hsk
      have SL := Lib.hid hsl
      have S1 : Hid (Calls Tryz.prog 86 #[.slice al l.length cl, .slice a l.length c] wr (Grows wr (.bool true))) := Lib.hid (by
        have := pSetting_any l s al a cl c wr (clks_gr HE.out.clks hS.pb.gr) hsl (by unfold Fit; omega) (by rw [hsk.1]; unfold Fit; omega)
        rwa [decide_eq_true ⟨HE.out.chk, hsk⟩, hsk.1] at this)
      have NM := number_any l s al a am cl c ms.length cm (.map (some BK))
      have N1 : Hid (∀ W, Gr wr W → Calls Tryz.prog 81 #[.agg #[.slice al l.length cl, .slice am ms.length cm, .map (some BK)], .slice a l.length c] W (Grows W (.int .i64 (num l s)))) := Lib.hid (fun W hW => by
        have := NM W (clks_gr HE.out.clks (hS.pb.gr.trans hW)) (hsl.giI hW) HE.out.chk hsk
        rwa [hsk.1] at this)
      have NB := num_small HE.out.chk hsk
      obtain ⟨m, hm⟩ : ∃ m, num l s = m := ⟨_, rfl⟩
      obtain ⟨last, hlast⟩ : ∃ last, lastN l cs k = last := ⟨_, rfl⟩
      rw [hm] at N1 NB
      rw [hlast] at lb ⊢
      have HM := Lib.hid hm
      have HL := Lib.hid hlast
      have qh := has_of_cell q0
      clear hS hs hsk hsl NM hm hlast
      go_wp2_with fail
      refine S1.out.mono ?_
      rintro e w3 ⟨rfl, hg3⟩
      have G3 := Lib.hid hg3
      have y0 := (HS.out.pb.box.gr hg3).cell 0 (by simp)
      have y1 := (HS.out.pb.box.gr hg3).cell 1 (by simp)
      have y2 := (HS.out.pb.box.gr hg3).cell 2 (by simp)
      have yh := (HS.out.pb.box.gr hg3).has
      simp only [List.getElem_cons_zero, List.getElem_cons_succ] at y0 y1 y2
      clear hg3 S1 q0 qh
      go_wp2_with fail
      refine (N1.out w3 G3.out).mono ?_
      rintro e w4 ⟨rfl, hg4⟩
      have S4 := Lib.hid (HS.out.grow (G3.out.trans hg4))
      clear hg4 N1 G3 y0 y1 y2 yh HS
      have y0 := S4.out.pb.box.cell 0 (by simp)
      have y1 := S4.out.pb.box.cell 1 (by simp)
      have y2 := S4.out.pb.box.cell 2 (by simp)
      have yh := S4.out.pb.box.has
      simp only [List.getElem_cons_zero, List.getElem_cons_succ] at y0 y1 y2
      by_cases hml : last < m
      · have hb : decide (m ≤ last) = false := decide_eq_false (by omega)
        have SCm := scalm_any l ms s al am cl cm BK w4 (HE.out.gr S4.out.pb.gr) SK.out S4.out.pb.kn
        rw [HM.out] at SCm
        have SC' := Lib.hid SCm
        have ML := Lib.hid hml
        clear SCm hml
        cases hc : calS l ms s with
        | false =>
          rw [hc] at SC'
          have HC := Lib.hid hc
          clear hc
          go_wp2_with fail
          refine SC'.out.mono ?_
          rintro e w5 ⟨rfl, hk5, hg5⟩
          have S5 := Lib.hid (S4.out.known BKL.out nmk.out hg5 hk5)
          clear hk5 hg5
          go_wp2_with fail
          go_ret
          refine ⟨?_, S5.out.pb.gr⟩
          have hn : ¬ P := by
            rw [HP.out]
            rintro ⟨hr, _⟩
            have := (hr.le (k := k + 1) (by omega)).2.1
            rw [getD_at hlt, HSK.out, HC.out] at this
            cases this
          rw [decide_eq_false hn]; rfl
        | true =>
          rw [hc] at SC'
          have HC := Lib.hid hc
          clear hc
          go_wp2_with fail
          refine SC'.out.mono ?_
          rintro e w5 ⟨rfl, hk5, hg5⟩
          have S5 := Lib.hid (S4.out.known BKL.out nmk.out hg5 hk5)
          clear hk5 hg5 y0 y1 y2 yh S4
          go_wp2_with fail
          have hlk : look (entV l (cs.take k)) m = none := by
            rw [← HM.out, ← HSK.out]
            exact look_ent_new hlt S5.out.ris (by rw [HL.out, HSK.out, HM.out]; exact ML.out)
          have SR := run_store_bool (w := w5.drew) (S5.out.map.gr (Gr.refl _).drew) (k := m) (by rw [← HM.out]; exact wide_num HE.out.chk SK.out) hlk (by rw [entV_len, List.length_take]; unfold maxLen; omega) true
          refine wp_code_eq (c := Code.region 14 (regIn 14 Tryz.f32) true) (by kernel_rfl) (ch14 (R := fun w' => MapB w' BM (entV l (cs.take k) ++ [(m, true)]) ∧ w5.drew.grownBy w' (some BM)) (wr := w5) (n := m) (BI := BI) (BM := BM) S5.out.bi SR ?_)
          intro t53 t54 t55 wx hx
          simp only [ch14A]
          have S6 : Hid (HSt l ms al am cl cm BK XP BI BM cs w (k + 1) wx) := Lib.hid ((S5.out.grow (Gr.refl _).drew).put bm.out nmk.out hlt (by rw [HSK.out]; exact HC.out) (by rw [HL.out, HSK.out, HM.out]; exact ML.out) hx.2 (by rw [HSK.out, HM.out]; exact hx.1))
          clear hx SR hlk
          go_wp2_with fail
          go_roundw
          case rel => exact ⟨k + 1, by go_num, by rw [← HM.out, ← HSK.out]; simp only [lastN]; rw [getD_at hlt], by omega, S6.out⟩
          case measure => simp [intOf]; omega
      · have hb : decide (m ≤ last) = true := decide_eq_true (by omega)
        have ML := Lib.hid hml
        clear hml
        go_wp2_with fail
        go_ret
        refine ⟨?_, S4.out.pb.gr⟩
        have hn : ¬ P := by
          rw [HP.out]
          rintro ⟨hr, _⟩
          have := (hr.le (k := k + 1) (by omega)).2.2
          rw [getD_at hlt, HSK.out, HM.out, HL.out] at this
          have := ML.out
          omega
        rw [decide_eq_false hn]; rfl
    · obtain rfl : k = cs.length := by omega
      have MPk := hS.map
      rw [List.take_length] at MPk
      have RIS := Lib.hid hS.ris
      have MP := Lib.hid MPk
      obtain ⟨x, hx⟩ : ∃ x, decide (f ∈ cs) = x := ⟨_, rfl⟩
      obtain ⟨y, hy⟩ : ∃ y, decide (t ∈ cs) = y := ⟨_, rfl⟩
      have HX := Lib.hid hx
      have HY := Lib.hid hy
      have NXI : Hid (BI ≠ XP) := Lib.hid (hS.bi.s.apart hS.pb.box.s (by decide))
      have NMX : Hid (BM ≠ XP) := Lib.hid (hS.map.ne_row hS.pb.box)
      have NKI : Hid (BK ≠ BI) := Lib.hid (by obtain ⟨V9, hm9, _⟩ := hS.pb.kn; exact hm9.ne_row hS.bi)
      have PBs := Lib.hid (show PB l ms al am cl cm BK XP w wr wr from ⟨hS.pb.box, hS.pb.kn, hS.pb.gr, Nat.le_refl _⟩)
      have BIs := Lib.hid hS.bi
      have HSZ := Lib.hid hS.pb.size
      clear hS MPk hx hy
      have SFl := SF.out
      have STl := ST.out
      go_wp2_with fail
      refine wp_code_eq (c := Code.region 16 (regIn 16 Tryz.f32) true) (by kernel_rfl) (ch16 (w0 := w) (wr := wr) (l := l) (ms := ms) (f := f) (t := t) (al := al) (am := am) (af := af) (at' := at') (cl := cl) (cm := cm) (cf := cf) (ct := ct) (BK := BK) (XP := XP) (BI := BI) (BM := BM) (x := x) (y := y) PBs.out BIs.out MP.out HE.out HO.out TF.out TT.out SFl STl HX.out HY.out ?_)
      intro t57 t58 t59 t60 t61 t62 t63 t64 t65 t66 t67 t68 t69 BW w8 hg8 hbw hrow
      simp only [ch16tA]
      have P8 := Lib.hid (PBs.out.grow hg8)
      have W8 := Lib.hid hrow
      have B8 := Lib.hid (BIs.out.gr hg8)
      obtain ⟨D, hown, hhas, hat0⟩ := MP.out.gr hg8
      rw [entV_len] at hown
      have HH := Lib.hid hhas
      have HA := Lib.hid hat0
      have LBW := Lib.hid hbw
      have i0 := B8.out.cell 0 (by simp)
      have ih := B8.out.has
      simp only [List.getElem_cons_zero] at i0
      have hk8 : Has wr XP ∧ Has wr BK ∧ Has wr BI ∧ Has wr BM := ⟨PBs.out.box.has, PBs.out.kn.has, BIs.out.has, MP.out.has⟩
      have HK8 := Lib.hid hk8
      have Z8 := Lib.hid hg8.size
      obtain ⟨BR, hBR⟩ : ∃ BR : Nat, Hid (w8.heap.size = BR) := ⟨_, Lib.hid rfl⟩
      clear hg8 hrow hhas hat0 hbw SFl STl PBs BIs MP hk8
      go_wp2_with (first
        | (at_range; refine wpList_range_own _ rfl _ 125 rfl 3 4 keyed_int Tryz.underlying125 _ BM _ _ rfl hown ?_; intro w9 hrg0 hg0 hs0; rw [hBR.out] at hrg0 ⊢)
        | fail)
      go_frame
      have C9 : Hid (CSt l w.heap.size BW BI BM BR cs D (Maps.has D) (Maps.size D) (wholeB l (calS l ms) cs (x && !y) (Maps.has D)) w9 [XP, BK]) := Lib.hid (by
        have g9 : Gr w8 w9 := (Gr.refl _).grown hg0 (fun k e => by cases e)
        rw [whole_start (fun s hs => by rw [HH.out, look_ent HO.out (HO.out s hs), if_pos hs]; rfl)]
        have h1 := HK8.out
        have h2 := LBW.out
        have h3 := hBR.out
        have h4 := Z8.out
        have h5 := HSZ.out
        have h6 := W8.out.has
        have h7 := NXI.out
        have h8 := NMX.out
        have h9 := NKI.out
        have h10 := nmk.out
        unfold Has at h1 h6
        obtain ⟨a1, a2, a3, a4⟩ := h1
        refine ⟨W8.out.gr g9, B8.out.gr g9, hrg0, HH.out, HA.out, ⟨?_, ?_, ?_, ?_⟩, ⟨by omega, bi.out, bm.out, by omega⟩⟩
        · simp only [List.mem_cons, List.not_mem_nil, or_false]; omega
        · simp only [List.mem_cons, List.not_mem_nil, or_false]; omega
        · simp only [List.mem_cons, List.not_mem_nil, or_false]; omega
        · simp only [List.mem_cons, List.not_mem_nil, or_false]; omega)
      have P9 := Lib.hid (P8.out.grow ((Gr.refl _).grown hg0 (fun k e => by cases e)))
      clear hrg0 hg0 hs0 hown i0 ih P8 W8 B8
      obtain ⟨wv, hwv⟩ : ∃ wv : World, wv = wr := ⟨_, rfl⟩
      rw [← hwv] at *
      clear hwv
      go_loopw [19] (fun _ wx => ∃ (left : Lit → Bool) (cnt : Nat), CSt l w.heap.size BW BI BM BR cs D left cnt (wholeB l (calS l ms) cs (x && !y) left) wx [XP, BK] ∧ PB l ms al am cl cm BK XP w w wx) (fun _ wx => wx.rangeLeft BM BR)
      case atStart => exact ⟨_, _, C9.out, P9.out.box, P9.out.kn, P9.out.gr, P9.out.gr.size⟩
      case round =>
        clear C9 P9
        obtain ⟨left, cnt, hC, hPB⟩ := hrel
        have CC := Lib.hid hC
        have PP := Lib.hid hPB
        have w0c := hC.whole.cell 0 (by simp)
        have w0h := hC.whole.has
        have i0 := hC.box.cell 0 (by simp)
        have ih := hC.box.has
        have hit := hC.it
        simp only [List.getElem_cons_zero] at w0c i0
        obtain ⟨wb, hwb⟩ : ∃ wb, wholeB l (calS l ms) cs (x && !y) left = wb := ⟨_, rfl⟩
        rw [hwb] at w0c
        have WB := Lib.hid hwb
        clear hC hPB hwb
        go_wp2_with (first
          | (at_next; refine wpList_next_ranges _ rfl _ rfl 3 keyed_int (plainElem Tryz.prog 4) (Value.int .i64) (fun v : Value => v) (fun key kl hkey => by obtain ⟨x, rfl, _⟩ := Maps.keyOf_int_inv Tryz.underlying3 hkey; exact ⟨x, rfl⟩) (fun v y hv => ⟨v, rfl⟩) BM BR cs.length _ _ _ rfl hit ?_ ?_)
          | fail)
        · intro _ hl0
          go_wp2_with fail
          go_ret
          refine ⟨?_, PP.out.gr⟩
          rw [← WB.out, ← HX.out, ← HY.out, whole_end hl0 RIS.out, HP.out]; rfl
        · intro xk cb kl yd yp w5 cnt5 hkey hlk hv hat hrg5 hlt5 hg5 hs5 hen
          obtain ⟨x', ex, rfl, _⟩ := Maps.keyOf_int_inv Tryz.underlying3 hkey
          cases ex
          have HXk : (look (entV l cs) xk).isSome = true := by rw [← HH.out xk]; exact Maps.has_true_of_atKey hat
          obtain ⟨s, hsm, rfl⟩ := ent_mem HXk
          have C5 := CC.out.next hrg5 hg5
          have NR : BR ≠ BW := (ranges_row CC.out.it CC.out.whole).2
          have P5 : PB l ms al am cl cm BK XP w w w5 := by
            have h1 := CC.out.off.2.2.2
            simp only [List.mem_cons, List.not_mem_nil, or_false, not_or] at h1
            exact ⟨PP.out.box.grown hg5 (by intro e; injection e with e; exact h1.1 e.symm), PP.out.kn.kept hg5 (by intro e; injection e with e; exact h1.2 e.symm), PP.out.gr.grown hg5 (fun k e => by injection e with e; subst e; exact CC.out.low.2.2.2), Nat.le_trans PP.out.size hg5.size⟩
          have hsk := HO.out s hsm
          have EC := eachC_any (CSt l w.heap.size BW BI BM BR cs D (fun z => left z && !z.sameKey (.int .i64 (num l s))) cnt5) (cStep cs) l ms s al am cl cm BK BW BI [XP, BK] w w5 (wholeB l (calS l ms) cs (x && !y) left) HE.out P5.gr hsk P5.kn BKL.out
            (fun b hb => by
              simp only [List.mem_cons, List.not_mem_nil, or_false] at hb
              rcases hb with e | e
              · subst e; exact P5.box.has
              · subst e; exact P5.kn.has) (by simp) (cst_ok l w.heap.size BW BI BM BR cs D _ cnt5) C5.start (check1_any l (calS l ms) BW BI BM BR cs D _ cnt5 s w HE.out.chk hsk HO.out NR)
          rw [whole_step HO.out hsm] at EC
          have NXK : Hid (XP ≠ BK) := Lib.hid (by obtain ⟨V9, hm9, _⟩ := P5.kn; exact Ne.symm (hm9.ne_row P5.box))
          have P5' := Lib.hid P5
          have EC' := Lib.hid EC
          have LE := Lib.hid hit.left_eq
          have LT := Lib.hid hlt5
          have y0 := P5.box.cell 0 (by simp)
          have y1 := P5.box.cell 1 (by simp)
          have y2 := P5.box.cell 2 (by simp)
          have yh := P5.box.has
          simp only [List.getElem_cons_zero, List.getElem_cons_succ] at y0 y1 y2
          obtain ⟨m, hm⟩ : ∃ m, num l s = m := ⟨_, rfl⟩
          rw [hm] at hen EC' ⊢
          have HM := Lib.hid hm
          clear EC P5 C5 NR hkey hlk hv hat hrg5 hlt5 hg5 hs5 HXk hit w0c w0h i0 ih CC PP WB hm hsk
          go_wp2_with fail
          refine EC'.out.mono ?_
          rintro e w6 ⟨rfl, i1, i2, i3, i4, i5⟩
          have I1 := Lib.hid i1
          have P6 : Hid (PB l ms al am cl cm BK XP w w w6) := Lib.hid ⟨by have := P5'.out.box; unfold Row at this ⊢; rw [i4 XP (by simp) NXK.out]; exact this, i3, i2, i2.size⟩
          clear i1 i2 i3 i4 i5 EC'
          go_wp2_with fail
          go_roundw
          case rel => exact ⟨_, cnt5, I1.out, P6.out⟩
          case measure => rw [I1.out.it.left_eq, LE.out]; exact LT.out
end Go.Proofs.YtenehghpmnajpaaGreatDoor
