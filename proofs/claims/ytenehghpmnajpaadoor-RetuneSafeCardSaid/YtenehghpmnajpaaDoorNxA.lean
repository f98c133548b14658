/- Contract of the reference's Next: the settings in order. -/
import Derived.Test.YtenehghpmnajpaaDoorKr
set_option linter.unusedVariables false
set_option linter.unusedSimpArgs false
namespace Go.Proofs.YtenehghpmnajpaaDoor
open Go.RowKit
open Classical

/-- The first j choices, and noughts. -/
def nxV (s : List Int) (j : Nat) : List Int := s.take j ++ List.replicate (s.length - j) 0
theorem nxV_len (s : List Int) (j : Nat) (h : j ≤ s.length) : (nxV s j).length = s.length := by simp [nxV]; omega
theorem nxV_all (s : List Int) : nxV s s.length = s := by simp [nxV]
theorem nxV_at (s : List Int) (j : Nat) (h : j < s.length) : (nxV s (j + 1))[j]'(by rw [nxV_len s (j + 1) (by omega)]; exact h) = s[j] := by
  simp only [nxV]
  rw [List.getElem_append_left (by simp; omega)]; simp
theorem nxV_step (s : List Int) (j : Nat) (h : j < s.length) : (nxV s (j + 1)).set j 0 = nxV s j := by
  have hr : s.length - j = (s.length - (j + 1)) + 1 := by omega
  simp only [nxV]
  rw [take_snoc_get s j h, hr, List.replicate_succ, List.append_assoc, List.set_append_right _ _ (by simp; omega)]
  simp [Nat.min_eq_left (Nat.le_of_lt h)]
theorem sOf_nxV {s : List Int} {j i : Nat} (hj : j ≤ s.length) (hi : i < s.length) : sOf (nxV s j) i = if i < j then sOf s i else 0 := by
  rw [sOf_at (by rw [nxV_len s j hj]; exact hi)]
  simp only [nxV]
  split
  · rename_i h
    rw [List.getElem_append_left (by simp; omega), sOf_at hi]; simp
  · rename_i h
    rw [List.getElem_append_right (by simp; omega)]; simp
/-- The last choice everywhere from j on. -/
def AllLast (l : List Clk) (s : List Int) (j : Nat) : Prop := ∀ i, j ≤ i → i < l.length → sOf s i = kOf l i - 1
theorem num_last {l : List Clk} {s : List Int} (h : AllLast l s 0) : num l s + 1 = (prodC l : Nat) := by
  have : ∀ j, j ≤ l.length → numU (kOf l) (sOf s) j + 1 = (prodC (l.take j) : Nat) := by
    intro j
    induction j with
    | zero => intro _; simp [numU, prodC]
    | succ j ih =>
      intro hj
      have h1 := ih (by omega)
      have h2 := h j (by omega) (by omega)
      rw [prodC_take l j (by omega), Int.natCast_mul, ← h1, ← kOf_at (l := l) (i := j) (by omega)]
      simp only [numU]
      rw [Int.add_mul]; omega
  have := this l.length (Nat.le_refl _)
  rwa [List.take_length] at this
/-- The setting after this one. -/
def nxS (s : List Int) (j : Nat) : List Int := (nxV s (j + 1)).set j (sOf s j + 1)
theorem sOf_nxS {s : List Int} {j i : Nat} (hj : j < s.length) (hi : i < s.length) : sOf (nxS s j) i = if i < j then sOf s i else if i = j then sOf s j + 1 else 0 := by
  unfold nxS
  rw [sOf_set (by rw [nxV_len s (j + 1) (by omega)]; exact hj), sOf_nxV (by omega) hi]
  split
  · rename_i h; subst h; simp
  · rename_i h
    split
    · rw [if_pos (by omega)]
    · rw [if_neg (by omega)]
theorem nxS_ok {l : List Clk} {s : List Int} {j : Nat} (hs : SetOk l s) (hj : j < l.length) (h : sOf s j + 1 < kOf l j) (hk : ∀ i, i < l.length → 1 ≤ kOf l i) : SetOk l (nxS s j) := by
  have hl := hs.1
  refine setOk_of (by unfold nxS; rw [List.length_set, nxV_len s (j + 1) (by omega)]; exact hl) fun i hi => ?_
  rw [sOf_nxS (by omega) (by omega)]
  have := hs.at hi
  have := hs.at hj
  have := hk i hi
  split
  · omega
  · split
    · rename_i e; subst e; omega
    · omega
theorem num_nxS {l : List Clk} {s : List Int} {j : Nat} (hs : SetOk l s) (hj : j < l.length) (hlast : AllLast l s (j + 1)) : num l (nxS s j) = num l s + 1 := by
  have hl := hs.1
  have low : ∀ i, i ≤ j → numU (kOf l) (sOf (nxS s j)) i = numU (kOf l) (sOf s) i := by
    intro i
    induction i with
    | zero => intro _; rfl
    | succ i ih =>
      intro hi
      simp only [numU]
      rw [ih (by omega), sOf_nxS (by omega) (by omega), if_pos (by omega)]
  have high : ∀ d, j + 1 + d ≤ l.length → numU (kOf l) (sOf (nxS s j)) (j + 1 + d) = numU (kOf l) (sOf s) (j + 1 + d) + 1 := by
    intro d
    induction d with
    | zero =>
      intro _
      simp only [numU, Nat.add_zero]
      rw [low j (Nat.le_refl _), sOf_nxS (by omega) (by omega), if_neg (by omega), if_pos rfl]; omega
    | succ d ih =>
      intro hd
      have h1 := ih (by omega)
      have h2 := hlast (j + 1 + d) (by omega) (by omega)
      rw [show j + 1 + (d + 1) = (j + 1 + d) + 1 by omega]
      simp only [numU]
      rw [h1, sOf_nxS (by omega) (by omega), if_neg (by omega), if_neg (by omega), h2, Int.add_mul]; omega
  have := high (l.length - (j + 1)) (by omega)
  rwa [show j + 1 + (l.length - (j + 1)) = l.length by omega] at this
theorem wpList_append_fresh {P : Program} (w : World) {ops : Array Oper} {rest : List Oper} {o : Oper} {a : Act} {Q : Exit → Act → World → Prop} (hgd : o.guard = none) (s x : Operand) (t : TypeId)
    (ho : o.op = .call { callee := .builtin .append, args := #[s, x], argTypes := #[t, t] }) (e : TypeId) (i : TypeInfo) (z : Value) (bytes : Nat) (ht : P.underlying t = some (.slice e)) (hi : P.info? e = some i) (hz : i.zero = some z) (hs : i.size = 1) (hb : i.bytes = bytes)
    (b ad : Addr) (m c : Nat) (news : List Value) (hv : a.eval s = .slice (some b) 0 0) (hx : a.eval x = .slice (some ad) m c) (hl : news.length = m) (hnews : ∀ j u, news[j]? = some u → w.cell? (ad.add j) = some u) (hm : 0 < m) (h63 : m ≤ 1000000) (hbytes : bytes ≤ 8) (H : Nat) (hH : w.heap.size = H)
    (h : ∀ cap Z, m ≤ cap → wpList P ops Q rest (a.put o.dst (.slice (some ⟨H, 0, none⟩) m cap)) (w.drew.alloc (.cells (news.toArray ++ Z) e))) : wpList P ops Q (o :: rest) a w := by
  subst hH
  refine wpList_plain hgd fun K hK => ?_
  obtain ⟨cap, Z, hc, hr⟩ := run_append_fresh (P := P) w t o.type e i z bytes ht hi hz hs hb b ad m c news hl hnews hm h63 hbytes
  unfold Oper.wp execOp
  simp only [ho, resolve, invoke, builtin, Sem.run_bind, Sem.run_pure, Result.andThen_ok, List.map_toArray, List.map_cons, List.map_nil, hv, hx, hr]
  exact hK _ _ (h cap Z hc)
/-- The setting after this one, or none if it is the last one. -/
def GivesNext (w : World) (l : List Clk) (s : List Int) (e : Ending) (w' : World) : Prop :=
  Gr w w' ∧ ((∃ t B c, e = .returned (.tuple #[.slice (some ⟨B, 0, none⟩) l.length c, .bool true]) ∧ RowS w' B 3 (nums t) ∧ w.heap.size ≤ B ∧ SetOk l t ∧ num l t = num l s + 1) ∨
    (e = .returned (.tuple #[.slice none 0 0, .bool false]) ∧ num l s + 1 = (prodC l : Nat)))
set_option maxRecDepth 100000 in
set_option maxHeartbeats 2000000 in
theorem next_any (l : List Clk) (s : List Int) (al aS : Option Addr) (cl cs : Nat) (w : World) (h : SlOf 5 RClk w al l) (hs : SlOf 1 RI w aS s) (hc : cchk l = 0) (hset : SetOk l s) (hl1 : 1 ≤ l.length) :
    Calls Tryd.prog 33 #[.slice al l.length cl, .slice aS s.length cs] w (GivesNext w l s) := by
  have hl := small_len (cchk_zero hc).1
  have hsl : s.length = l.length := hset.1
  obtain ⟨i0, hi, hz0, hz1, hz2⟩ := info_parts infoInt
  obtain ⟨bs, os, rfl, h00⟩ := hs 0 (by omega)
  have cs0 := slI_cells (b := bs) (o := os) (s := none) (vs := s) (w := w) hs
  have CS := Lib.hid cs0
  have H := Lib.hid h
  have HT := Lib.hid hset
  have HC := Lib.hid hc
  have NB := Lib.hid (cchk_zero hc).1
  have SW := Lib.hid (setOk_wide hc hset)
  have HSL := Lib.hid hsl
  have gE : Gr w (w.alloc (.cells #[] 3)) := (Gr.refl _).alloc _
  have CS1 : Hid (∀ j u, (nums s)[j]? = some u → (w.alloc (.cells #[] 3)).cell? ((⟨bs, os, none⟩ : Addr).add j) = some u) := Lib.hid (fun j u hu => cell_gr gE (CS.out j u hu))
  rw [hsl]
  clear h00 h hset hc cs0 hsl gE hs
  go_enter Tryd.func33, Tryd.ntmps33
  go_wp2_with (first
    | (at_builtin; refine wpList_append_fresh _ rfl _ _ 22 rfl 3 i0 (.int .i64 0) 8 Tryd.underlying22 hi hz0 hz1 hz2 ⟨w.heap.size, 0, none⟩ ⟨bs, os, none⟩ l.length cs (nums s) rfl rfl (by rw [nums_len]; exact HSL.out) CS1.out (by omega) (by omega) (by omega) (w.heap.size + 1) (by simp) ?_; intro cap Z hcap)
    | fail)
  obtain ⟨NB0, hNB0⟩ : ∃ NB0 : Nat, Hid (w.heap.size + 1 = NB0) := ⟨_, Lib.hid rfl⟩
  rw [hNB0.out]
  obtain ⟨W2, hW2⟩ : ∃ W2 : World, Hid (W2 = ((w.alloc (.cells #[] 3)).alloc (.cells ((nums s).toArray ++ Z) 3)).drew) := ⟨_, Lib.hid rfl⟩
  rw [← hW2.out]
  have R2 : Hid (RowS W2 NB0 3 (nums (nxV s l.length))) := Lib.hid (by
    have e : nxV s l.length = s := by have := HSL.out; rw [← this]; exact nxV_all s
    rw [hW2.out, e]
    exact (row_fresh' _ (nums s) Z 3 NB0 (by rw [← hNB0.out]; simp)).drew)
  have G2 : Hid (Gr w W2) := Lib.hid (by rw [hW2.out]; exact (((Gr.refl _).alloc _).alloc _).drew)
  have nb0 : Hid (w.heap.size ≤ NB0) := Lib.hid (by have := hNB0.out; omega)
  clear hW2 hNB0
  go_loopw [7] (fun i wr => ∃ j : Nat, j ≤ l.length ∧ i = .int .i64 ((j : Int) - 1) ∧ RowS wr NB0 3 (nums (nxV s j)) ∧ AllLast l s j ∧ Gr w wr) (fun i _ => (intOf i + 1).toNat)
  case atStart => exact ⟨l.length, Nat.le_refl _, by go_num, R2.out, fun i h1 h2 => by omega, G2.out⟩
  case round =>
    clear R2 G2
    obtain ⟨j', hj', rfl, hr, hla, hg⟩ := hrel
    have HR := Lib.hid hr
    have LA := Lib.hid hla
    have HG := Lib.hid hg
    clear hr hla hg
    cases j' with
    | zero =>
      go_wp2_with fail
      go_ret2
      exact ⟨HG.out, .inr ⟨rfl, num_last LA.out⟩⟩
    | succ j =>
      rw [show ((j + 1 : Nat) : Int) - 1 = (j : Int) by omega]
      have hjl : j < l.length := by omega
      have hjs : j < s.length := by have := HSL.out; omega
      obtain ⟨k0, k1⟩ := HT.out.2 j hjl hjs
      obtain ⟨fp, fc⟩ := small_at NB.out hjl
      obtain ⟨b, o, rfl, ⟨d0, _⟩, ⟨ap, cp, d1, _⟩, ⟨ac, cc, d2, _, d2f, _⟩, ⟨d3, _⟩, ⟨d4, _⟩⟩ := clks_gr H.out HG.out j hjl
      have hlen : j < (nums (nxV s (j + 1))).length := by rw [nums_len, nxV_len s (j + 1) (by omega)]; exact hjs
      have e0 := HR.out.cell j hlen
      have hz : (nums (nxV s (j + 1)))[j] = .int .i64 s[j] := by simp [nums, nxV_at s j hjs]
      rw [hz] at e0
      have f0 := HR.out.free j
      have rh := HR.out.has
      have k2 : (j : Int) < l.length := by omega
      have EK : Hid (kOf l j = (l[j].choices.length : Int)) := Lib.hid (kOf_at hjl)
      have ES : Hid (sOf s j = s[j]) := Lib.hid (sOf_at hjs)
      have R1 : Hid (RowS (wr.setCell ⟨NB0, j, none⟩ (.int .i64 (s[j] + 1))) NB0 3 (nums (nxS s j))) := Lib.hid (by
        have := HR.out.set j hlen (.int .i64 (s[j] + 1))
        rw [nums_set] at this
        unfold nxS; rw [ES.out]; exact this)
      have nd : ∀ {C : Nat}, Has wr C → True := fun _ => trivial
      have dne : ¬ (b = NB0) := by
        intro e
        subst e
        have h5 := clks_gr H.out (Gr.refl w) j hjl
        obtain ⟨b', o', e', ⟨q0, _⟩, _⟩ := h5
        cases e'
        have := has_of_cell q0
        have := nb0.out
        unfold Has at *; omega
      have dne2 : ¬ (NB0 = b) := fun e => dne e.symm
      unfold Fit at d2f
      clear hz hlen
      by_cases hlt : s[j] + 1 < l[j].choices.length
      · have hd : decide (s[j] + 1 < (l[j].choices.length : Int)) = true := decide_eq_true hlt
        have OK : Hid (SetOk l (nxS s j)) := Lib.hid (nxS_ok HT.out hjl (by rw [EK.out, ES.out]; exact hlt) (fun i hi => by
          rw [kOf_at hi]
          have := allOk_cho (cchk_zero HC.out).2.1 _ (List.getElem_mem hi)
          omega))
        have NM := Lib.hid (num_nxS HT.out hjl LA.out)
        clear hlt
        go_wp2_with fail
        go_quiet (fail)
        go_wp2_with fail
        go_ret2
        exact ⟨(HG.out.setc nb0.out).drewN _, .inl ⟨nxS s j, NB0, cap, rfl, R1.out.drewN _, nb0.out, OK.out, NM.out⟩⟩
      · have hd : decide (s[j] + 1 < (l[j].choices.length : Int)) = false := decide_eq_false hlt
        have LA2 : Hid (AllLast l s j) := Lib.hid (fun i h1 h2 => by
          by_cases e : i = j
          · subst e; rw [EK.out, ES.out]; omega
          · exact LA.out i (by omega) h2)
        clear hlt
        go_wp2_with fail
        go_quiet (fail)
        go_wp2_with fail
        go_roundw
        case rel =>
          refine ⟨j, by omega, by go_num, ?_, LA2.out, ?_⟩
          · have q := ((R1.out.drewN nq).iset j (by
              unfold nxS
              rw [List.length_set, nxV_len s (j + 1) (by omega)]; exact hjs) 0)
            unfold nxS at q
            rw [List.set_set, nxV_step s j hjs] at q
            exact q
          · exact ((HG.out.setc nb0.out).drewN nq).setc nb0.out
        case measure => simp [intOf]
end Go.Proofs.YtenehghpmnajpaaDoor
