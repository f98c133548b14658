/- States of both sides, for a plan whose writes are right (printed by wip/tools/states.py). -/
import Derived.Test.YtoenkcojfogmmaaRfd
import Derived.Test.YtoenkcojfogmmaaMkA
import Derived.Deep.RegionLaw
set_option linter.unusedVariables false
set_option linter.unusedSimpArgs false
namespace Go.Proofs.Ytoenkcojfogmmaa
open Go.RowKit
open Classical

noncomputable def runW (r : Rls) (ps : List Wri) : Rls := ps.foldl applyR r
noncomputable def stsK (r : Rls) (ps : List Wri) (k : Nat) : List Rls := (List.range (k + 1)).map fun i => runW r (ps.take i)
theorem stsK_len (r : Rls) (ps : List Wri) (k : Nat) : (stsK r ps k).length = k + 1 := by simp [stsK]
theorem stsK_at (r : Rls) (ps : List Wri) (k i : Nat) (h : i < (stsK r ps k).length) : (stsK r ps k)[i] = runW r (ps.take i) := by simp [stsK]
theorem stsK_succ (r : Rls) (ps : List Wri) (k : Nat) : stsK r ps (k + 1) = stsK r ps k ++ [runW r (ps.take (k + 1))] := by
  unfold stsK; rw [List.range_succ (n := k + 1), List.map_append]; rfl
theorem runW_succ (r : Rls) (ps : List Wri) (k : Nat) (h : k < ps.length) : runW r (ps.take (k + 1)) = applyR (runW r (ps.take k)) ps[k] := by
  unfold runW; rw [show ps.take (k + 1) = ps.take k ++ [ps[k]] from by rw [List.take_add_one, List.getElem?_eq_getElem h]; rfl, List.foldl_append]; rfl
theorem runW_ok {l : List Sup} {r : Rls} (ps : List Wri) (hr : RlsOk l r) (hw : ∀ p ∈ ps, WOk l p) : RlsOk l (runW r ps) := by
  unfold runW
  induction ps generalizing r with
  | nil => exact hr
  | cons p ps ih => exact ih (applyR_ok (hw p (by simp)) hr) (fun q hq => hw q (by simp [hq]))
theorem runW_take_ok {l : List Sup} {r : Rls} (ps : List Wri) (hr : RlsOk l r) (hw : ∀ p ∈ ps, WOk l p) (k : Nat) : RlsOk l (runW r (ps.take k)) := runW_ok _ hr (fun p hp => hw p (List.mem_of_mem_take hp))
theorem infoRls : (Try.prog.info? 31).map (fun i => (i.zero, i.size, i.bytes)) = some (some (.agg #[.slice none 0 0, .slice none 0 0]), 2, 48) := by kernel_rfl
abbrev RT := Rls × (Option Addr × Nat) × (Option Addr × Nat)
def encR (t : RT) : List Value := [.slice t.2.1.1 t.1.on.length t.2.1.2, .slice t.2.2.1 t.1.level.length t.2.2.2]
theorem encR_len (t : RT) : (encR t).length = 2 := rfl
theorem encR_one (t : RT) : ∀ u ∈ encR t, u.oneCell' = true := by
  intro u hu
  simp only [encR, List.mem_cons, List.not_mem_nil, or_false] at hu
  rcases hu with rfl | rfl <;> rfl
def RlRows (w : World) (ts : List RT) : Prop := ∀ t ∈ ts, Own1 0 w 4 (bools t.1.on) t.2.1.1 ∧ Own1 0 w 3 (nums t.1.level) t.2.2.1 ∧ t.1.on.length ≤ t.2.1.2 ∧ t.1.level.length ≤ t.2.2.2
theorem RlRows.gr {w w' : World} {ts : List RT} (h : RlRows w ts) (hg : Gr w w') : RlRows w' ts := fun t ht => by
  obtain ⟨h1, h2, h3⟩ := h t ht
  exact ⟨h1.gr hg, h2.gr hg, h3⟩
theorem RlRows.grown {w w' : World} {ts : List RT} {base n : Nat} {v : Value} {xs : List Value} {o : Obj} (h : RlRows w ts) (ho : w.ownsRow base 31 2 v n xs) (hg : (w.alloc o).grownBy w' v.ownBlock) : RlRows w' ts := fun t ht => by
  obtain ⟨h1, h2, h3⟩ := h t ht
  exact ⟨(h1.gr ((Gr.refl _).alloc o)).grown hg (fun B hB => owns_apart (ho.alloc o) hB (by decide)), (h2.gr ((Gr.refl _).alloc o)).grown hg (fun B hB => owns_apart (ho.alloc o) hB (by decide)), h3⟩
/-- The call returns rails of a sequence, and no error. -/
def GivesRs (w : World) (rs : List Rls) (e : Ending) (w' : World) : Prop :=
  ∃ ao cap, e = .returned (.tuple #[.slice ao rs.length cap, .int .i64 0]) ∧ rs.length ≤ cap ∧ SlOf 2 RRls w' ao rs ∧ Gr w w'
theorem rows_sl {w : World} {base : Nat} {v : Value} {ts : List RT} (h : w.ownsRow base 31 2 v ts.length (ts.flatMap encR)) (hr : RlRows w ts) (hw : ∀ t ∈ ts, (∀ k (hk : k < t.1.level.length), Wide t.1.level[k]) ∧ Fit t.1.on.length ∧ Fit t.1.level.length) (hn : 0 < ts.length) :
    ∃ a c, v = .slice a ts.length c ∧ ts.length ≤ c ∧ SlOf 2 RRls w a (ts.map fun t => t.1) := by
  obtain ⟨g, cap, rfl, hc, hb, hcell⟩ := owns_cell h hn
  refine ⟨_, cap, rfl, hc, fun k hk => ⟨g, 0, rfl, ?_⟩⟩
  have hk' : k < ts.length := by simpa using hk
  have key : ∀ j, (hj : j < 2) → w.cell? ⟨g, 0 + k * 2 + j, none⟩ = (encR ts[k])[j]? := fun j hj => by
    rw [← flat_at encR 2 encR_len ts k j hk' hj, Nat.zero_add]
    exact hcell _ (by omega)
  have hs : (ts.map fun t => t.1)[k] = ts[k].1 := by simp
  obtain ⟨r1, r2, r3, r4⟩ := hr ts[k] (List.getElem_mem hk')
  obtain ⟨w1, w2, w3⟩ := hw ts[k] (List.getElem_mem hk')
  rw [hs]
  exact ⟨⟨_, _, key 0 (by omega), r3, w2, r1.slB⟩, ⟨_, _, key 1 (by omega), r4, w3, r2.slI w1⟩⟩
theorem ok_wide {l : List Sup} {r : Rls} (h : RlsOk l r) : (∀ k (hk : k < r.level.length), Wide r.level[k]) ∧ Fit r.on.length ∧ Fit r.level.length := by
  refine ⟨lv_wide (rls_wide h), ?_⟩
  have h1 := rls_fit' h
  have h2 := h.2.1
  have h3 := h.2.2.1
  unfold Fit; omega
theorem cell_two' (w : World) (x y : Value) (t : TypeId) (B : Nat) (hB : B = w.heap.size) : ∀ j u, [x, y][j]? = some u → (w.alloc (.cells #[x, y] t)).cell? ((⟨B, 0, none⟩ : Addr).add j) = some u := by
  subst hB; exact cell_two_new w x y t
theorem Gr.owns {w w1 : World} {base e size n : Nat} {v : Value} {xs : List Value} (r : w.ownsRow base e size v n xs) (hg : Gr w w1) : w1.ownsRow base e size v n xs := by
  refine ⟨r.1, ?_⟩
  rcases r.2 with r | ⟨g, cap, cur, e, h1, h2, h3⟩
  · exact .inl r
  · exact .inr ⟨g, cap, cur, e, h1, (hg.below.block g (Array.getElem?_eq_some_iff.1 h2).1).trans h2, h3⟩

set_option maxRecDepth 100000 in
set_option maxHeartbeats 4000000 in
theorem refStates_ok (l : List Sup) (r : Rls) (ps : List Wri) (ao a1 a2 a3 : Option Addr) (cap c1 c2 c3 : Nat) (w : World) (h : SlOf 5 RSup w ao l) (h1 : SlOf 1 RB w a1 r.on) (h2 : SlOf 1 RI w a2 r.level) (h3 : SlOf 3 RWri w a3 ps)
    (k1 : r.on.length ≤ c1) (k2 : r.level.length ≤ c2) (hr : RlsOk l r) (hw : ∀ p ∈ ps, WOk l p) (hl : 0 < l.length) (hp : ps.length ≤ 1000) :
    Calls Try.prog 15 #[.slice ao l.length cap, .agg #[.slice a1 r.on.length c1, .slice a2 r.level.length c2], .slice a3 ps.length c3] w (GivesRs w (stsK r ps ps.length)) := by
  have H := Lib.hid h
  have H1 := Lib.hid h1
  have H2 := Lib.hid h2
  have H3 := Lib.hid h3
  have RO := Lib.hid hr
  have WW := Lib.hid hw
  have KK : Hid (r.on.length ≤ c1 ∧ r.level.length ≤ c2) := Lib.hid ⟨k1, k2⟩
  have n16 : l.length ≤ 16 := rls_fit' hr
  have n1 := hr.2.1
  have n2 := hr.2.2.1
  have HF : Hid (Fit l.length) := Lib.hid (by unfold Fit; omega)
  have F1 : Hid (Fit r.on.length) := Lib.hid (by unfold Fit; omega)
  have F2 : Hid (Fit r.level.length) := Lib.hid (by unfold Fit; omega)
  have M1 : Hid (r.on.length ≤ 1000000 ∧ r.level.length ≤ 1000000 ∧ 0 < r.on.length ∧ 0 < r.level.length) := Lib.hid ⟨by omega, by omega, by omega, by omega⟩
  have HC := Lib.hid hr.1
  have HRB : Hid (decide (RlsOk l r) = true) := Lib.hid (by simp [hr])
  have HBG : Hid (begR l [r] = 0) := Lib.hid (begR_of hr.1 (by simp; exact hr))
  clear h h1 h2 h3 hr hw n1 n2 k1 k2
  obtain ⟨i0, hi, hz0, hz1, hz2⟩ := info_parts infoRls
  go_enter Try.func15, Try.ntmps15
  go_wp2_with fail
  refine (refCheck_any l _ cap _ (sups_gr H.out (by repeat (first | with_reducible exact Gr.refl _ | with_reducible refine Gr.alloc _ ?_ | with_reducible refine Gr.xt _ _ ?_ | with_reducible refine Gr.drew ?_)) ) HF.out).mono ?_
  rw [HC.out]
  rintro e w' ⟨rfl, O1, d1, rfl⟩
  go_wp2_with fail
  refine (refRails_any l r _ a1 a2 cap c1 c2 _ (sups_gr H.out (by repeat (first | with_reducible exact Gr.refl _ | with_reducible refine Gr.alloc _ ?_ | with_reducible refine Gr.xt _ _ ?_ | with_reducible refine Gr.drew ?_)) ) HF.out (H1.out.giB (by repeat (first | with_reducible exact Gr.refl _ | with_reducible refine Gr.alloc _ ?_ | with_reducible refine Gr.xt _ _ ?_ | with_reducible refine Gr.drew ?_)) ) (H2.out.giI (by repeat (first | with_reducible exact Gr.refl _ | with_reducible refine Gr.alloc _ ?_ | with_reducible refine Gr.xt _ _ ?_ | with_reducible refine Gr.drew ?_)) ) F1.out F2.out).mono ?_
  rw [HRB.out]
  rintro e w' ⟨rfl, O2, d2, rfl⟩
  go_wp2_with fail
  refine (refCopied_any r a1 a2 c1 c2 _ (H1.out.giB (by repeat (first | with_reducible exact Gr.refl _ | with_reducible refine Gr.alloc _ ?_ | with_reducible refine Gr.xt _ _ ?_ | with_reducible refine Gr.drew ?_)) ) (H2.out.giI (by repeat (first | with_reducible exact Gr.refl _ | with_reducible refine Gr.alloc _ ?_ | with_reducible refine Gr.xt _ _ ?_ | with_reducible refine Gr.drew ?_)) ) M1.out.2.2.1 M1.out.2.2.2 M1.out.1 M1.out.2.1).mono ?_
  rintro e W1 ⟨a5, c5, a6, c6, rfl, hc5, hc6, o1, o2, hg⟩
  have O5 := Lib.hid o1
  have O6 := Lib.hid o2
  have G1 : Hid (Gr w W1) := Lib.hid (Gr.trans (by repeat (first | with_reducible exact Gr.refl _ | with_reducible refine Gr.alloc _ ?_ | with_reducible refine Gr.xt _ _ ?_ | with_reducible refine Gr.drew ?_)) hg)
  clear o1 o2 hg
  go_wp2_with fail
  have st0 : (W1.alloc (.cells #[.slice a5 r.on.length c5, .slice a6 r.level.length c6] 31)).ownsRow w.heap.size 31 2 (.slice (some ⟨W1.heap.size, 0, none⟩) 1 1) 1 ([(r, (a5, c5), (a6, c6))].flatMap encR) :=
    ⟨by simp [encR], .inr ⟨W1.heap.size, 1, #[.slice a5 r.on.length c5, .slice a6 r.level.length c6], rfl, G1.out.size, Row.new W1 _ _, Nat.le_refl _, by unfold maxLen; omega, rfl, by simp [encR]⟩⟩
  have ST := Lib.hid st0
  clear st0
  go_loopw [28, 9] (fun i s9 wr => ∃ (k : Nat) (ts : List RT), k ≤ ps.length ∧ i = .int .i64 k ∧ Gr w wr ∧ wr.ownsRow w.heap.size 31 2 s9 (k + 1) (ts.flatMap encR) ∧ RlRows wr ts ∧ ts.map (fun t => t.1) = stsK r ps k) (fun i _ _ => ps.length - (intOf i).toNat)
  case atStart =>
    refine ⟨0, [(r, (a5, c5), (a6, c6))], Nat.zero_le _, rfl, G1.out.alloc _, ST.out, fun t ht => ?_, by simp [stsK, runW]⟩
    rw [List.mem_singleton.1 ht]
    exact ⟨(O5.out.gr ((Gr.refl _).alloc _)).low (Nat.zero_le _), (O6.out.gr ((Gr.refl _).alloc _)).low (Nat.zero_le _), hc5, hc6⟩
  case round =>
    clear ST O5 O6 G1
    obtain ⟨k, ts, hk, rfl, hg, ho, hrr, hts⟩ := hrel
    have HG := Lib.hid hg
    have HO := Lib.hid ho
    have HR := Lib.hid hrr
    have TS := Lib.hid hts
    have htl : ts.length = k + 1 := by have := congrArg List.length hts; rw [stsK_len] at this; simpa using this
    obtain ⟨g, cg, rfl, hcg, hbg, hcell⟩ := owns_cell ho (by omega)
    by_cases hlt : k < ps.length
    · obtain ⟨b3, o3, rfl, ⟨p0, _⟩, ⟨p1, _⟩, ⟨p2, _⟩⟩ := (H3.out.gr RWri.mono HG.out) k hlt
      have hkt : k < ts.length := by omega
      have ctk : ts[k].1 = runW r (ps.take k) := by
        have h1 : (ts.map fun t => t.1)[k]? = some ts[k].1 := by simp [hkt]
        rw [hts, List.getElem?_eq_getElem (by rw [stsK_len]; omega), stsK_at] at h1
        exact (Option.some.inj h1).symm
      have e0 : wr.cell? ⟨g, k * 2, none⟩ = some (.slice ts[k].2.1.1 ts[k].1.on.length ts[k].2.1.2) := by
        rw [hcell _ (by omega)]
        have := flat_at encR 2 encR_len ts k 0 hkt (by omega)
        rw [Nat.add_zero] at this
        rw [this]; rfl
      have e1 : wr.cell? ⟨g, k * 2 + 1, none⟩ = some (.slice ts[k].2.2.1 ts[k].1.level.length ts[k].2.2.2) := by
        rw [hcell _ (by omega), flat_at encR 2 encR_len ts k 1 hkt (by omega)]; rfl
      obtain ⟨v1, v2, v3, v4⟩ := hrr ts[k] (List.getElem_mem hkt)
      have rk := Lib.hid (runW_take_ok ps RO.out WW.out k)
      have wk := ok_wide rk.out
      have S1 : Hid (SlOf 1 RB wr ts[k].2.1.1 (runW r (ps.take k)).on) := Lib.hid (by rw [← ctk]; exact v1.slB)
      have S2 : Hid (SlOf 1 RI wr ts[k].2.2.1 (runW r (ps.take k)).level) := Lib.hid (by rw [ctk] at v2; exact v2.slI wk.1)
      have WK := Lib.hid (WW.out ps[k] (List.getElem_mem hlt))
      have WF := Lib.hid wk
      have C1 : Hid ((runW r (ps.take k)).on.length ≤ ts[k].2.1.2 ∧ (runW r (ps.take k)).level.length ≤ ts[k].2.2.2) := Lib.hid (by rw [← ctk]; exact ⟨v3, v4⟩)
      have PW := Lib.hid ((H3.out k hlt))
      rw [ctk] at e0 e1
      obtain ⟨aa, haa⟩ : ∃ aa, ts[k].2.1.1 = aa := ⟨_, rfl⟩
      obtain ⟨ab, hab⟩ : ∃ ab, ts[k].2.2.1 = ab := ⟨_, rfl⟩
      obtain ⟨ca, hca⟩ : ∃ ca, ts[k].2.1.2 = ca := ⟨_, rfl⟩
      obtain ⟨cb, hcb⟩ : ∃ cb, ts[k].2.2.2 = cb := ⟨_, rfl⟩
      rw [haa, hca] at e0
      rw [hab, hcb] at e1
      rw [haa] at S1
      rw [hab] at S2
      rw [hca, hcb] at C1
      have x0 := has_of_cell e0
      have x3 := has_of_cell p0
      have g0 : (0 : Int) ≤ k := by omega
      have g1 : (k : Int) < k + 1 := by omega
      have g2 : IntKind.i64.wrap (k : Int) = k := by rw [IntKind.wrap_i64]; omega
      have g3 : ((k + 1 : Nat) : Int) - 1 = k := by omega
      have g4 : (k : Int) < ((k + 1 : Nat) : Int) := by omega
      clear hg ho hrr hts hcell v1 v2 v3 v4 wk haa hab hca hcb ctk
      go_wp2_with fail
      obtain ⟨rn, hrn⟩ : ∃ rn, rn = applyR (runW r (ps.take k)) ps[k] := ⟨_, rfl⟩
      have RN := Lib.hid hrn
      clear hrn
      go_cut [12, 13] (fun s12 s13 wx => ∃ B12 x1 x2 cx1 cx2, s12 = .pointer (some ⟨B12, 0, none⟩) ∧ s13 = .int .i64 0 ∧ wx.cell? ⟨B12, 0, none⟩ = some (.slice x1 rn.on.length cx1) ∧ wx.cell? ⟨B12, 1, none⟩ = some (.slice x2 rn.level.length cx2) ∧ rn.on.length ≤ cx1 ∧ rn.level.length ≤ cx2 ∧ Own1 0 wx 4 (bools rn.on) x1 ∧ Own1 0 wx 3 (nums rn.level) x2 ∧ Gr wr wx)
      case first =>
        go_region_law (
          (go_simp; go_at_call 31; refine (refApply_ok l (runW r (ps.take k)) ps[k] _ aa ab cap ca cb _ (sups_gr H.out (HG.out.trans (by repeat (first | with_reducible exact Gr.refl _ | with_reducible refine Gr.alloc _ ?_ | with_reducible refine Gr.xt _ _ ?_ | with_reducible refine Gr.drew ?_)) )) (S1.out.giB (by repeat (first | with_reducible exact Gr.refl _ | with_reducible refine Gr.alloc _ ?_ | with_reducible refine Gr.xt _ _ ?_ | with_reducible refine Gr.drew ?_)) ) (S2.out.giI (by repeat (first | with_reducible exact Gr.refl _ | with_reducible refine Gr.alloc _ ?_ | with_reducible refine Gr.xt _ _ ?_ | with_reducible refine Gr.drew ?_)) ) rk.out WK.out).mono ?_; rw [← RN.out]; rintro e W2 ⟨x1, x2, cx1, cx2, rfl, kx1, kx2, ox1, ox2, OO, dd, rfl⟩; (try simp only [xt_xt, xt_drew] at ox1 ox2); have X1 := Lib.hid ox1; have X2 := Lib.hid ox2; clear ox1 ox2))
        all_goals (go_wp2_with fail; go_meet)
        all_goals
          refine ⟨_, x1, x2, cx1, cx2, rfl, rfl, by simp [go_sem], by simp [go_sem], kx1, kx2, ?_, ?_, (by repeat (first | with_reducible exact Gr.refl _ | with_reducible refine Gr.alloc _ ?_ | with_reducible refine Gr.xt _ _ ?_ | with_reducible refine Gr.drew ?_))⟩
          · first
              | (with_reducible refine Own1.low (Own1.far ?_ X1.out ?_) (Nat.zero_le _)) <;> (simp <;> omega)
              | (refine Own1.low (Own1.gr X1.out ?_) (Nat.zero_le _); repeat (first | with_reducible exact Gr.refl _ | with_reducible refine Gr.drew ?_ | with_reducible refine Gr.alloc _ ?_))
          · first
              | (with_reducible refine Own1.low (Own1.far ?_ X2.out ?_) (Nat.zero_le _)) <;> (simp <;> omega)
              | (refine Own1.low (Own1.gr X2.out ?_) (Nat.zero_le _); repeat (first | with_reducible exact Gr.refl _ | with_reducible refine Gr.drew ?_ | with_reducible refine Gr.alloc _ ?_))
      obtain ⟨B12, x1, x2, cx1, cx2, rfl, rfl, y0, y1, kx1, kx2, ox1, ox2, hg2⟩ := hcut
      obtain ⟨W2, rfl⟩ : ∃ W2 : World, W2 = wc := ⟨_, rfl⟩
      have X1 := Lib.hid ox1
      have X2 := Lib.hid ox2
      have G2 := Lib.hid hg2
      have yh := has_of_cell y0
      clear ox1 ox2 hg2 e0 e1 p0 p1 p2 x0 x3
      go_wp2_with (at_builtin; refine wpList_append_own _ rfl _ _ 41 rfl w.heap.size 31 i0 (.agg #[.slice none 0 0, .slice none 0 0]) 2 48 Try.underlying41 hi hz0 hz1 hz2 rfl (by decide) (.slice (some ⟨g, 0, none⟩) (k + 1) cg) (k + 1) (ts.flatMap encR) rfl ((Gr.owns HO.out G2.out).alloc _) ⟨_, 0, none⟩ 1 1 (encR (rn, (x1, cx1), (x2, cx2))) rfl rfl (cell_two' _ _ _ _ _ (by simp)) (encR_one _) (by unfold maxLen; omega) (by omega) (by have := HG.out.size; have := G2.out.size; simp; omega) ?_; intro v' wz hown' hgrow hnil; have HOz := Lib.hid hown'; have HGz := Lib.hid hgrow; clear hown' hgrow hnil)
      go_roundw
      case rel =>
        refine ⟨k + 1, ts ++ [(rn, (x1, cx1), (x2, cx2))], by omega, by go_num, ?_, ?_, ?_, ?_⟩
        · exact ((HG.out.trans G2.out).alloc _).grown HGz.out (fun j e => by simp [Value.ownBlock] at e; omega)
        · have := HOz.out
          rw [List.flatMap_append]
          simpa using this
        · intro t ht
          rcases List.mem_append.1 ht with q | q
          · exact RlRows.grown (HR.out.gr G2.out) (Gr.owns HO.out G2.out) HGz.out t q
          · rw [List.mem_singleton.1 q]
            have hh : RlRows W2 [(rn, (x1, cx1), (x2, cx2))] := fun t ht => by rw [List.mem_singleton.1 ht]; exact ⟨X1.out, X2.out, kx1, kx2⟩
            exact RlRows.grown hh (Gr.owns HO.out G2.out) HGz.out _ (by simp)
        · rw [List.map_append, TS.out, stsK_succ, runW_succ r ps k hlt, RN.out]; rfl
      case measure => simp [intOf]; omega
    · have hkn : k = ps.length := by omega
      subst hkn
      have hw2 : ∀ t ∈ ts, (∀ k (hk : k < t.1.level.length), Wide t.1.level[k]) ∧ Fit t.1.on.length ∧ Fit t.1.level.length := fun t ht => by
        have : t.1 ∈ stsK r ps ps.length := by rw [← hts]; exact List.mem_map_of_mem ht
        obtain ⟨i, hi2, e⟩ := List.getElem_of_mem this
        rw [stsK_at] at e
        rw [← e]
        exact ok_wide (runW_take_ok ps RO.out WW.out i)
      rw [← htl] at ho
      obtain ⟨a', c', e', hc', hs'⟩ := rows_sl ho hrr hw2 (by omega)
      rw [hts] at hs'
      have SS := Lib.hid hs'
      have E' := Lib.hid e'
      clear hg ho hrr hts hcell hw2 hs' e'
      go_wp2_with fail
      refine bodyPost_ret (v := .tuple #[.slice (some ⟨g, 0, none⟩) (ps.length + 1) cg, .int .i64 0]) ?_ rfl ?_
      · simp [results, Try.results15, go_sem]
      · have e' := E'.out
        rw [htl] at e'
        cases e'
        exact ⟨_, cg, by rw [stsK_len], by rw [stsK_len]; omega, SS.out, HG.out⟩
end Go.Proofs.Ytoenkcojfogmmaa
