/- managed.filter for its function values; managed.Of (printed by wip/tools/filt.py). -/
import Derived.Test.YthpgoldahffbcaaHdD
set_option linter.unusedVariables false
set_option linter.unusedSimpArgs false
namespace Go.Proofs.Ythpgoldahffbcaa
open Go.RowKit
theorem filter_take_succ {l : List Hld} {p : Hld → Bool} {k : Nat} (hk : k < l.length) : (l.take (k + 1)).filter p = (l.take k).filter p ++ (if p l[k] = true then [l[k]] else []) := by
  rw [List.take_succ_eq_append_getElem hk, List.filter_append]
  congr 1
  cases h : p l[k] <;> simp [List.filter, h]
theorem filter_take_len (l : List Hld) (p : Hld → Bool) (k : Nat) : ((l.take k).filter p).length ≤ k := Nat.le_trans (List.length_filter_le _ _) (by rw [List.length_take]; omega)

theorem of1_any (x : Hld) (dv : Int) (q : Nat) (w : World) (hq : w.cell? ⟨q, 0, none⟩ = some (.int .i64 dv)) :
    Calls Try.prog 31 #[.agg #[.int .i64 x.device, .int .i64 x.kind, .int .i64 x.unit], .pointer (some ⟨q, 0, none⟩)] w (Grows w (.bool (x.device == dv))) := by
  have hh := has_of_cell hq
  go_enter Try.func31, Try.ntmps31
  go_wp2_with fail
  go_ret
  exact ⟨rfl, (by repeat (first | with_reducible exact Gr.refl _ | with_reducible refine Gr.alloc _ ?_ | with_reducible refine Gr.xt _ _ ?_ | with_reducible refine Gr.drew ?_))⟩

theorem ret1_any (x : Hld) (dv : Int) (q : Nat) (w : World) (hq : w.cell? ⟨q, 0, none⟩ = some (.int .i64 dv)) :
    Calls Try.prog 30 #[.agg #[.int .i64 x.device, .int .i64 x.kind, .int .i64 x.unit], .pointer (some ⟨q, 0, none⟩)] w (Grows w (.bool (x.device != dv))) := by
  have hh := has_of_cell hq
  go_enter Try.func30, Try.ntmps30
  go_wp2_with fail
  go_ret
  exact ⟨rfl, (by repeat (first | with_reducible exact Gr.refl _ | with_reducible refine Gr.alloc _ ?_ | with_reducible refine Gr.xt _ _ ?_ | with_reducible refine Gr.drew ?_))⟩

theorem usr1_any (x : Hld) (dv : Int) (q : Nat) (w : World) (hq : w.cell? ⟨q, 0, none⟩ = some (.int .i64 dv)) :
    Calls Try.prog 41 #[.agg #[.int .i64 x.device, .int .i64 x.kind, .int .i64 x.unit], .pointer (some ⟨q, 0, none⟩)] w (Grows w (.bool (x.unit == dv))) := by
  have hh := has_of_cell hq
  go_enter Try.func41, Try.ntmps41
  go_wp2_with fail
  go_ret
  exact ⟨rfl, (by repeat (first | with_reducible exact Gr.refl _ | with_reducible refine Gr.alloc _ ?_ | with_reducible refine Gr.xt _ _ ?_ | with_reducible refine Gr.drew ?_))⟩

set_option maxRecDepth 100000 in
set_option maxHeartbeats 2000000 in
theorem ofF_any (q : Nat) (dv : Int) (l : List Hld) (ao : Option Addr) (cap : Nat) (w : World) (h : SlOf 3 RHld w ao l) (hf : l.length ≤ 1000000) (hq : w.cell? ⟨q, 0, none⟩ = some (.int .i64 dv)) :
    Calls Try.prog 29 #[.slice ao l.length cap, .func (.func 31) #[] #[.pointer (some ⟨q, 0, none⟩)]] w (GivesH w (l.filter (fun x : Hld => x.device == dv))) := by
  have H := Lib.hid h
  have HQ := Lib.hid hq
  clear h hq
  obtain ⟨i0, hi, hz0, hz1, hz2⟩ := info_parts infoHld
  go_enter Try.func29, Try.ntmps29
  go_wp2_with fail
  go_loopw [10, 5] (fun i v wr => ∃ k : Nat, k ≤ l.length ∧ i = .int .i64 k ∧ wr.ownsRow w.heap.size 34 3 v ((l.take k).filter (fun x : Hld => x.device == dv)).length (encHs ((l.take k).filter (fun x : Hld => x.device == dv))) ∧ Gr w wr) (fun i _ _ => l.length - (intOf i).toNat)
  case atStart => exact ⟨0, Nat.zero_le _, rfl, owns_nil _ _ _ _, Gr.refl _⟩
  case round =>
    obtain ⟨k, hk, rfl, ho, hg⟩ := hrel
    have HO := Lib.hid ho
    have HG := Lib.hid hg
    clear ho hg
    by_cases hlt : k < l.length
    · obtain ⟨b, o, rfl, ⟨c0, -⟩, ⟨c1, -⟩, ⟨c2, -⟩⟩ := (hlds_gr H.out HG.out) k hlt
      have ch := has_of_cell c0
      have FL := Lib.hid (filter_take_succ (p := fun x : Hld => x.device == dv) hlt)
      have FN := filter_take_len l (fun x : Hld => x.device == dv) k
      obtain ⟨x, hx⟩ : ∃ x, Hid (x = l[k]) := ⟨_, Lib.hid rfl⟩
      rw [← hx.out] at c0 c1 c2 FL
      obtain ⟨cur, hcur⟩ : ∃ cur, Hid (cur = (l.take k).filter (fun x : Hld => x.device == dv)) := ⟨_, Lib.hid rfl⟩
      rw [← hcur.out] at HO FL FN
      go_wp2_with fail
      refine (of1_any x dv q _ (cell_gr (HG.out.trans (by repeat (first | with_reducible exact Gr.refl _ | with_reducible refine Gr.alloc _ ?_ | with_reducible refine Gr.xt _ _ ?_ | with_reducible refine Gr.drew ?_))) HQ.out)).mono ?_
      rintro e W1 ⟨rfl, hg1⟩
      have G1 : Hid (Gr wr W1) := Lib.hid (Gr.trans ((Gr.refl _).alloc _) hg1)
      have R1 : Hid (Row W1 wr.heap.size 34 [.int .i64 x.device, .int .i64 x.kind, .int .i64 x.unit]) := Lib.hid ((Row.new wr _ _).gr hg1)
      have r0 := R1.out.cell 0 (by simp)
      have r1 := R1.out.cell 1 (by simp)
      have r2 := R1.out.cell 2 (by simp)
      have rh := R1.out.has
      simp only [List.getElem_cons_zero, List.getElem_cons_succ] at r0 r1 r2
      clear hg1 c0 c1 c2 ch
      cases hb : (x.device == dv) with
      | true =>
        have FT : Hid ((l.take (k + 1)).filter (fun x : Hld => x.device == dv) = cur ++ [x]) := Lib.hid (by rw [FL.out, if_pos hb])
        clear hb
        go_wp2_with (at_builtin; refine wpList_append_gets _ rfl _ _ 24 rfl w.heap.size 34 i0 (.agg #[.int .i64 0, .int .i64 0, .int .i64 0]) 3 24 Try.underlying24 hi hz0 hz1 hz2 rfl (by decide) _ cur.length (encHs cur) rfl ((Gr.owns HO.out G1.out).alloc _) (some ⟨_, 0, none⟩) 1 1 (encH x) rfl ⟨rfl, fun _ => ⟨_, rfl, cell_three _ _ _ _ _ _ (by simp)⟩⟩ (encH_one x) (by unfold maxLen; omega) (by omega) (by have := HG.out.size; have := G1.out.size; simp; omega) ?_; intro v' wz hown' hgrow hnil; have OZ := Lib.hid hown'; have GZ := Lib.hid hgrow; clear hown' hgrow hnil)
        go_roundw
        case rel =>
          refine ⟨k + 1, by omega, by go_num, ?_, ?_⟩
          · rw [FT.out, encHs_snoc]
            simpa using OZ.out
          · exact Gr.grown ((HG.out.trans G1.out).alloc _) GZ.out (fun j e => (owns_block (Gr.owns HO.out G1.out) j e).1)
        case measure => simp [intOf]; omega
      | false =>
        have FT : Hid ((l.take (k + 1)).filter (fun x : Hld => x.device == dv) = cur) := Lib.hid (by rw [FL.out, if_neg (by rw [hb]; decide), List.append_nil])
        clear hb
        go_wp2_with fail
        go_roundw
        case rel => exact ⟨k + 1, by omega, by go_num, by rw [FT.out]; exact Gr.owns HO.out G1.out, HG.out.trans G1.out⟩
        case measure => simp [intOf]; omega
    · have hkn : k = l.length := by omega
      subst hkn
      rw [List.take_length] at HO
      go_wp2_with fail
      go_ret
      exact ⟨_, rfl, HO.out, HG.out⟩

set_option maxRecDepth 100000 in
set_option maxHeartbeats 2000000 in
theorem retF_any (q : Nat) (dv : Int) (l : List Hld) (ao : Option Addr) (cap : Nat) (w : World) (h : SlOf 3 RHld w ao l) (hf : l.length ≤ 1000000) (hq : w.cell? ⟨q, 0, none⟩ = some (.int .i64 dv)) :
    Calls Try.prog 29 #[.slice ao l.length cap, .func (.func 30) #[] #[.pointer (some ⟨q, 0, none⟩)]] w (GivesH w (l.filter (fun x : Hld => x.device != dv))) := by
  have H := Lib.hid h
  have HQ := Lib.hid hq
  clear h hq
  obtain ⟨i0, hi, hz0, hz1, hz2⟩ := info_parts infoHld
  go_enter Try.func29, Try.ntmps29
  go_wp2_with fail
  go_loopw [10, 5] (fun i v wr => ∃ k : Nat, k ≤ l.length ∧ i = .int .i64 k ∧ wr.ownsRow w.heap.size 34 3 v ((l.take k).filter (fun x : Hld => x.device != dv)).length (encHs ((l.take k).filter (fun x : Hld => x.device != dv))) ∧ Gr w wr) (fun i _ _ => l.length - (intOf i).toNat)
  case atStart => exact ⟨0, Nat.zero_le _, rfl, owns_nil _ _ _ _, Gr.refl _⟩
  case round =>
    obtain ⟨k, hk, rfl, ho, hg⟩ := hrel
    have HO := Lib.hid ho
    have HG := Lib.hid hg
    clear ho hg
    by_cases hlt : k < l.length
    · obtain ⟨b, o, rfl, ⟨c0, -⟩, ⟨c1, -⟩, ⟨c2, -⟩⟩ := (hlds_gr H.out HG.out) k hlt
      have ch := has_of_cell c0
      have FL := Lib.hid (filter_take_succ (p := fun x : Hld => x.device != dv) hlt)
      have FN := filter_take_len l (fun x : Hld => x.device != dv) k
      obtain ⟨x, hx⟩ : ∃ x, Hid (x = l[k]) := ⟨_, Lib.hid rfl⟩
      rw [← hx.out] at c0 c1 c2 FL
      obtain ⟨cur, hcur⟩ : ∃ cur, Hid (cur = (l.take k).filter (fun x : Hld => x.device != dv)) := ⟨_, Lib.hid rfl⟩
      rw [← hcur.out] at HO FL FN
      go_wp2_with fail
      refine (ret1_any x dv q _ (cell_gr (HG.out.trans (by repeat (first | with_reducible exact Gr.refl _ | with_reducible refine Gr.alloc _ ?_ | with_reducible refine Gr.xt _ _ ?_ | with_reducible refine Gr.drew ?_))) HQ.out)).mono ?_
      rintro e W1 ⟨rfl, hg1⟩
      have G1 : Hid (Gr wr W1) := Lib.hid (Gr.trans ((Gr.refl _).alloc _) hg1)
      have R1 : Hid (Row W1 wr.heap.size 34 [.int .i64 x.device, .int .i64 x.kind, .int .i64 x.unit]) := Lib.hid ((Row.new wr _ _).gr hg1)
      have r0 := R1.out.cell 0 (by simp)
      have r1 := R1.out.cell 1 (by simp)
      have r2 := R1.out.cell 2 (by simp)
      have rh := R1.out.has
      simp only [List.getElem_cons_zero, List.getElem_cons_succ] at r0 r1 r2
      clear hg1 c0 c1 c2 ch
      cases hb : (x.device != dv) with
      | true =>
        have FT : Hid ((l.take (k + 1)).filter (fun x : Hld => x.device != dv) = cur ++ [x]) := Lib.hid (by rw [FL.out, if_pos hb])
        clear hb
        go_wp2_with (at_builtin; refine wpList_append_gets _ rfl _ _ 24 rfl w.heap.size 34 i0 (.agg #[.int .i64 0, .int .i64 0, .int .i64 0]) 3 24 Try.underlying24 hi hz0 hz1 hz2 rfl (by decide) _ cur.length (encHs cur) rfl ((Gr.owns HO.out G1.out).alloc _) (some ⟨_, 0, none⟩) 1 1 (encH x) rfl ⟨rfl, fun _ => ⟨_, rfl, cell_three _ _ _ _ _ _ (by simp)⟩⟩ (encH_one x) (by unfold maxLen; omega) (by omega) (by have := HG.out.size; have := G1.out.size; simp; omega) ?_; intro v' wz hown' hgrow hnil; have OZ := Lib.hid hown'; have GZ := Lib.hid hgrow; clear hown' hgrow hnil)
        go_roundw
        case rel =>
          refine ⟨k + 1, by omega, by go_num, ?_, ?_⟩
          · rw [FT.out, encHs_snoc]
            simpa using OZ.out
          · exact Gr.grown ((HG.out.trans G1.out).alloc _) GZ.out (fun j e => (owns_block (Gr.owns HO.out G1.out) j e).1)
        case measure => simp [intOf]; omega
      | false =>
        have FT : Hid ((l.take (k + 1)).filter (fun x : Hld => x.device != dv) = cur) := Lib.hid (by rw [FL.out, if_neg (by rw [hb]; decide), List.append_nil])
        clear hb
        go_wp2_with fail
        go_roundw
        case rel => exact ⟨k + 1, by omega, by go_num, by rw [FT.out]; exact Gr.owns HO.out G1.out, HG.out.trans G1.out⟩
        case measure => simp [intOf]; omega
    · have hkn : k = l.length := by omega
      subst hkn
      rw [List.take_length] at HO
      go_wp2_with fail
      go_ret
      exact ⟨_, rfl, HO.out, HG.out⟩

set_option maxRecDepth 100000 in
set_option maxHeartbeats 2000000 in
theorem usrF_any (q : Nat) (dv : Int) (l : List Hld) (ao : Option Addr) (cap : Nat) (w : World) (h : SlOf 3 RHld w ao l) (hf : l.length ≤ 1000000) (hq : w.cell? ⟨q, 0, none⟩ = some (.int .i64 dv)) :
    Calls Try.prog 29 #[.slice ao l.length cap, .func (.func 41) #[] #[.pointer (some ⟨q, 0, none⟩)]] w (GivesH w (l.filter (fun x : Hld => x.unit == dv))) := by
  have H := Lib.hid h
  have HQ := Lib.hid hq
  clear h hq
  obtain ⟨i0, hi, hz0, hz1, hz2⟩ := info_parts infoHld
  go_enter Try.func29, Try.ntmps29
  go_wp2_with fail
  go_loopw [10, 5] (fun i v wr => ∃ k : Nat, k ≤ l.length ∧ i = .int .i64 k ∧ wr.ownsRow w.heap.size 34 3 v ((l.take k).filter (fun x : Hld => x.unit == dv)).length (encHs ((l.take k).filter (fun x : Hld => x.unit == dv))) ∧ Gr w wr) (fun i _ _ => l.length - (intOf i).toNat)
  case atStart => exact ⟨0, Nat.zero_le _, rfl, owns_nil _ _ _ _, Gr.refl _⟩
  case round =>
    obtain ⟨k, hk, rfl, ho, hg⟩ := hrel
    have HO := Lib.hid ho
    have HG := Lib.hid hg
    clear ho hg
    by_cases hlt : k < l.length
    · obtain ⟨b, o, rfl, ⟨c0, -⟩, ⟨c1, -⟩, ⟨c2, -⟩⟩ := (hlds_gr H.out HG.out) k hlt
      have ch := has_of_cell c0
      have FL := Lib.hid (filter_take_succ (p := fun x : Hld => x.unit == dv) hlt)
      have FN := filter_take_len l (fun x : Hld => x.unit == dv) k
      obtain ⟨x, hx⟩ : ∃ x, Hid (x = l[k]) := ⟨_, Lib.hid rfl⟩
      rw [← hx.out] at c0 c1 c2 FL
      obtain ⟨cur, hcur⟩ : ∃ cur, Hid (cur = (l.take k).filter (fun x : Hld => x.unit == dv)) := ⟨_, Lib.hid rfl⟩
      rw [← hcur.out] at HO FL FN
      go_wp2_with fail
      refine (usr1_any x dv q _ (cell_gr (HG.out.trans (by repeat (first | with_reducible exact Gr.refl _ | with_reducible refine Gr.alloc _ ?_ | with_reducible refine Gr.xt _ _ ?_ | with_reducible refine Gr.drew ?_))) HQ.out)).mono ?_
      rintro e W1 ⟨rfl, hg1⟩
      have G1 : Hid (Gr wr W1) := Lib.hid (Gr.trans ((Gr.refl _).alloc _) hg1)
      have R1 : Hid (Row W1 wr.heap.size 34 [.int .i64 x.device, .int .i64 x.kind, .int .i64 x.unit]) := Lib.hid ((Row.new wr _ _).gr hg1)
      have r0 := R1.out.cell 0 (by simp)
      have r1 := R1.out.cell 1 (by simp)
      have r2 := R1.out.cell 2 (by simp)
      have rh := R1.out.has
      simp only [List.getElem_cons_zero, List.getElem_cons_succ] at r0 r1 r2
      clear hg1 c0 c1 c2 ch
      cases hb : (x.unit == dv) with
      | true =>
        have FT : Hid ((l.take (k + 1)).filter (fun x : Hld => x.unit == dv) = cur ++ [x]) := Lib.hid (by rw [FL.out, if_pos hb])
        clear hb
        go_wp2_with (at_builtin; refine wpList_append_gets _ rfl _ _ 24 rfl w.heap.size 34 i0 (.agg #[.int .i64 0, .int .i64 0, .int .i64 0]) 3 24 Try.underlying24 hi hz0 hz1 hz2 rfl (by decide) _ cur.length (encHs cur) rfl ((Gr.owns HO.out G1.out).alloc _) (some ⟨_, 0, none⟩) 1 1 (encH x) rfl ⟨rfl, fun _ => ⟨_, rfl, cell_three _ _ _ _ _ _ (by simp)⟩⟩ (encH_one x) (by unfold maxLen; omega) (by omega) (by have := HG.out.size; have := G1.out.size; simp; omega) ?_; intro v' wz hown' hgrow hnil; have OZ := Lib.hid hown'; have GZ := Lib.hid hgrow; clear hown' hgrow hnil)
        go_roundw
        case rel =>
          refine ⟨k + 1, by omega, by go_num, ?_, ?_⟩
          · rw [FT.out, encHs_snoc]
            simpa using OZ.out
          · exact Gr.grown ((HG.out.trans G1.out).alloc _) GZ.out (fun j e => (owns_block (Gr.owns HO.out G1.out) j e).1)
        case measure => simp [intOf]; omega
      | false =>
        have FT : Hid ((l.take (k + 1)).filter (fun x : Hld => x.unit == dv) = cur) := Lib.hid (by rw [FL.out, if_neg (by rw [hb]; decide), List.append_nil])
        clear hb
        go_wp2_with fail
        go_roundw
        case rel => exact ⟨k + 1, by omega, by go_num, by rw [FT.out]; exact Gr.owns HO.out G1.out, HG.out.trans G1.out⟩
        case measure => simp [intOf]; omega
    · have hkn : k = l.length := by omega
      subst hkn
      rw [List.take_length] at HO
      go_wp2_with fail
      go_ret
      exact ⟨_, rfl, HO.out, HG.out⟩

theorem of_any (dv : Int) (l : List Hld) (ao : Option Addr) (cap : Nat) (w : World) (h : SlOf 3 RHld w ao l) (hf : l.length ≤ 1000000) :
    Calls Try.prog 11 #[.slice ao l.length cap, .int .i64 dv] w (GivesH w (l.filter (fun x : Hld => x.device == dv))) := by
  have H := Lib.hid h
  clear h
  go_enter Try.func11, Try.ntmps11
  go_wp2_with fail
  refine (ofF_any w.heap.size dv l ao cap _ (hlds_gr H.out (by repeat (first | with_reducible exact Gr.refl _ | with_reducible refine Gr.alloc _ ?_ | with_reducible refine Gr.xt _ _ ?_ | with_reducible refine Gr.drew ?_))) hf (by simp [go_sem])).mono ?_
  rintro e w' ⟨v, rfl, ho, hg⟩
  have HO := Lib.hid ho
  have HG := Lib.hid hg
  clear ho hg
  go_wp2_with fail
  go_ret
  exact ⟨_, rfl, owns_low HO.out (by simp), Gr.trans (by repeat (first | with_reducible exact Gr.refl _ | with_reducible refine Gr.alloc _ ?_ | with_reducible refine Gr.xt _ _ ?_ | with_reducible refine Gr.drew ?_)) HG.out⟩
end Go.Proofs.Ythpgoldahffbcaa
