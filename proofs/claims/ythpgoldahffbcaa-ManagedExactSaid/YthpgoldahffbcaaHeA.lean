/- Of and Return of the reference; Range. -/
import Derived.Test.YthpgoldahffbcaaHdE
import Derived.Test.YthpgoldahffbcaaHdR
import Derived.Test.YthpgoldahffbcaaSrc
set_option linter.unusedVariables false
set_option linter.unusedSimpArgs false
namespace Go.Proofs.Ythpgoldahffbcaa
open Go.RowKit
set_option maxHeartbeats 400000 in
theorem rangeM_any (w : World) (b len : Nat) (lo hi : Int) (h : Tp w b len) (hl : -1000 ≤ lo) (hh : lo ≤ hi) (hh1 : hi ≤ 1000000) :
    Calls Try.prog 15 #[.pointer (some ⟨b, 0, none⟩), .int .i64 lo, .int .i64 hi] w (ReadsM b len w (InTo lo hi)) := by
  have H := Lib.hid h
  clear h
  go_enter Try.func15, Try.ntmps15
  go_wp2_with fail
  refine (nM_any _ b len _ H.out (by omega) (by omega)).mono ?_
  rintro e w' ⟨x, rfl, hx, hm⟩
  have hx0 := hx.1
  have hx1 := hx.2
  have M := Lib.hid hm
  clear hm hx
  go_wp2_with fail
  go_ret
  exact ⟨lo + x, rfl, ⟨by omega, by omega⟩, M.out⟩
theorem Gets.gr {w w' : World} {A : Option Addr} {m size : Nat} {news : List Value} (h : Gets w A m size news) (hg : Gr w w') : Gets w' A m size news :=
  ⟨h.1, fun q => (let ⟨ad, e, k⟩ := h.2 q; ⟨ad, e, fun j u hu => by have := k j u hu; cases hq : ad.add j; rw [hq] at this; exact cell_gr hg this⟩)⟩
theorem gets_own {w : World} {base e size n : Nat} {v : Value} {xs : List Value} (hs : 0 < size) (h : w.ownsRow base e size v n xs) : ∃ a c, v = .slice a n c ∧ Gets w a n size xs := by
  have h0 := h.1
  obtain ⟨a, c, rfl, _, ho⟩ := owns_ownN h
  refine ⟨a, c, rfl, h0, fun hn => ?_⟩
  rcases ho with q | ⟨B, rfl, _, q⟩
  · subst q
    exfalso
    have : 0 < n * size := Nat.mul_pos (by omega) hs
    simp at h0
    omega
  · refine ⟨_, rfl, fun j u hu => ?_⟩
    obtain ⟨hj, hu⟩ := List.getElem?_eq_some_iff.1 hu
    have ha : (⟨B, 0, none⟩ : Addr).add j = ⟨B, j, none⟩ := by unfold Addr.add; split <;> simp_all
    rw [ha, q.cell j hj, hu]
theorem own_one (w : World) (x : Hld) (base B : Nat) (hB : B = w.heap.size) (hb : base ≤ w.heap.size) : (w.alloc (.cells #[.int .i64 x.device, .int .i64 x.kind, .int .i64 x.unit] 34)).ownsRow base 34 3 (.slice (some ⟨B, 0, none⟩) 1 1) 1 (encH x) := by
  subst hB
  exact ⟨rfl, .inr ⟨w.heap.size, 1, _, rfl, hb, Row.new w _ _, Nat.le_refl _, by unfold maxLen; omega, rfl, rfl⟩⟩
set_option maxRecDepth 100000 in
set_option maxHeartbeats 2000000 in
theorem refOf_any (dv : Int) (l : List Hld) (ao : Option Addr) (cap : Nat) (w : World) (h : SlOf 3 RHld w ao l) (hf : l.length ≤ 1000000) :
    Calls Try.prog 23 #[.slice ao l.length cap, .int .i64 dv] w (GivesH w (l.filter (fun x : Hld => x.device == dv))) := by
  have H := Lib.hid h
  clear h
  obtain ⟨i0, hi, hz0, hz1, hz2⟩ := info_parts infoHld
  go_enter Try.func23, Try.ntmps23
  go_wp2_with fail
  go_loopw [10, 5] (fun i v wr => ∃ k : Nat, k ≤ l.length ∧ i = .int .i64 k ∧ wr.ownsRow w.heap.size 34 3 v ((l.take k).filter (fun x : Hld => x.device == dv)).length (encHs ((l.take k).filter (fun x : Hld => x.device == dv))) ∧ Gr w wr) (fun i _ _ => l.length - (intOf i).toNat)
  case atStart => exact ⟨0, Nat.zero_le _, rfl, owns_nil _ _ _ _, Gr.refl _⟩
  case round =>
    obtain ⟨k, hk, rfl, ho, hg⟩ := hrel
    have HO := Lib.hid ho
    have HG := Lib.hid hg
    clear ho hg
    by_cases hlt : k < l.length
    · obtain ⟨b, o, rfl, ⟨c0, -⟩, ⟨c1, -⟩, ⟨c2, -⟩⟩ := (hlds_gr H.out HG.out) k hlt
      have ch := has_of_cell c0
      have FL := Lib.hid (filter_take_succ (p := fun x : Hld => x.device == dv) hlt)
      have FN := filter_take_len l (fun x : Hld => x.device == dv) k
      obtain ⟨x, hx⟩ : ∃ x, Hid (x = l[k]) := ⟨_, Lib.hid rfl⟩
      rw [← hx.out] at c0 c1 c2 FL
      obtain ⟨cur, hcur⟩ : ∃ cur, Hid (cur = (l.take k).filter (fun x : Hld => x.device == dv)) := ⟨_, Lib.hid rfl⟩
      rw [← hcur.out] at HO FL FN
      cases hb : (x.device == dv) with
      | true =>
        have FT : Hid ((l.take (k + 1)).filter (fun x : Hld => x.device == dv) = cur ++ [x]) := Lib.hid (by rw [FL.out, if_pos hb])
        go_wp2_with (at_builtin; refine wpList_append_gets _ rfl _ _ 24 rfl w.heap.size 34 i0 (.agg #[.int .i64 0, .int .i64 0, .int .i64 0]) 3 24 Try.underlying24 hi hz0 hz1 hz2 rfl (by decide) _ cur.length (encHs cur) rfl ((HO.out.alloc _).alloc _) (some ⟨_, 0, none⟩) 1 1 (encH x) rfl ⟨rfl, fun _ => ⟨_, rfl, cell_three _ _ _ _ _ _ (by simp)⟩⟩ (encH_one x) (by unfold maxLen; omega) (by omega) (by have := HG.out.size; simp; omega) ?_; intro v' wz hown' hgrow hnil; have OZ := Lib.hid hown'; have GZ := Lib.hid hgrow; clear hown' hgrow hnil)
        go_roundw
        case rel =>
          refine ⟨k + 1, by omega, by go_num, ?_, ?_⟩
          · rw [FT.out, encHs_snoc]
            simpa using OZ.out
          · exact Gr.grown ((HG.out.alloc _).alloc _) GZ.out (fun j e => (owns_block HO.out j e).1)
        case measure => simp [intOf]; omega
      | false =>
        have FT : Hid ((l.take (k + 1)).filter (fun x : Hld => x.device == dv) = cur) := Lib.hid (by rw [FL.out, if_neg (by rw [hb]; decide), List.append_nil])
        go_wp2_with fail
        go_roundw
        case rel => exact ⟨k + 1, by omega, by go_num, by rw [FT.out]; exact HO.out.alloc _, HG.out.alloc _⟩
        case measure => simp [intOf]; omega
    · have hkn : k = l.length := by omega
      subst hkn
      rw [List.take_length] at HO
      go_wp2_with fail
      go_ret
      exact ⟨_, rfl, HO.out, HG.out⟩
set_option maxRecDepth 100000 in
set_option maxHeartbeats 2000000 in
theorem refReturn_any (dv : Int) (l : List Hld) (ao : Option Addr) (cap : Nat) (w : World) (h : SlOf 3 RHld w ao l) (hf : l.length ≤ 1000000) :
    Calls Try.prog 22 #[.slice ao l.length cap, .int .i64 dv] w (GivesRet w l dv) := by
  have H := Lib.hid h
  have WD := Lib.hid (sl_wide h)
  clear h
  obtain ⟨i0, hi, hz0, hz1, hz2⟩ := info_parts infoHld
  go_enter Try.func22, Try.ntmps22
  go_wp2_with fail
  go_loopw [12, 6, 7] (fun i v u wr => ∃ (k : Nat) (n : Nat), k ≤ l.length ∧ i = .int .i64 k ∧ wr.ownsRow w.heap.size 34 3 v ((l.take k).filter (fun x : Hld => x.device != dv)).length (encHs ((l.take k).filter (fun x : Hld => x.device != dv))) ∧ n = ((l.take k).filter (fun x : Hld => x.device == dv)).length ∧ wr.ownsRow w.heap.size 34 3 u n (encHs ((l.take k).filter (fun x : Hld => x.device == dv)).reverse) ∧ (u.ownBlock = none ∨ u.ownBlock ≠ v.ownBlock) ∧ Gr w wr) (fun i _ _ _ => l.length - (intOf i).toNat)
  case atStart => exact ⟨0, 0, Nat.zero_le _, rfl, owns_nil _ _ _ _, rfl, owns_nil _ _ _ _, .inl rfl, Gr.refl _⟩
  case round =>
    obtain ⟨k, n, hk, rfl, ho, hn, ho2, hne, hg⟩ := hrel
    have HO := Lib.hid ho
    have HU := Lib.hid ho2
    have HG := Lib.hid hg
    have HN := Lib.hid hn
    have NE := Lib.hid hne
    clear ho ho2 hg hne
    by_cases hlt : k < l.length
    · obtain ⟨b, o, rfl, ⟨c0, -⟩, ⟨c1, -⟩, ⟨c2, -⟩⟩ := (hlds_gr H.out HG.out) k hlt
      have ch := has_of_cell c0
      have FL := Lib.hid (filter_take_succ (p := fun x : Hld => x.device != dv) hlt)
      have FU := Lib.hid (filter_take_succ (p := fun x : Hld => x.device == dv) hlt)
      have FN := filter_take_len l (fun x : Hld => x.device != dv) k
      have FM := filter_take_len l (fun x : Hld => x.device == dv) k
      rw [← hn] at FM
      clear hn
      obtain ⟨x, hx⟩ : ∃ x, Hid (x = l[k]) := ⟨_, Lib.hid rfl⟩
      rw [← hx.out] at c0 c1 c2 FL FU
      obtain ⟨cur, hcur⟩ : ∃ cur, Hid (cur = (l.take k).filter (fun x : Hld => x.device != dv)) := ⟨_, Lib.hid rfl⟩
      obtain ⟨bk, hbk⟩ : ∃ bk, Hid (bk = (l.take k).filter (fun x : Hld => x.device == dv)) := ⟨_, Lib.hid rfl⟩
      rw [← hcur.out] at HO FL FN
      rw [← hbk.out] at HU FU HN
      cases hb : (x.device == dv) with
      | true =>
        have hb2 : (x.device != dv) = false := by simp [bne, hb]
        have FT : Hid ((l.take (k + 1)).filter (fun x : Hld => x.device != dv) = cur) := Lib.hid (by rw [FL.out, if_neg (by rw [hb2]; decide), List.append_nil])
        have FT2 : Hid ((l.take (k + 1)).filter (fun x : Hld => x.device == dv) = bk ++ [x]) := Lib.hid (by rw [FU.out, if_pos hb])
        obtain ⟨au, cu, rfl, hgu⟩ := gets_own (by decide) HU.out
        have GU := Lib.hid hgu
        clear hgu
        go_wp2_with (at_builtin; refine wpList_append_gets _ rfl _ _ 24 rfl w.heap.size 34 i0 (.agg #[.int .i64 0, .int .i64 0, .int .i64 0]) 3 24 Try.underlying24 hi hz0 hz1 hz2 rfl (by decide) _ 1 (encH x) rfl (own_one (wr.alloc (.cells #[.int .i64 x.device, .int .i64 x.kind, .int .i64 x.unit] 34)) x w.heap.size _ (by simp) (by have := HG.out.size; simp; omega)) au n cu (encHs bk.reverse) rfl ((GU.out.gr ((Gr.refl _).alloc _)).gr ((Gr.refl _).alloc _)) (encHs_one _) (by unfold maxLen; omega) (by omega) (by have := HG.out.size; simp; omega) ?_; intro v' wz hown' hgrow hnil; have OZ := Lib.hid hown'; have GZ := Lib.hid hgrow; have NZ := Lib.hid hnil; clear hown' hgrow hnil)
        go_roundw
        case rel =>
          refine ⟨k + 1, n + 1, by omega, by go_num, ?_, ?_, ?_, ?_, ?_⟩
          · rw [FT.out]
            refine ((HO.out.alloc _).alloc _).kept GZ.out ?_
            rcases hq : Value.ownBlock _ with _ | g2
            · exact .inl rfl
            · right
              intro e
              have q1 := (owns_block HO.out g2 hq).2
              have e2 : some g2 = some (wr.heap.size + 1) := e
              injection e2 with e2
              omega
          · rw [FT2.out, List.length_append, HN.out]; rfl
          · rw [FT2.out, List.reverse_append]
            have := OZ.out
            rw [Nat.add_comm 1 n] at this
            simpa [encHs] using this
          · right
            intro e
            rcases NZ.out with q | q
            · rw [q] at e
              simp only [Value.ownBlock] at e
              have q1 := (owns_block HO.out _ e.symm).2
              simp at q1
              omega
            · rw [q] at e
              have q1 := (owns_block HO.out _ e.symm).2
              simp at q1
              omega
          · exact Gr.grown ((HG.out.alloc _).alloc _) GZ.out (fun j e => by have e2 : some (wr.heap.size + 1) = some j := e; injection e2 with e2; have := HG.out.size; omega)
        case measure => simp [intOf]; omega
      | false =>
        have hb2 : (x.device != dv) = true := by simp [bne, hb]
        have FT : Hid ((l.take (k + 1)).filter (fun x : Hld => x.device != dv) = cur ++ [x]) := Lib.hid (by rw [FL.out, if_pos hb2])
        have FT2 : Hid ((l.take (k + 1)).filter (fun x : Hld => x.device == dv) = bk) := Lib.hid (by rw [FU.out, if_neg (by rw [hb]; decide), List.append_nil])
        go_wp2_with (at_builtin; refine wpList_append_gets _ rfl _ _ 24 rfl w.heap.size 34 i0 (.agg #[.int .i64 0, .int .i64 0, .int .i64 0]) 3 24 Try.underlying24 hi hz0 hz1 hz2 rfl (by decide) _ cur.length (encHs cur) rfl ((HO.out.alloc _).alloc _) (some ⟨_, 0, none⟩) 1 1 (encH x) rfl ⟨rfl, fun _ => ⟨_, rfl, cell_three _ _ _ _ _ _ (by simp)⟩⟩ (encH_one x) (by unfold maxLen; omega) (by omega) (by have := HG.out.size; simp; omega) ?_; intro v' wz hown' hgrow hnil; have OZ := Lib.hid hown'; have GZ := Lib.hid hgrow; have NZ := Lib.hid hnil; clear hown' hgrow hnil)
        go_roundw
        case rel =>
          refine ⟨k + 1, n, by omega, by go_num, ?_, ?_, ?_, ?_, ?_⟩
          · rw [FT.out, encHs_snoc]
            simpa using OZ.out
          · rw [FT2.out]; exact HN.out
          · rw [FT2.out]
            exact ((HU.out.alloc _).alloc _).kept GZ.out NE.out
          · rcases NZ.out with q | q
            · rw [q]; exact NE.out
            · rcases hq : Value.ownBlock _ with _ | g2
              · exact .inl rfl
              · right
                intro e
                rw [q] at e
                have q1 := (owns_block HU.out g2 hq).2
                simp at e
                omega
          · exact Gr.grown ((HG.out.alloc _).alloc _) GZ.out (fun j e => (owns_block HO.out j e).1)
        case measure => simp [intOf]; omega
    · have hkn : k = l.length := by omega
      subst hkn
      rw [List.take_length] at HO HU HN
      rw [HN.out] at HU
      clear hn
      go_wp2_with fail
      refine bodyPost_ret (v := .tuple #[_, _]) (by simp [results, Try.results22, go_sem]; exact ⟨rfl, rfl⟩) rfl ?_
      exact ⟨_, _, rfl, HO.out, HU.out, HG.out⟩
end Go.Proofs.Ythpgoldahffbcaa
