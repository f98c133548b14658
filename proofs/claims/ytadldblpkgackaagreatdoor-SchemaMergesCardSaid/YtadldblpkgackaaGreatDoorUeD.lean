/- SchemaLimits: the walk. -/
import Derived.Test.YtadldblpkgackaaGreatDoorUeC
import Derived.WalkMore
import Derived.Deep.DeepMust
set_option linter.unusedVariables false
set_option linter.unusedSimpArgs false
namespace Go.Proofs.YtadldblpkgackaaGreatDoor
open Go.RowKit
open Classical

def slR (i : Nat) : RM := ⟨⟨slN i, false, 1, 0, 0, 0, []⟩, none, 0⟩
def slM (k : Nat) : List RM := (List.range k).map slR
theorem slM_succ (k : Nat) : slM (k + 1) = slM k ++ [slR k] := by unfold slM; rw [List.range_succ, List.map_append]; rfl
theorem slM_len (k : Nat) : (slM k).length = k := by simp [slM]
theorem slText_succ (k : Nat) : slText (k + 1) = slText k ++ (9 :: (slN k ++ [32, 97, 110, 121, 10])) := by
  unfold slText
  rw [List.range_succ, List.flatMap_append, List.flatMap_cons, List.flatMap_nil, List.append_nil]
  simp only [List.append_assoc]
theorem slText_len (k : Nat) : (slText k).length = 9 + 8 * k := by
  induction k with
  | zero => rfl
  | succ k ih => rw [slText_succ, List.length_append, ih]; simp [slN]; omega
theorem slM_sch (k : Nat) : (slM k).map RM.r = (slSch k).rules := by unfold slM slSch; rw [List.map_map]; rfl
theorem rls_sl {base : Nat} {w : World} {rs : List RM} {a : Option Addr} {n c : Nat} (how : w.ownsRow base 28 7 (.slice a n c) rs.length (rs.flatMap RM.enc)) (hwds : ∀ x ∈ rs, WAt w x.a x.r.words) (hok : ∀ x ∈ rs, ruleP x.r = true ∧ x.r.name.length ≤ 1000000 ∧ x.r.words.length ≤ x.c) : SlOf 7 RRul w a (rs.map RM.r) := by
  intro k hk
  rw [List.length_map] at hk
  obtain ⟨g, cap, e1, h1, _, hc⟩ := owns_cell how (by omega)
  cases e1
  have hf := fun j (hj : j < 7) => flat_at RM.enc 7 (fun _ => rfl) rs k j hk hj
  have h2 : ∀ j, j < 7 → w.cell? ⟨g, k * 7 + j, none⟩ = (RM.enc rs[k])[j]? := fun j hj => by
    rw [hc (k * 7 + j) (by omega)]; exact hf j hj
  obtain ⟨o1, o2, o3⟩ := hok rs[k] (List.getElem_mem hk)
  have cr := count_range o1
  have hw16 := words_len o1
  have hww := hwds rs[k] (List.getElem_mem hk)
  have kr : 1 ≤ rs[k].r.kind ∧ rs[k].r.kind ≤ 6 := by
    obtain ⟨kn, e, q1, q2⟩ := kind_nat o1
    rw [e]; omega
  have lr : (0 ≤ rs[k].r.low ∧ rs[k].r.low ≤ 4294967295) ∧ (0 ≤ rs[k].r.high ∧ rs[k].r.high ≤ 4294967295) := by
    by_cases q : rs[k].r.kind = 3
    · obtain ⟨a1, a2, a3, a4⟩ := cells_range o1 q
      exact ⟨⟨a1, a2⟩, a3, a4⟩
    · have := o1
      unfold ruleP at this
      rw [if_neg q] at this
      simp at this
      omega
  rw [List.getElem_map]
  have hw2 : ∀ n : Int, 0 ≤ n → n ≤ 4294967295 → Wide n := fun n a b => by unfold Wide; omega
  refine ⟨g, 0, rfl, ?_, ?_, ?_, ?_, ?_, ?_, ?_⟩
  all_goals rw [Nat.zero_add]
  · exact ⟨by rw [show k * 7 = k * 7 + 0 from rfl, h2 0 (by omega)]; rfl, by omega⟩
  · show w.cell? _ = _; rw [h2 1 (by omega)]; rfl
  · exact ⟨by rw [h2 2 (by omega)]; rfl, hw2 _ (by omega) (by omega)⟩
  · exact ⟨by rw [h2 3 (by omega)]; rfl, hw2 _ (by omega) (by omega)⟩
  · exact ⟨by rw [h2 4 (by omega)]; rfl, hw2 _ (by omega) (by omega)⟩
  · exact ⟨by rw [h2 5 (by omega)]; rfl, hw2 _ (by omega) (by omega)⟩
  · exact ⟨_, _, by rw [h2 6 (by omega)]; rfl, o3, by unfold Fit; omega, hww.sl⟩
theorem owns_cap {w : World} {base e size n c : Nat} {a : Option Addr} {xs : List Value} (h : w.ownsRow base e size (.slice a n c) n xs) : n ≤ c := by
  rcases h.2 with ⟨q, z⟩ | ⟨g, cap, cur, q, _, _, z, _⟩
  · omega
  · cases q; exact z
def slRs : Bool := (List.range 18).all (fun i => ruleP (slR i).r)
theorem slRs_true : slRs = true := by kernel_rfl
theorem slM_ok {k : Nat} (hk : k ≤ 18) : ∀ x ∈ slM k, ruleP x.r = true ∧ x.r.name.length ≤ 1000000 ∧ x.r.words.length ≤ x.c := by
  intro x hx
  unfold slM at hx
  obtain ⟨i, hi, rfl⟩ := List.mem_map.1 hx
  have := slRs_true
  unfold slRs at this
  exact ⟨List.all_eq_true.1 this i (by have := List.mem_range.1 hi; exact List.mem_range.2 (by omega)), by simp [slR, slN], by simp [slR]⟩
theorem slM_wds {k : Nat} {w : World} : ∀ x ∈ slM k, WAt w x.a x.r.words := by
  intro x hx
  unfold slM at hx
  obtain ⟨i, hi, rfl⟩ := List.mem_map.1 hx
  exact .inl rfl
theorem sml_sl {k : Nat} (hk : k ≤ 18) : ∀ s ∈ [slSch k], SmlS s := by
  intro s hs
  rw [List.mem_singleton.1 hs]
  refine ⟨by simp [slSch], by simp [slSch]; omega, fun r hr => ?_⟩
  unfold slSch at hr
  obtain ⟨i, hi, rfl⟩ := List.mem_map.1 hr
  exact ⟨by simp [slN], by simp, by simp⟩
/-- One schema in a new row. -/
theorem one_sl {w : World} {k vc : Nat} {va : Option Addr} (hk : k ≤ 18) (hc : k ≤ vc) (h : SlOf 7 RRul w va ((slM k).map RM.r)) : SlOf 3 RSch (w.alloc (.cells #[.string ⟨#[115]⟩, .bool false, .slice va k vc] 24)) (some ⟨w.heap.size, 0, none⟩) [slSch k] := by
  have R := Row.new w #[.string ⟨#[115]⟩, .bool false, .slice va k vc] 24
  intro j hj
  obtain rfl : j = 0 := by simp at hj; omega
  have h2 := h.gr RRul.mono ((Gr.refl w).alloc (.cells #[.string ⟨#[115]⟩, .bool false, .slice va k vc] 24))
  rw [slM_sch] at h2
  refine ⟨w.heap.size, 0, rfl, ⟨R.cell 0 (by simp), by simp [slSch]⟩, R.cell 1 (by simp), va, vc, ?_, ?_, ?_, h2⟩
  · simp [slSch]
  · simp [slSch]; exact hc
  · simp [slSch]; unfold Fit; omega
theorem str1 (c : Nat) (h : c < 256) : strOfNums [(c : Int)] = bs [UInt8.ofNat c] := by
  unfold strOfNums bs
  simp
set_option maxRecDepth 100000 in
set_option maxHeartbeats 16000000 in
theorem limits09_walk (n : Int) (w : World) (h : Libs w) (n0 : 0 ≤ n) (n1 : n ≤ 255) : Calls Tryz.prog 3 #[.int .u8 n] w (Grows w (.bool true)) := by
  have H := Lib.hid h
  clear h
  obtain ⟨j0, hj, hy0, hy1, hy2⟩ := info_parts infoRul
  go_enter Tryz.func3, Tryz.ntmps3
  go_wp2_with fail
  obtain ⟨K, hK⟩ : ∃ K : Nat, 14 + n % 5 = (K : Int) := ⟨(14 + n % 5).toNat, by omega⟩
  have K14 : 14 ≤ K := by omega
  have K18 : K ≤ 18 := by omega
  rw [hK]
  have RB := Lib.hid (Row.new w #[.string ⟨#[115]⟩, .bool false, .slice none 0 0] 24)
  obtain ⟨W, hW⟩ : ∃ W : World, Hid (W = w.alloc (.cells #[.string ⟨#[115]⟩, .bool false, .slice none 0 0] 24)) := ⟨_, Lib.hid rfl⟩
  have GW : Hid (Gr w W) := Lib.hid (by rw [hW.out]; exact (Gr.refl _).alloc _)
  rw [← hW.out] at RB ⊢
  obtain ⟨P, hP⟩ : ∃ N : Nat, Hid (w.heap.size = N) := ⟨_, Lib.hid rfl⟩
  have PL : Hid (w.heap.size ≤ P) := Lib.hid (Nat.le_of_eq hP.out)
  rw [hP.out] at RB ⊢
  clear hW hP hK
  go_loopw [3, 6] (fun tx i wr => ∃ (k : Nat) (v : Value), k ≤ K ∧ tx = .string (bs (slText k)) ∧ i = .int .i64 k ∧ Row wr P 24 [.string ⟨#[115]⟩, .bool false, v] ∧ wr.ownsRow w.heap.size 28 7 v k ((slM k).flatMap RM.enc) ∧ Gr w wr) (fun _ i _ => K - (intOf i).toNat)
  case atStart => exact ⟨0, _, Nat.zero_le _, rfl, rfl, RB.out, World.ownsRow_nil _ _ _ _, GW.out⟩
  case round =>
    clear RB GW
    obtain ⟨k, v, hk, rfl, rfl, hrow, how, hg⟩ := hrel
    obtain ⟨va, vc, rfl⟩ := owns_slice how
    have RW := Lib.hid hrow
    have OW := Lib.hid how
    have HG := Lib.hid hg
    have p0 : wr.cell? ⟨P, 0, none⟩ = some (.string ⟨#[115]⟩) := hrow.cell 0 (by simp)
    have p1 : wr.cell? ⟨P, 1, none⟩ = some (.bool false) := hrow.cell 1 (by simp)
    have p2 : wr.cell? ⟨P, 2, none⟩ = some (.slice va k vc) := hrow.cell 2 (by simp)
    have pf := hrow.free 2
    have hh := has_of_cell p0
    clear hrow how hg
    by_cases hlt : k < K
    · have tl0 := slText_len k
      obtain ⟨c, hc⟩ : ∃ c : Nat, c = 97 + k := ⟨_, rfl⟩
      have e2 : 97 + (k : Int) = (c : Int) := by omega
      have e3 : c < 256 := by omega
      have HCM := Lib.hid hc
      have hcv := run_convert_bytes_arg (P := Tryz.prog) (wr.alloc (.cells #[.int .u8 (c : Int)] 5)) 25 5 Tryz.underlying25 Tryz.underlying5 wr.heap.size 0 1 1 [(c : Int)] rfl
        (fun i hi => by
          have := (Row.new wr #[.int .u8 (c : Int)] 5).cell i (by simpa using hi)
          rw [Nat.zero_add, this]
          match i, hi with
          | 0, _ => rfl) 9 Tryz.underlying9
      rw [str1 c e3] at hcv
      have k1 : (k : Int) < K := by omega
      clear hc
      have NR : Hid (∀ j u, [.string (bs [112, UInt8.ofNat c]), .bool false, .int .i64 1, .int .i64 0, .int .i64 0, .int .i64 0, .slice none 0 0][j]? = some u → ((wr.alloc (.cells #[.int .u8 (c : Int)] 5)).alloc (.cells #[.string (bs [112, UInt8.ofNat c]), .bool false, .int .i64 1, .int .i64 0, .int .i64 0, .int .i64 0, .slice none 0 0] 28)).cell? ((⟨wr.heap.size + 1, 0, none⟩ : Addr).add j) = some u) := Lib.hid (by
        have q := row_cells (Row.new (wr.alloc (.cells #[.int .u8 (c : Int)] 5)) #[.string (bs [112, UInt8.ofNat c]), .bool false, .int .i64 1, .int .i64 0, .int .i64 0, .int .i64 0, .slice none 0 0] 28)
        rw [World.size_alloc] at q
        exact q)
      have GA : Hid (Gr wr ((wr.alloc (.cells #[.int .u8 (c : Int)] 5)).alloc (.cells #[.string (bs [112, UInt8.ofNat c]), .bool false, .int .i64 1, .int .i64 0, .int .i64 0, .int .i64 0, .slice none 0 0] 28))) := Lib.hid (((Gr.refl _).alloc _).alloc _)
      have OA := Lib.hid (Gr.owns OW.out GA.out)
      have RA := Lib.hid (RW.out.gr GA.out)
      have HGS := HG.out.size
      go_wp2_with (at_builtin; refine wpList_append_own _ rfl _ _ 22 rfl w.heap.size 28 j0 (.agg #[.string (bs []), .bool false, .int .i64 0, .int .i64 0, .int .i64 0, .int .i64 0, .slice none 0 0]) 7 80 Tryz.underlying22 hj hy0 hy1 hy2 rfl (by decide) (.slice va k vc) k ((slM k).flatMap RM.enc) rfl OA.out ⟨wr.heap.size + 1, 0, none⟩ 1 1 [.string (bs [112, UInt8.ofNat c]), .bool false, .int .i64 1, .int .i64 0, .int .i64 0, .int .i64 0, .slice none 0 0] rfl rfl NR.out (RM.enc_one ⟨⟨[112, UInt8.ofNat c], false, 1, 0, 0, 0, []⟩, none, 0⟩) (by unfold maxLen; omega) (by omega) (by simp; omega) ?_; intro v' wz hown' hgrow hnil; obtain ⟨a', c', rfl⟩ := owns_slice hown'; have HOz := Lib.hid hown'; have HGz := Lib.hid hgrow; have RZ := Lib.hid (RA.out.kept hgrow (RA.out.ty.ne OA.out (by decide))); have z2 : wz.cell? ⟨P, 2, none⟩ = some (.slice va k vc) := RZ.out.cell 2 (by simp); have zf := RZ.out.free 2; have zh := has_of_cell z2; clear hown' hgrow hnil)
      go_roundw
      case rel =>
        have ew : slM (k + 1) = slM k ++ [⟨⟨[112, UInt8.ofNat c], false, 1, 0, 0, 0, []⟩, none, 0⟩] := by rw [slM_succ, HCM.out]; rfl
        refine ⟨k + 1, .slice a' (k + 1) c', by omega, ?_, by go_num, RZ.out.set 2 _, ?_, (HG.out.trans GA.out |>.grown HGz.out (fun j e => (OA.out.lt j e).1)).setc PL.out⟩
        · rw [slText_succ, show slN k = [112, UInt8.ofNat c] by rw [HCM.out]; rfl]
          go_num
        · rw [ew, List.flatMap_append, List.flatMap_cons, List.flatMap_nil, List.append_nil]
          exact owns_stc HOz.out (owns_ne_ty HOz.out RZ.out.ty (by decide))
      case measure => simp [intOf]; omega
    · obtain rfl : k = K := by omega
      have SOK := Lib.hid (slOk_of K14 K18)
      have tl0 := slText_len k
      have HC := Lib.hid (owns_cap OW.out)
      go_wp2_with fail
      refine (parse_any (slText k) wr (H.out.gr HG.out)).mono ?_
      rintro e w1 ⟨hg1, v, out, rfl, hoa, hsch⟩
      have HG1 := Lib.hid (HG.out.trans hg1)
      have RW1 := RW.out.gr hg1
      have q0 : w1.cell? ⟨P, 0, none⟩ = some (.string ⟨#[115]⟩) := RW1.cell 0 (by simp)
      have q1 : w1.cell? ⟨P, 1, none⟩ = some (.bool false) := RW1.cell 1 (by simp)
      have q2 : w1.cell? ⟨P, 2, none⟩ = some (.slice va k vc) := RW1.cell 2 (by simp)
      have qh := has_of_cell q0
      have SLX := Lib.hid (rls_sl (rs := slM k) (by have q := Gr.owns OW.out hg1; rw [slM_len]; exact q) slM_wds (slM_ok K18))
      clear p0 p1 p2 pf hh RW RW1 OW HG
      by_cases h16 : k ≤ 16
      · have h := SOK.out
        unfold slOk at h
        rw [if_pos h16, Bool.and_eq_true, decide_eq_true_eq, decide_eq_true_eq] at h
        rw [h.1] at hsch ⊢
        have CK := Lib.hid h.2
        obtain ⟨a, c, rfl⟩ := owns_slice hoa.own
        obtain ⟨hn, hsl⟩ := hoa.sl
        rw [hsch] at hsl
        have hl : out.length = 1 := by have := congrArg List.length hsch; simpa using this
        rw [hl]
        have SL := Lib.hid hsl
        have k16 : (k : Int) ≤ 16 := by omega
        clear hsl hn hsch hoa h hg1 hl h16
        simp only
        go_wp2_with fail
        obtain ⟨W2, hW2⟩ : ∃ W : World, Hid (W = w1.alloc (.cells #[.string ⟨#[115]⟩, .bool false, .slice va k vc] 24)) := ⟨_, Lib.hid rfl⟩
        have SX : Hid (SlOf 3 RSch W2 (some ⟨w1.heap.size, 0, none⟩) [slSch k]) := Lib.hid (by rw [hW2.out]; exact one_sl K18 HC.out SLX.out)
        have G2 : Hid (Gr w1 W2) := Lib.hid (by rw [hW2.out]; exact (Gr.refl _).alloc _)
        rw [← hW2.out]
        have HG2 := Lib.hid (HG1.out.trans G2.out)
        refine (Same_any [slSch k] [slSch k] a (some ⟨w1.heap.size, 0, none⟩) c 1 W2 (SL.out.gr RSch.mono G2.out) SX.out (by simp) (by simp) (fun s hs => ⟨(sml_sl K18 s hs).2.1, fun r hr => ((sml_sl K18 s hs).2.2 r hr).2.1⟩) (fun s hs => ⟨(sml_sl K18 s hs).2.1, fun r hr => ((sml_sl K18 s hs).2.2 r hr).2.1⟩)).mono ?_
        rintro e w3 ⟨rfl, hg3⟩
        rw [decide_eq_true rfl]
        have HG3 := Lib.hid (HG2.out.trans hg3)
        have SL3 := Lib.hid (SL.out.gr RSch.mono (G2.out.trans hg3))
        clear hg3
        go_wp2_with fail
        refine (check_any [slSch k] a c w3 SL3.out (by simp) (sml_sl K18)).mono ?_
        rintro e w4 ⟨rfl, hg4⟩
        rw [CK.out]
        have HGL := Lib.hid (HG3.out.trans hg4)
        clear hg4
        go_wp2_with fail
        refine (awake09_any _ (H.out.gr HGL.out)).mono ?_
        rintro e w9 ⟨rfl, hg9⟩
        have HGE := Lib.hid (HGL.out.trans hg9)
        clear hg9
        go_wp2_with fail
        go_ret
        exact ⟨rfl, HGE.out⟩
      · have h := SOK.out
        unfold slOk at h
        rw [if_neg h16, Bool.and_eq_true, decide_eq_true_eq, decide_eq_true_eq] at h
        rw [h.1] at hsch ⊢
        have CK := Lib.hid h.2
        have k16 : ¬ (k : Int) ≤ 16 := by omega
        obtain ⟨a, c, rfl⟩ := owns_slice hoa.own
        have hl : out.length = 0 := by have := congrArg List.length hsch; simpa using this
        rw [hl]
        clear hsch hoa h hg1 hl h16
        simp only
        go_wp2_with fail
        obtain ⟨W2, hW2⟩ : ∃ W : World, Hid (W = w1.alloc (.cells #[.string ⟨#[115]⟩, .bool false, .slice va k vc] 24)) := ⟨_, Lib.hid rfl⟩
        have SX : Hid (SlOf 3 RSch W2 (some ⟨w1.heap.size, 0, none⟩) [slSch k]) := Lib.hid (by rw [hW2.out]; exact one_sl K18 HC.out SLX.out)
        have G2 : Hid (Gr w1 W2) := Lib.hid (by rw [hW2.out]; exact (Gr.refl _).alloc _)
        rw [← hW2.out]
        have HG2 := Lib.hid (HG1.out.trans G2.out)
        refine (check_any [slSch k] (some ⟨w1.heap.size, 0, none⟩) 1 W2 SX.out (by simp) (sml_sl K18)).mono ?_
        rintro e w4 ⟨rfl, hg4⟩
        rw [CK.out]
        have HGL := Lib.hid (HG2.out.trans hg4)
        clear hg4
        go_wp2_with fail
        refine (awake09_any _ (H.out.gr HGL.out)).mono ?_
        rintro e w9 ⟨rfl, hg9⟩
        have HGE := Lib.hid (HGL.out.trans hg9)
        clear hg9
        go_wp2_with fail
        go_ret
        exact ⟨rfl, HGE.out⟩
end Go.Proofs.YtadldblpkgackaaGreatDoor
