/- schema.Format. -/
import Derived.Test.YtadldblpkgackaaGreatDoorUhA
set_option linter.unusedVariables false
set_option linter.unusedSimpArgs false
namespace Go.Proofs.YtadldblpkgackaaGreatDoor
open Go.RowKit
open Classical

theorem fmt_step {l : List Sch} {k : Nat} (h : k < l.length) : fmtP (l.take (k + 1)) = fmtP (l.take k) ++ fmtS l[k] := by
  unfold fmtP
  rw [List.take_succ_eq_append_getElem h, List.flatMap_append, List.flatMap_cons, List.flatMap_nil, List.append_nil]
theorem rule_step {l : List Rul} {k : Nat} (h : k < l.length) : (l.take (k + 1)).flatMap lineR = (l.take k).flatMap lineR ++ lineR l[k] := by
  rw [List.take_succ_eq_append_getElem h, List.flatMap_append, List.flatMap_cons, List.flatMap_nil, List.append_nil]
set_option maxRecDepth 100000 in
set_option maxHeartbeats 16000000 in
theorem format_any (l : List Sch) (a : Option Addr) (cap : Nat) (w : World) (h : SlOf 3 RSch w a l) (hf : l.length ≤ 1000000) (hb : ∀ s ∈ l, SmlS s) (hL : Libs w) :
    Calls Tryz.prog 15 #[.slice a l.length cap] w (Grows w (.tuple #[.string (bs (if chkSch l = 0 then fmtP l else [])), .int .i64 (chkSch l)])) := by
  have H := Lib.hid h
  have HB := Lib.hid hb
  have L := Lib.hid hL
  clear h hb hL
  obtain ⟨T, hT⟩ : ∃ T, Hid ((if chkSch l = 0 then fmtP l else []) = T) := ⟨_, Lib.hid rfl⟩
  rw [hT.out]
  go_enter Tryz.func15, Tryz.ntmps15
  go_wp2_with fail
  refine (check_any l a cap w H.out hf HB.out).mono ?_
  rintro e w1 ⟨rfl, hg⟩
  have G1 := Lib.hid hg
  clear hg
  by_cases hz : chkSch l = 0
  · obtain ⟨l24, hok⟩ := chk_zero hz
    have OK := Lib.hid hok
    have RT : Hid (T = fmtP l) := Lib.hid (by rw [← hT.out, if_pos hz])
    have HZ := Lib.hid hz
    rw [hz]
    clear hz hok
    have BN := Lib.hid (Bld.new w1 w1.heap.size (Nat.le_refl _))
    go_wp2_with fail
    obtain ⟨W2, hW2⟩ : ∃ W : World, Hid (W = w1.alloc (.cells #[.pointer none, .slice none 0 0] 79)) := ⟨_, Lib.hid rfl⟩
    have G2 : Hid (Gr w1 W2) := Lib.hid (by rw [hW2.out]; exact (Gr.refl _).alloc _)
    rw [← hW2.out] at BN ⊢
    obtain ⟨NB, hNB⟩ : ∃ N : Nat, Hid (w1.heap.size = N) := ⟨_, Lib.hid rfl⟩
    rw [hNB.out] at BN ⊢
    clear hW2
    go_loopw [17] (fun i wr => ∃ k : Nat, k ≤ l.length ∧ i = .int .i64 k ∧ Bld NB NB (fmtP (l.take k)) wr ∧ Gr w1 wr) (fun i _ => l.length - (intOf i).toNat)
    case atStart => exact ⟨0, Nat.zero_le _, rfl, BN.out, G2.out⟩
    case round =>
      clear BN G2
      obtain ⟨k, hk, rfl, hbl, hg⟩ := hrel
      have BL := Lib.hid hbl
      have HG := Lib.hid hg
      have SZ : Hid (NB ≤ wr.heap.size) := Lib.hid (by have := hg.size; have := hNB.out; omega)
      clear hbl hg
      by_cases hlt : k < l.length
      · obtain ⟨b, o, pa, pc, rfl, c0, c1, c2, hs⟩ := schs_at (H.out.giC G1.out) k hlt
        replace c0 := cell_gr HG.out c0
        replace c1 := cell_gr HG.out c1
        replace c2 := cell_gr HG.out c2
        have STP := Lib.hid (fmt_step hlt)
        have OKS := Lib.hid (OK.out l[k] (List.getElem_mem hlt))
        have SML := Lib.hid (HB.out l[k] (List.getElem_mem hlt))
        have PLE : Hid ((fmtP (l.take k)).length ≤ 1200000) := Lib.hid (fmtP_le (by rw [List.length_take]; omega) (fun s hs => OK.out s (List.mem_of_mem_take hs)))
        obtain ⟨P, hP⟩ : ∃ P, fmtP (l.take k) = P := ⟨_, rfl⟩
        rw [hP] at STP BL PLE
        obtain ⟨s, hsk⟩ : ∃ s, l[k] = s := ⟨_, rfl⟩
        rw [hsk] at c0 c1 c2 hs STP OKS SML
        have hh := has_of_cell c0
        have SL := Lib.hid hs
        have k2 : (k : Int) < l.length := by omega
        clear hsk hs hP
        go_wp2_with fail
        have BX := Lib.hid (Row.new wr #[.string (bs s.comp), .bool s.closed, .slice pa s.rules.length pc] 24)
        obtain ⟨W3, hW3⟩ : ∃ W : World, Hid (W = wr.alloc (.cells #[.string (bs s.comp), .bool s.closed, .slice pa s.rules.length pc] 24)) := ⟨_, Lib.hid rfl⟩
        have G3 : Hid (Gr wr W3) := Lib.hid (by rw [hW3.out]; exact (Gr.refl _).alloc _)
        rw [← hW3.out] at BX ⊢
        obtain ⟨SB, hSB⟩ : ∃ N : Nat, Hid (wr.heap.size = N) := ⟨_, Lib.hid rfl⟩
        rw [hSB.out] at BX ⊢
        clear hW3 hSB
        refine (head_any s pa s.rules.length pc W3 SML.out.1).mono ?_
        rintro e w4 ⟨rfl, hg4⟩
        have G4 := Lib.hid (G3.out.trans hg4)
        have BX4 := Lib.hid (BX.out.gr hg4)
        have BL4 := Lib.hid (BL.out.gr G4.out)
        have HG4 := Lib.hid (HG.out.trans G4.out)
        have SZ4 : Hid (NB ≤ w4.heap.size) := Lib.hid (Nat.le_trans SZ.out G4.out.size)
        have HL := Lib.hid (head_le OKS.out.comp)
        have hpl : (headP s).length ≤ 1000 := by have := HL.out; unfold lineS at this; rw [List.length_append] at this; omega
        clear hg4 G3 BX BL
        go_wp2_with fail
        refine (write_any NB NB P (lineS s) w4 BL4.out (by have := HL.out; have := PLE.out; omega) SZ4.out).mono ?_
        rintro e w5 ⟨⟨v5, rfl⟩, hb5, hbe, hot⟩
        have HG5 := Lib.hid (HG4.out.bel (by rw [hNB.out]; exact hbe))
        have BX5 := Lib.hid (BX4.out.others hot (by exact fun e => BX4.out.ty.apart BL4.out.ty (by decide) e) (by decide))
        have BL5 := Lib.hid hb5
        have d2 : w5.cell? ⟨SB, 2, none⟩ = some (.slice pa s.rules.length pc) := BX5.out.cell 2 (by simp)
        have dh := has_of_cell d2
        have rl : s.rules.length ≤ 16 := OKS.out.few
        clear hb5 hbe hot G4 BX4 BL4 HG4 SZ4
        go_wp2_with fail
        go_loopw [28] (fun i wx => ∃ m : Nat, m ≤ s.rules.length ∧ i = .int .i64 m ∧ Bld NB NB (P ++ lineS s ++ (s.rules.take m).flatMap lineR) wx ∧ Gr w1 wx) (fun i _ => s.rules.length - (intOf i).toNat)
        case atStart => exact ⟨0, Nat.zero_le _, rfl, by simpa using BL5.out, HG5.out⟩
        case round =>
          clear BX5 BL5 HG5 d2 dh
          obtain ⟨m, hm, rfl, hbl, hg⟩ := hrel
          have BLX := Lib.hid hbl
          have HGX := Lib.hid hg
          clear hbl hg
          have SZX : Hid (NB ≤ wr.heap.size) := Lib.hid (by have := HGX.out.size; have := hNB.out; omega)
          by_cases hlm : m < s.rules.length
          · have OKR := Lib.hid (OKS.out.rls s.rules[m] (List.getElem_mem hlm))
            have SMR := Lib.hid (SML.out.2.2 s.rules[m] (List.getElem_mem hlm))
            have FLE : Hid (((s.rules.take m).flatMap lineR).length ≤ 16 * 3000) := Lib.hid (Nat.le_trans (flat_le lineR 3000 _ (fun r hr => lineR_le (OKS.out.rls r (List.mem_of_mem_take hr)))) (Nat.mul_le_mul_right 3000 (by rw [List.length_take]; omega)))
            have RST := Lib.hid (rule_step hlm)
            obtain ⟨b2, o2, qa, qc, rfl, d0, d1, d2, d3, d4, d5, d6, hw⟩ := ruls_at (SL.out.gr RRul.mono HGX.out) m hlm
            obtain ⟨F, hF⟩ : ∃ F, (s.rules.take m).flatMap lineR = F := ⟨_, rfl⟩
            rw [hF] at RST BLX FLE
            obtain ⟨r, hr⟩ : ∃ r, s.rules[m] = r := ⟨_, rfl⟩
            rw [hr] at d0 d1 d2 d3 d4 d5 d6 hw RST OKR SMR
            have SW := Lib.hid hw
            have dh2 := has_of_cell d0
            have m2 : (m : Int) < s.rules.length := by omega
            have LRL := Lib.hid (lineR_le OKR.out)
            have jl : (Lib.join (wordsP r) [32]).length ≤ 3000 := by have := LRL.out; unfold lineR at this; simp only [List.length_cons, List.length_append] at this; omega
            clear hr hw hF
            go_wp2_with fail
            obtain ⟨W6, hW6⟩ : ∃ W : World, Hid (W = wr.alloc (.cells #[.string (bs r.name), .bool r.req, .int .i64 r.kind, .int .i64 r.low, .int .i64 r.high, .int .i64 r.count, .slice qa r.words.length qc] 28)) := ⟨_, Lib.hid rfl⟩
            have G6 : Hid (Gr wr W6) := Lib.hid (by rw [hW6.out]; exact (Gr.refl _).alloc _)
            rw [← hW6.out]
            clear hW6
            have HG6 := Lib.hid (HGX.out.trans G6.out)
            have L6 := Lib.hid (L.out.gr (G1.out.trans HG6.out))
            refine (words_any r qa qc W6 (SW.out.gr RS.mono G6.out) OKR.out SMR.out.1 L6.out.2.2.2.2 L6.out.1).mono ?_
            rintro e w7 ⟨v7, rfl, hown, hg7⟩
            obtain ⟨wb, hwb, hwl⟩ : ∃ M : Nat, 0 < (wordsP r).length ∧ (wordsP r).length ≤ 1000 := ⟨0, by
              obtain ⟨h1, h2, _⟩ := words_bnd OKR.out (M := 1000000) (by omega) SMR.out.1 SMR.out.2.2
              exact ⟨h1, by omega⟩⟩
            have OWN := Lib.hid hown
            have HG7 := Lib.hid (HG6.out.trans hg7)
            have BL7 := Lib.hid (BLX.out.gr (G6.out.trans hg7))
            clear hown hg7
            go_wp2_with fail
            refine (joinO_any (wordsP r) v7 _ [32] w7 OWN.out hwb hwl (by omega)).mono ?_
            rintro e w8 ⟨rfl, hg8⟩
            have HG8 := Lib.hid (HG7.out.trans hg8)
            have BL8 := Lib.hid (BL7.out.gr hg8)
            have SZ8 : Hid (NB ≤ w8.heap.size) := Lib.hid (by have := HG8.out.size; have := hNB.out; omega)
            have hln := HL.out
            clear hg8
            go_wp2_with fail
            refine (write_any NB NB (P ++ lineS s ++ F) (lineR r) w8 BL8.out (by have := LRL.out; have := PLE.out; have := FLE.out; rw [List.length_append, List.length_append]; omega) SZ8.out).mono ?_
            rintro e w9 ⟨⟨v9, rfl⟩, hb9, hbe, hot⟩
            have HG9 := Lib.hid (HG8.out.bel (by rw [hNB.out]; exact hbe))
            have BL9 := Lib.hid hb9
            clear hb9 hbe hot
            go_wp2_with fail
            go_roundw
            case rel => exact ⟨m + 1, by omega, by go_num, by rw [RST.out, ← List.append_assoc]; exact BL9.out, HG9.out⟩
            case measure => simp [intOf]; omega
          · obtain rfl : m = s.rules.length := by omega
            rw [List.take_length] at BLX
            go_wp2_with fail
            go_roundw
            case rel => exact ⟨k + 1, by omega, by go_num, by rw [STP.out]; unfold fmtS; rw [← List.append_assoc]; exact BLX.out, HGX.out⟩
            case measure => simp [intOf]; omega
      · obtain rfl : k = l.length := by omega
        rw [List.take_length] at BL
        go_wp2_with fail
        refine (bstr_any NB NB (fmtP l) wr BL.out SZ.out).mono ?_
        rintro e w9 ⟨rfl, hbe⟩
        have HG9 := Lib.hid (HG.out.bel (by rw [hNB.out]; exact hbe))
        clear hbe
        go_wp2_with fail
        refine bodyPost_ret (v := .tuple #[.string (bs (fmtP l)), .int .i64 0]) (by simp [results, Tryz.results15, go_sem]) rfl ?_
        rw [RT.out]
        exact ⟨by rw [HZ.out], G1.out.trans HG9.out⟩
  · have e1 : (chkSch l != 0) = true := by rw [bne_iff_ne]; exact hz
    have R : Hid (T = []) := Lib.hid (by rw [← hT.out, if_neg hz])
    clear hz
    go_wp2_with fail
    refine bodyPost_ret (v := .tuple #[.string ⟨#[]⟩, .int .i64 (chkSch l)]) (by simp [results, Tryz.results15, go_sem]) rfl ?_
    rw [R.out]
    exact ⟨rfl, G1.out⟩
end Go.Proofs.YtadldblpkgackaaGreatDoor
