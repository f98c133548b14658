/- schema.Find. SchemaDiffers: the walk. -/
import Derived.Test.YtadldblpkgackaaGreatDoorUcB
import Derived.Test.YtadldblpkgackaaGreatDoorUjE
import Derived.Test.YtadldblpkgackaaGreatDoorUiC
import Derived.Test.YtadldblpkgackaaGreatDoorUhB
import Derived.Test.YtadldblpkgackaaGreatDoorUeC
set_option linter.unusedVariables false
set_option linter.unusedSimpArgs false
namespace Go.Proofs.YtadldblpkgackaaGreatDoor
open Go.RowKit
open Classical

def FirstAt (o : Option Nat) (i : Int) : Prop := match o with | none => i = -1 | some k => i = k
def findC (l : List Sch) (c : St) : Option Nat := l.findIdx? (fun s => s.comp == c)
theorem find1_any (s : Sch) (c : St) (a : Option Addr) (n cap q0 : Nat) (w : World) (hq : w.cell? ⟨q0, 0, none⟩ = some (.string (bs c))) :
    Calls Tryz.prog 55 #[.agg #[.string (bs s.comp), .bool s.closed, .slice a n cap], .pointer (some ⟨q0, 0, none⟩)] w (Grows w (.bool (s.comp == c))) := by
  have hh := has_of_cell hq
  go_enter Tryz.func55, Tryz.ntmps55
  go_wp2_with fail
  go_ret
  exact ⟨rfl, (Gr.refl _).alloc _⟩
set_option maxRecDepth 100000 in
set_option maxHeartbeats 4000000 in
theorem idxFind_any (ts : List Sch) (a : Option Addr) (cap : Nat) (c : St) (q0 : Nat) (w : World) (h : SlOf 3 RSch w a ts) (hf : ts.length ≤ 1000000) (hq : w.cell? ⟨q0, 0, none⟩ = some (.string (bs c))) :
    Calls Tryz.prog 54 #[.slice a ts.length cap, .func (.func 55) #[] #[.pointer (some ⟨q0, 0, none⟩)]] w fun e w' => ∃ i : Int, e = .returned (.int .i64 i) ∧ FirstAt (findC ts c) i ∧ Gr w w' := by
  have H := Lib.hid h
  have HQ := Lib.hid hq
  clear h hq
  go_enter Tryz.func54, Tryz.ntmps54
  go_wp2_with fail
  go_loopw [8] (fun i wr => ∃ k : Nat, k ≤ ts.length ∧ i = .int .i64 k ∧ (∀ j (hj : j < k) (hjl : j < ts.length), (ts[j].comp == c) = false) ∧ Gr w wr) (fun i _ => ts.length - (intOf i).toNat)
  case atStart => exact ⟨0, Nat.zero_le _, rfl, fun j h => absurd h (by omega), Gr.refl _⟩
  case round =>
    obtain ⟨k, hk, rfl, hall, hg⟩ := hrel
    have HA := Lib.hid hall
    have HG := Lib.hid hg
    clear hall hg
    by_cases hlt : k < ts.length
    · obtain ⟨b, o, pa, pc, rfl, c0, c1, c2, _⟩ := schs_at (H.out.giC HG.out) k hlt
      obtain ⟨n, hn⟩ : ∃ n, n = ts[k] := ⟨_, rfl⟩
      have HN := Lib.hid hn
      rw [← hn] at c0 c1 c2
      clear hn
      have hh := has_of_cell c0
      have HC := Lib.hid (find1_any n c pa n.rules.length pc q0 wr (cell_gr HG.out HQ.out))
      by_cases hv : (n.comp == c) = true
      · rw [hv] at HC
        have V : Hid (findC ts c = some k) := Lib.hid (by
          unfold findC
          rw [List.findIdx?_eq_some_iff_getElem]
          exact ⟨hlt, by rw [← HN.out]; exact hv, fun j hj => by rw [HA.out j hj (by omega)]; simp⟩)
        clear hv
        go_wp2_with (go_at_call 55; refine HC.out.mono ?_; rintro e w' ⟨rfl, O, d, rfl⟩)
        go_ret
        exact ⟨_, rfl, by rw [V.out]; rfl, HG.out.xt _ _⟩
      · rw [Bool.not_eq_true] at hv
        rw [hv] at HC
        have V := Lib.hid hv
        clear hv
        go_wp2_with (go_at_call 55; refine HC.out.mono ?_; rintro e w' ⟨rfl, O, d, rfl⟩)
        go_roundw
        case rel =>
          refine ⟨k + 1, by omega, by go_num, fun j hj hjl => ?_, HG.out.xt _ _⟩
          by_cases e : j = k
          · subst e; rw [← HN.out]; exact V.out
          · exact HA.out j (by omega) hjl
        case measure => simp [intOf]; omega
    · have V : Hid (findC ts c = none) := Lib.hid (by
        unfold findC
        rw [List.findIdx?_eq_none_iff]
        intro x hx
        obtain ⟨j, hj, rfl⟩ := List.getElem_of_mem hx
        exact HA.out j (by omega) hj)
      go_wp2_with fail
      go_ret
      exact ⟨_, rfl, by rw [V.out]; rfl, HG.out⟩
theorem find_any (ts : List Sch) (a : Option Addr) (cap : Nat) (c : St) (w : World) (h : SlOf 3 RSch w a ts) (hf : ts.length ≤ 1000000) :
    Calls Tryz.prog 18 #[.slice a ts.length cap, .string (bs c)] w (Grows w (.tuple #[.int .i64 (((findC ts c).getD 0 : Nat) : Int), .bool (findC ts c).isSome])) := by
  have H := Lib.hid h
  clear h
  go_enter Tryz.func18, Tryz.ntmps18
  go_wp2_with fail
  refine (idxFind_any ts a cap c _ _ (H.out.giC ((Gr.refl _).alloc _)) hf ((Row.new w #[.string (bs c)] 9).cell 0 (by simp))).mono ?_
  rintro e w1 ⟨i, rfl, hi, hg⟩
  have G1 := Lib.hid (((Gr.refl w).alloc _).trans hg)
  clear hg
  cases hz : findC ts c with
  | none =>
    have HZ := Lib.hid hz
    rw [hz] at hi
    have hi2 : i = -1 := hi
    subst hi2
    clear hi hz
    go_wp2_with fail
    refine bodyPost_ret (v := .tuple #[.int .i64 0, .bool false]) (by simp [results, Tryz.results18, go_sem]; try rfl) rfl ?_
    exact ⟨by rw [HZ.out]; rfl, G1.out⟩
  | some k =>
    have HZ := Lib.hid hz
    rw [hz] at hi
    have hi2 : i = k := hi
    subst hi2
    have hk : k ≤ 1000000 := by
      unfold findC at hz
      rw [List.findIdx?_eq_some_iff_getElem] at hz
      obtain ⟨q, _⟩ := hz
      omega
    clear hi hz
    go_wp2_with fail
    refine bodyPost_ret (v := .tuple #[.int .i64 k, .bool true]) (by simp [results, Tryz.results18, go_sem]) rfl ?_
    exact ⟨by rw [HZ.out]; rfl, G1.out⟩
end Go.Proofs.YtadldblpkgackaaGreatDoor
set_option linter.unusedVariables false
set_option linter.unusedSimpArgs false
namespace Go.Proofs.YtadldblpkgackaaGreatDoor
open Go.RowKit
open Classical

def namesD : List St := [[97, 44, 120], [98], [99, 44, 100, 101, 118], [102, 105, 120, 101, 100, 45, 99, 108, 111, 99, 107], [111, 116, 104, 101, 114]]
theorem find_some {l : List Sch} {c : St} : (findC l c).isSome = l.any (fun s => s.comp == c) := by
  unfold findC
  cases hz : l.findIdx? (fun s => s.comp == c) with
  | none =>
    rw [List.findIdx?_eq_none_iff] at hz
    rw [eq_comm, Option.isSome_none, List.any_eq_false]
    intro x hx
    simp [hz x hx]
  | some k =>
    rw [List.findIdx?_eq_some_iff_getElem] at hz
    obtain ⟨h, h2, _⟩ := hz
    rw [eq_comm, Option.isSome_some, List.any_eq_true]
    exact ⟨_, List.getElem_mem h, h2⟩
theorem find_at {l : List Sch} {c : St} {k : Nat} (h : findC l c = some k) : ∃ h : k < l.length, l[k].comp = c := by
  unfold findC at h
  rw [List.findIdx?_eq_some_iff_getElem] at h
  obtain ⟨h, h2, _⟩ := h
  exact ⟨h, by simpa using h2⟩
theorem any_take (l : List Sch) (c : St) (j : Nat) (h : j < l.length) : (l.take (j + 1)).any (fun s => s.comp == c) = ((l.take j).any (fun s => s.comp == c) || (l[j].comp == c)) := by
  rw [List.take_succ_eq_append_getElem h, List.any_append]
  simp
set_option maxRecDepth 100000 in
set_option maxHeartbeats 16000000 in
theorem differs_walk (a : Option Addr) (len cap : Nat) (zs : List Int) (w : World) (h : RowIn w a len cap zs) (hl : Libs w) :
    Calls Tryz.prog 6 #[.slice a len cap] w (Grows w (.bool true)) := by
  have H := Lib.hid h
  have L := Lib.hid hl
  clear h hl
  go_enter Tryz.func6, Tryz.ntmps6
  go_wp2_with fail
  refine (newTape_any w a len cap zs H.out).mono ?_
  rintro e w1 ⟨b, n0, rfl, ht, hg, hb, _⟩
  have TP := Lib.hid (show Tp w1 b n0 from ⟨0, ht⟩)
  have G1 := Lib.hid hg
  have BW := Lib.hid hb
  clear ht hg hb
  go_wp2_with fail
  refine (schemas_any w1 b n0 TP.out).mono ?_
  rintro e w2 ⟨v, out, rfl, hoa, hsub, hgo, hmv⟩
  obtain ⟨va, vc, rfl⟩ := owns_slice hoa.own
  have OA := Lib.hid hoa
  have GO := Lib.hid hgo
  have M2 := Lib.hid hmv
  have G2 : Hid (Gr w w2) := Lib.hid (hmv.out G1.out BW.out)
  have TP2 := Lib.hid (hmv.tp TP.out)
  obtain ⟨l, hL⟩ : ∃ l, out.map SM.sch = l := ⟨_, rfl⟩
  have LEN : Hid (out.length = l.length) := Lib.hid (by rw [← hL, List.length_map])
  have SUB : Hid ((l.map Sch.comp).Sublist compsL) := Lib.hid (by rw [← hL, comp_sch]; exact hsub)
  have GD : Hid (∀ s ∈ l, GoodD s) := Lib.hid (fun s hs => by
    rw [← hL] at hs
    obtain ⟨m, hm, rfl⟩ := List.mem_map.1 hs
    exact good_data (hgo m hm) (hoa.rls m hm))
  have L4 : Hid (l.length ≤ 4) := Lib.hid (by have := SUB.out.length_le; rw [List.length_map] at this; exact this)
  have EL := Lib.hid hL
  rw [LEN.out]
  clear hoa hsub hgo hmv hL
  go_wp2_with fail
  refine (schemas_any w2 b n0 TP2.out).mono ?_
  rintro e w3 ⟨v2, out2, rfl, hoa, hsub, hgo, hmv⟩
  obtain ⟨vb, vd, rfl⟩ := owns_slice hoa.own
  have G3 : Hid (Gr w w3) := Lib.hid (hmv.out G2.out BW.out)
  have SL : Hid (SlOf 3 RSch w3 va l) := Lib.hid (by rw [← EL.out]; exact (OA.out.mv (fun s hs => (GO.out s hs).hi) TP.out.has hmv).sl.2)
  obtain ⟨m, hM⟩ : ∃ m, out2.map SM.sch = m := ⟨_, rfl⟩
  have LENM : Hid (out2.length = m.length) := Lib.hid (by rw [← hM, List.length_map])
  have SUBM : Hid ((m.map Sch.comp).Sublist compsL) := Lib.hid (by rw [← hM, comp_sch]; exact hsub)
  have GDM : Hid (∀ s ∈ m, GoodD s) := Lib.hid (fun s hs => by
    rw [← hM] at hs
    obtain ⟨q, hq, rfl⟩ := List.mem_map.1 hs
    exact good_data (hgo q hq) (hoa.rls q hq))
  have SM2 : Hid (SlOf 3 RSch w3 vb m) := Lib.hid (by rw [← hM]; exact hoa.sl.2)
  have M4 : Hid (m.length ≤ 4) := Lib.hid (by have := SUBM.out.length_le; rw [List.length_map] at this; exact this)
  rw [LENM.out]
  clear hoa hsub hgo hmv hM OA GO M2 TP2
  have l4 := L4.out
  have m4 := M4.out
  have SA := Lib.hid (good_sml SUB.out GD.out)
  have SB := Lib.hid (good_sml SUBM.out GDM.out)
  have CA := Lib.hid (good_chk SUB.out GD.out)
  have CB := Lib.hid (good_chk SUBM.out GDM.out)
  have INJ := Lib.hid (fmt_inj SUB.out GD.out SUBM.out GDM.out)
  go_wp2_with fail
  have Q1 : Calls Tryz.prog 15 #[.slice va l.length vc] w3 (Grows w3 (.tuple #[.string (bs (fmtP l)), .int .i64 0])) := by
    have q := format_any l va vc w3 SL.out (by omega) SA.out (L.out.gr G3.out)
    rw [CA.out, if_pos rfl] at q
    exact q
  refine Q1.mono ?_
  clear Q1
  rintro e w4 ⟨rfl, hg4⟩
  have G4 := Lib.hid (G3.out.trans hg4)
  have SL4 := Lib.hid (SL.out.gr RSch.mono hg4)
  have SM4 := Lib.hid (SM2.out.gr RSch.mono hg4)
  clear hg4 SL SM2
  go_wp2_with fail
  have Q2 : Calls Tryz.prog 15 #[.slice vb m.length vd] w4 (Grows w4 (.tuple #[.string (bs (fmtP m)), .int .i64 0])) := by
    have q := format_any m vb vd w4 SM4.out (by omega) SB.out (L.out.gr G4.out)
    rw [CB.out, if_pos rfl] at q
    exact q
  refine Q2.mono ?_
  clear Q2
  rintro e w5 ⟨rfl, hg5⟩
  have G5 := Lib.hid (G4.out.trans hg5)
  have SL5 := Lib.hid (SL4.out.gr RSch.mono hg5)
  have SM5 := Lib.hid (SM4.out.gr RSch.mono hg5)
  clear hg5 SL4 SM4
  obtain ⟨X, hX⟩ : ∃ X, fmtP l = X := ⟨_, rfl⟩
  obtain ⟨Y, hY⟩ : ∃ Y, fmtP m = Y := ⟨_, rfl⟩
  rw [hX, hY] at INJ
  rw [hX, hY]
  clear hX hY
  have SQ := Lib.hid (Same_any l m va vb vc vd w5 SL5.out SM5.out (by omega) (by omega) (fun s hs => ⟨(SA.out s hs).2.1, fun r hr => ((SA.out s hs).2.2 r hr).2.1⟩) (fun s hs => ⟨(SB.out s hs).2.1, fun r hr => ((SB.out s hs).2.2 r hr).2.1⟩))
  obtain ⟨D, hD⟩ : ∃ D : Bool, (X == Y) = D := ⟨_, rfl⟩
  have DE : Hid (decide (l = m) = D) := Lib.hid (by
    rw [← hD, Bool.eq_iff_iff, decide_eq_true_eq, beq_iff_eq]; exact INJ.out.symm)
  rw [DE.out] at SQ
  go_wp2_with fail
  refine SQ.out.mono ?_
  clear SQ
  rintro e w6 ⟨rfl, hg6⟩
  have G6 := Lib.hid (G5.out.trans hg6)
  have SL6 := Lib.hid (SL5.out.gr RSch.mono hg6)
  have hDD : (D != D) = false := by cases D <;> rfl
  clear hg6 SL5 SM5
  go_wp2_with fail
  have RN0 : Hid (Row (w6.alloc (.cells #[.string ⟨#[97, 44, 120]⟩, .string ⟨#[98]⟩, .string ⟨#[99, 44, 100, 101, 118]⟩, .string ⟨#[102, 105, 120, 101, 100, 45, 99, 108, 111, 99, 107]⟩, .string ⟨#[111, 116, 104, 101, 114]⟩] 9)) w6.heap.size 9 (strV namesD)) := Lib.hid (Row.new w6 #[.string ⟨#[97, 44, 120]⟩, .string ⟨#[98]⟩, .string ⟨#[99, 44, 100, 101, 118]⟩, .string ⟨#[102, 105, 120, 101, 100, 45, 99, 108, 111, 99, 107]⟩, .string ⟨#[111, 116, 104, 101, 114]⟩] 9)
  obtain ⟨W7, hW7⟩ : ∃ W : World, Hid (W = w6.alloc (.cells #[.string ⟨#[97, 44, 120]⟩, .string ⟨#[98]⟩, .string ⟨#[99, 44, 100, 101, 118]⟩, .string ⟨#[102, 105, 120, 101, 100, 45, 99, 108, 111, 99, 107]⟩, .string ⟨#[111, 116, 104, 101, 114]⟩] 9)) := ⟨_, Lib.hid rfl⟩
  have G67 : Hid (Gr w6 W7) := Lib.hid (by rw [hW7.out]; exact (Gr.refl _).alloc _)
  rw [← hW7.out] at RN0 ⊢
  obtain ⟨NR, hNR⟩ : ∃ N : Nat, Hid (w6.heap.size = N) := ⟨_, Lib.hid rfl⟩
  rw [hNR.out] at RN0 ⊢
  have G7 := Lib.hid (G6.out.trans G67.out)
  have SL7 := Lib.hid (SL6.out.gr RSch.mono G67.out)
  clear hW7 hNR hD
  go_loopw [50] (fun i wr => ∃ k : Nat, k ≤ 5 ∧ i = .int .i64 k ∧ Gr W7 wr) (fun i _ => 5 - (intOf i).toNat)
  case atStart => exact ⟨0, by omega, rfl, Gr.refl _⟩
  case round =>
    obtain ⟨k, hk, rfl, hg⟩ := hrel
    have HG := Lib.hid hg
    have rn := RN0.out.gr hg
    clear hg
    by_cases hlt : k < 5
    · have hkc : k < namesD.length := hlt
      have c0 := rn.cell k (by simpa [strV] using hkc)
      rw [strV_get hkc] at c0
      obtain ⟨c, hc⟩ : ∃ c, namesD[k] = c := ⟨_, rfl⟩
      rw [hc] at c0
      have hh := has_of_cell c0
      have k5 : (k : Int) < 5 := by omega
      clear hc hkc rn
      go_wp2_with fail
      refine (find_any l va vc c wr (SL7.out.gr RSch.mono HG.out) (by omega)).mono ?_
      rintro e w8 ⟨rfl, hg8⟩
      have HG8 := Lib.hid (HG.out.trans hg8)
      clear hg8 c0 hh
      have FS := Lib.hid (find_some (l := l) (c := c))
      have FA := Lib.hid (fun (j : Nat) (q : findC l c = some j) => find_at q)
      obtain ⟨ok, hok⟩ : ∃ ok, (findC l c).isSome = ok := ⟨_, rfl⟩
      obtain ⟨kk, hkk⟩ : ∃ kk, (findC l c).getD 0 = kk := ⟨_, rfl⟩
      have KK := Lib.hid hkk
      have OKK := Lib.hid hok
      rw [hok, hkk]
      rw [hok] at FS
      clear hok hkk
      go_wp2_with fail
      go_loopw [62, 14] (fun i t wx => ∃ j : Nat, j ≤ l.length ∧ i = .int .i64 j ∧ t = .bool ((l.take j).any (fun s => s.comp == c)) ∧ Gr W7 wx) (fun i _ _ => l.length - (intOf i).toNat)
      case atStart => exact ⟨0, Nat.zero_le _, rfl, rfl, HG8.out⟩
      case round =>
        obtain ⟨j, hj, rfl, rfl, hg⟩ := hrel
        have HGX := Lib.hid hg
        clear hg
        by_cases hlj : j < l.length
        · obtain ⟨gb, o, pa, pc, rfl, c0, c1, c2, _⟩ := schs_at (SL7.out.giC HGX.out) j hlj
          have AT := Lib.hid (any_take l c j hlj)
          obtain ⟨s, hs⟩ : ∃ s, l[j] = s := ⟨_, rfl⟩
          rw [hs] at c0 c1 c2 AT
          have hh := has_of_cell c0
          have j1 : (j : Int) < l.length := by omega
          clear hs
          cases hz : (l.take j).any (fun s => s.comp == c) with
          | true =>
            rw [hz, Bool.true_or] at AT
            clear hz
            go_wp2_with fail
            go_roundw
            case rel => exact ⟨j + 1, by omega, by go_num, by rw [AT.out], HGX.out.alloc _⟩
            case measure => simp [intOf]; omega
          | false =>
            rw [hz, Bool.false_or] at AT
            clear hz
            go_wp2_with fail
            go_roundw
            case rel => exact ⟨j + 1, by omega, by go_num, by rw [AT.out], HGX.out.alloc _⟩
            case measure => simp [intOf]; omega
        · obtain rfl : j = l.length := by omega
          rw [List.take_length, ← FS.out]
          cases ok with
          | false =>
            clear KK FA
            go_wp2_with fail
            go_roundw
            case rel => exact ⟨k + 1, by omega, by go_num, HGX.out⟩
            case measure => simp [intOf]; omega
          | true =>
            obtain ⟨k9, hk9⟩ := Option.isSome_iff_exists.1 OKK.out
            obtain ⟨hl9, hc9⟩ := FA.out k9 hk9
            obtain rfl : kk = k9 := by rw [← KK.out, hk9]; rfl
            obtain ⟨gb, o, pa, pc, rfl, c0, c1, c2, hx9⟩ := schs_at (SL7.out.giC HGX.out) kk hl9
            clear hx9
            obtain ⟨cl9, hcl9⟩ : ∃ q, l[kk].closed = q := ⟨_, rfl⟩
            obtain ⟨rl9, hrl9⟩ : ∃ q, l[kk].rules.length = q := ⟨_, rfl⟩
            rw [hcl9] at c1
            rw [hrl9] at c2
            rw [hc9] at c0
            have hh := has_of_cell c0
            have kl : (kk : Int) < l.length := by omega
            clear hcl9 hrl9 hc9 hl9 hk9 KK FA OKK
            go_wp2_with fail
            go_roundw
            case rel => exact ⟨k + 1, by omega, by go_num, HGX.out⟩
            case measure => simp [intOf]; omega
    · obtain rfl : k = 5 := by omega
      go_wp2_with fail
      refine (awake09_any _ (L.out.gr (G7.out.trans HG.out))).mono ?_
      rintro e w9 ⟨rfl, hg9⟩
      have G9 := Lib.hid ((G7.out.trans HG.out).trans hg9)
      clear hg9
      go_wp2_with fail
      go_ret
      exact ⟨rfl, G9.out⟩
end Go.Proofs.YtadldblpkgackaaGreatDoor
