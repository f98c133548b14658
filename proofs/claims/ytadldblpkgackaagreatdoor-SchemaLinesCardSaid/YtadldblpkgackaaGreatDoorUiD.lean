/- SchemaLines: the walk. -/
import Derived.Test.YtadldblpkgackaaGreatDoorUiC
import Derived.Test.YtadldblpkgackaaGreatDoorUhB
import Derived.Test.YtadldblpkgackaaGreatDoorUeC
set_option linter.unusedVariables false
set_option linter.unusedSimpArgs false
namespace Go.Proofs.YtadldblpkgackaaGreatDoor
open Go.RowKit
open Classical

set_option maxRecDepth 100000 in
set_option maxHeartbeats 16000000 in
theorem lines_walk (a : Option Addr) (len cap : Nat) (zs : List Int) (w : World) (h : RowIn w a len cap zs) (hl : Libs w) :
    Calls Tryz.prog 5 #[.slice a len cap] w (Grows w (.bool true)) := by
  have H := Lib.hid h
  have L := Lib.hid hl
  clear h hl
  go_enter Tryz.func5, Tryz.ntmps5
  go_wp2_with fail
  refine (newTape_any w a len cap zs H.out).mono ?_
  rintro e w1 ⟨b, n0, rfl, ht, hg, hb, _⟩
  have TP := Lib.hid (show Tp w1 b n0 from ⟨0, ht⟩)
  have G1 := Lib.hid hg
  have BW := Lib.hid hb
  clear ht hg hb
  go_wp2_with fail
  refine (schemas_any w1 b n0 TP.out).mono ?_
  rintro e w2 ⟨v, out, rfl, hoa, hsub, hgo, hmv⟩
  obtain ⟨va, vc, rfl⟩ := owns_slice hoa.own
  have OA := Lib.hid hoa
  have GO := Lib.hid hgo
  have M2 := Lib.hid hmv
  have G2 : Hid (Gr w w2) := Lib.hid (hmv.out G1.out BW.out)
  obtain ⟨l, hL⟩ : ∃ l, out.map SM.sch = l := ⟨_, rfl⟩
  have EL := Lib.hid hL
  have LEN : Hid (out.length = l.length) := Lib.hid (by rw [← hL, List.length_map])
  have SUB : Hid ((l.map Sch.comp).Sublist compsL) := Lib.hid (by rw [← hL, comp_sch]; exact hsub)
  have GD : Hid (∀ s ∈ l, GoodD s) := Lib.hid (fun s hs => by
    rw [← hL] at hs
    obtain ⟨m, hm, rfl⟩ := List.mem_map.1 hs
    exact good_data (hgo m hm) (hoa.rls m hm))
  have SL : Hid (SlOf 3 RSch w2 va l) := Lib.hid (by rw [← hL]; exact hoa.sl.2)
  have L4 : Hid (l.length ≤ 4) := Lib.hid (by have := SUB.out.length_le; rw [List.length_map] at this; exact this)
  have CHK := Lib.hid (good_chk SUB.out GD.out)
  have CAP : Hid (l.length ≤ vc) := Lib.hid (by
    have q := hoa.own
    rw [LEN.out] at q
    rcases q.2 with ⟨e, z⟩ | ⟨g, cap, cur, e, _, _, z, _⟩
    · omega
    · cases e; exact z)
  rw [LEN.out]
  clear hoa hsub hgo hmv hL
  go_wp2_with fail
  refine (format_any l va vc w2 SL.out (by have := L4.out; omega) (good_sml SUB.out GD.out) (L.out.gr G2.out)).mono ?_
  rintro e w3 ⟨rfl, hg3⟩
  rw [CHK.out, if_pos rfl]
  have G3 := Lib.hid (G2.out.trans hg3)
  have H23 := Lib.hid hg3
  obtain ⟨hl24, hok⟩ := chk_zero CHK.out
  have XLE := Lib.hid (fmtP_le hl24 hok)
  have XNL := Lib.hid (nlC_fmt l hok)
  clear hg3 hl24
  have OK := Lib.hid hok
  clear hok
  obtain ⟨X, hX⟩ : ∃ X, fmtP l = X := ⟨_, rfl⟩
  have EX := Lib.hid hX
  rw [hX] at XLE XNL ⊢
  clear hX
  have xle := XLE.out
  go_wp2_with fail
  go_loopw [8, 7] (fun i c wr => ∃ k : Nat, k ≤ X.length ∧ i = .int .i64 k ∧ c = .int .i64 (nlC (X.take k)) ∧ Gr w3 wr) (fun i _ _ => X.length - (intOf i).toNat)
  case atStart => exact ⟨0, Nat.zero_le _, rfl, rfl, Gr.refl _⟩
  case round =>
    obtain ⟨k, hk, rfl, rfl, hg1⟩ := hrel
    have HG1 := Lib.hid hg1
    clear hg1
    by_cases hlt : k < X.length
    · have ST := Lib.hid (nlC_take X k hlt)
      have NLE := nlC_le X k
      have k1 : (k : Int) < X.length := by omega
      by_cases hx : X[k] = 10
      · rw [hx, if_pos rfl] at ST
        have hx2 : X[k].toNat = 10 := by rw [hx]; rfl
        clear hx
        go_wp2_with fail
        go_roundw
        case rel => exact ⟨k + 1, by omega, by go_num, by rw [ST.out]; go_num, HG1.out⟩
        case measure => simp [intOf]; omega
      · rw [if_neg hx] at ST
        have hx2 : ¬ (X[k].toNat : Int) = 10 := fun q => hx (by
          have : X[k].toNat = 10 := by omega
          exact UInt8.toNat_inj.1 this)
        have hx3 : ((X[k].toNat : Int) == 10) = false := by rw [beq_eq_false_iff_ne]; exact hx2
        have hx4 : (X[k].toNat == 10) = false := by rw [beq_eq_false_iff_ne]; omega
        have hx5 : (X[k] == 10) = false := by rw [beq_eq_false_iff_ne]; exact hx
        clear hx
        go_wp2_with fail
        go_roundw
        case rel => exact ⟨k + 1, by omega, by go_num, by rw [ST.out]; go_num, HG1.out⟩
        case measure => simp [intOf]; omega
    · obtain rfl : k = X.length := by omega
      rw [List.take_length, XNL.out]
      have NLE : nLines l ≤ 1200000 := by have := nlC_le X X.length; rw [List.take_length, XNL.out] at this; have := XLE.out; omega
      have NLH := Lib.hid NLE
      clear NLE
      go_wp2_with fail
      go_loopw [42, 7] (fun i c wr => ∃ j : Nat, j ≤ l.length ∧ i = .int .i64 j ∧ c = .int .i64 ((nLines l : Int) - nLines (l.take j)) ∧ Gr w3 wr) (fun i _ _ => l.length - (intOf i).toNat)
      case atStart => exact ⟨0, Nat.zero_le _, rfl, by simp [nLines], HG1.out⟩
      case round =>
        obtain ⟨j, hj, rfl, rfl, hg⟩ := hrel
        have HG := Lib.hid hg
        clear hg
        by_cases hlj : j < l.length
        · obtain ⟨gb, o, pa, pc, rfl, c0, c1, c2, _⟩ := schs_at (SL.out.giC (H23.out.trans HG.out)) j hlj
          have ST := Lib.hid (nLines_take l j hlj)
          have NL1 := nLines_le l (j + 1)
          have NL0 := NLH.out
          rw [ST.out] at NL1
          obtain ⟨s, hs⟩ : ∃ s, l[j] = s := ⟨_, rfl⟩
          rw [hs] at c0 c1 c2 ST NL1
          obtain ⟨B, hB⟩ : ∃ B, nLines (l.take j) = B := ⟨_, rfl⟩
          obtain ⟨N, hN⟩ : ∃ N, nLines l = N := ⟨_, rfl⟩
          obtain ⟨R, hR⟩ : ∃ R, s.rules.length = R := ⟨_, rfl⟩
          rw [hB, hN, hR] at NL1
          rw [hN] at NL0
          rw [hB, hR] at ST
          rw [hR] at c2
          rw [hB, hN]
          have hh := has_of_cell c0
          have j1 : (j : Int) < l.length := by omega
          have l4 := L4.out
          have NN := Lib.hid hN
          clear hs hB hN hR
          go_wp2_with fail
          go_roundw
          case rel =>
            exact ⟨j + 1, by omega, by go_num, by rw [ST.out]; go_num, HG.out.alloc _⟩
          case measure => simp [intOf]; omega
        · obtain rfl : j = l.length := by omega
          rw [List.take_length, Int.sub_self]
          by_cases hz : l = []
          · subst hz
            have X0 : Hid (X = []) := Lib.hid (by rw [← EX.out]; rfl)
            obtain rfl := X0.out
            go_wp2_with fail
            refine (awake09_any _ (L.out.gr (G3.out.trans HG.out))).mono ?_
            rintro e w9 ⟨rfl, hg9⟩
            have G9 := Lib.hid ((G3.out.trans HG.out).trans hg9)
            clear hg9
            go_wp2_with fail
            go_ret
            exact ⟨rfl, G9.out⟩
          · have l0 : 0 < l.length := List.length_pos_iff.2 hz
            have lb : ((l.length : Int) == 0) = false := by rw [beq_eq_false_iff_ne]; omega
            have l4 := L4.out
            clear hz
            go_wp2_with fail
            refine (nM_any wr b n0 l.length ((M2.out.tp TP.out).gr (H23.out.trans HG.out)) (by omega) (by omega)).mono ?_
            rintro e w5 ⟨k, rfl, ⟨k0, k1⟩, hm⟩
            obtain ⟨k, rfl⟩ := Int.eq_ofNat_of_zero_le k0
            have hk : k < l.length := by omega
            have oa5 := (OA.out.gr (H23.out.trans HG.out)).mv (fun s hs => (GO.out s hs).hi) TP.out.has hm
            have G5 : Hid (Gr w w5) := Lib.hid (hm.out (G3.out.trans HG.out) BW.out)
            obtain ⟨g, us, eg, _, _, _⟩ := owns_row oa5.own (by rw [LEN.out]; exact l0)
            cases eg
            have SL5 : Hid (SlOf 3 RSch w5 (some ⟨g, 0, none⟩) l) := Lib.hid (by rw [← EL.out]; exact oa5.sl.2)
            have OW5 : Hid (w5.ownsRow w1.heap.size 24 3 (.slice (some ⟨g, 0, none⟩) l.length vc) l.length (out.flatMap SM.enc)) := Lib.hid (by have q := oa5.own; rw [LEN.out] at q; exact q)
            have RL5 := Lib.hid oa5.rls
            have HON : Hid (∀ s ∈ out, ∃ a n c, s.v = .slice a n c) := Lib.hid (fun s hs => (by obtain ⟨a1, c1, e1⟩ := owns_slice (oa5.rls s hs).own; exact ⟨_, _, _, e1⟩))
            have HCUT := Lib.hid (fmt_cut l k hk)
            have HLES := Lib.hid (fmt_less l k)
            have KL := Lib.hid hk
            have SUBC : Hid (∀ m : List Sch, m.Sublist l → chkSch m = 0 ∧ ∀ s ∈ m, SmlS s) := Lib.hid (fun m hm => (by
              have h1 := (hm.map Sch.comp).trans SUB.out
              have h2 : ∀ s ∈ m, GoodD s := fun s hs => GD.out s (hm.subset hs)
              exact ⟨good_chk h1 h2, good_sml h1 h2⟩))
            have ONE := Lib.hid (SUBC.out [l[k]] (List.singleton_sublist.2 (List.getElem_mem hk)))
            have FRO := Lib.hid (SUBC.out (l.take k) (List.take_sublist _ _))
            have LES := Lib.hid (SUBC.out (l.take k ++ l.drop (k + 1)) (by
              conv => rhs; rw [← List.take_append_drop k l, List.drop_eq_getElem_cons hk]
              exact List.Sublist.append (List.Sublist.refl _) (List.sublist_cons_self _ _)))
            have XCUT : Hid (X = fmtP (l.take k) ++ (fmtP [l[k]] ++ fmtP (l.drop (k + 1)))) := Lib.hid (by rw [← EX.out]; exact HCUT.out)
            obtain ⟨F, hF⟩ : ∃ F, fmtP (l.take k) = F := ⟨_, rfl⟩
            obtain ⟨O, hO⟩ : ∃ O, fmtP [l[k]] = O := ⟨_, rfl⟩
            obtain ⟨D, hD⟩ : ∃ D, fmtP (l.drop (k + 1)) = D := ⟨_, rfl⟩
            have EF := Lib.hid hF
            have EO := Lib.hid hO
            have ED := Lib.hid hD
            rw [hF, hO, hD] at XCUT
            have RCUT : Hid (fmtP (l.take k ++ l.drop (k + 1)) = F ++ D) := Lib.hid (by rw [HLES.out, hF, hD])
            obtain rfl := XCUT.out
            obtain ⟨s, hs⟩ : ∃ s, l[k] = s := ⟨_, rfl⟩
            have S1 : Hid (∀ W : World, Gr w5 W → SlOf 3 RSch W (some ⟨g, k * 3, none⟩) [s]) := Lib.hid (fun W hg => Eq.mp (congrArg (fun z => SlOf 3 RSch W (some ⟨g, k * 3, none⟩) [z]) hs) (sl_one (SL5.out.gr RSch.mono hg) KL.out))
            rw [hs] at ONE EO
            clear hF hO hD hs HCUT HLES
            rw [List.length_append, List.length_append] at xle
            clear k0 k1 hm oa5
            go_wp2_with fail
            by_cases hkc : k + 1 < vc
            · refine wp_code_eq (c := Code.region 20 (regIn 20 Tryz.f5) true) (by kernel_rfl) (sl20S (g := g) (n := l.length) (c := vc) (k := k) (out := out) (wr := w5) ⟨KL.out, CAP.out, by have := L4.out; omega⟩ HON.out (fun W hg => getsS_take (Gr.owns OW5.out hg) LEN.out (by omega)) (fun W hg => getsS_drop (Gr.owns OW5.out hg) LEN.out (by omega)) hkc ?_)
              intro t12 t71 t72 t73 t74 t75 t76 t77 t78 t79 t80 WX hgx hown
              obtain ⟨a6, c6, rfl⟩ := owns_slice hown
              have GX := Lib.hid (G5.out.trans hgx)
              have SLX := Lib.hid (SL5.out.gr RSch.mono hgx)
              have SLL : Hid (SlOf 3 RSch WX a6 (l.take k ++ l.drop (k + 1))) := Lib.hid (by
                have q : WX.ownsRow w5.heap.size 24 3 (.slice a6 (0 + k + (l.length - (k + 1))) c6) (out.take k ++ out.drop (k + 1)).length ((out.take k ++ out.drop (k + 1)).flatMap SM.enc) := by
                  rw [List.flatMap_append]
                  have e : (out.take k ++ out.drop (k + 1)).length = 0 + k + (l.length - (k + 1)) := by rw [List.length_append, List.length_take, List.length_drop, LEN.out]; omega
                  rw [e]
                  simpa using hown
                have q2 := outs_sl q (base2 := w1.heap.size) (fun s hs => (RL5.out s ((List.mem_append.1 hs).elim List.mem_of_mem_take List.mem_of_mem_drop)).gr hgx)
                rw [List.map_append, List.map_take, List.map_drop, EL.out] at q2
                exact q2)
              have hgx0 := hgx
              clear hgx hown
              have GXX := Lib.hid hgx0
              unfold sl20SA
              go_wp2_with fail
              refine (format_any [s] (some ⟨g, k * 3, none⟩) (vc - k) WX (S1.out WX GXX.out) (by simp) ONE.out.2 (L.out.gr GX.out)).mono ?_
              rintro e w6 ⟨rfl, hg6⟩
              rw [ONE.out.1, if_pos rfl, EO.out]
              have G6 := Lib.hid (GX.out.trans hg6)
              have GX6 := Lib.hid hg6
              clear hg6
              go_wp2_with fail
              have kl := KL.out
              have Q2 : Calls Tryz.prog 15 #[.slice a6 (k + (l.length - (k + 1))) c6] w6 (Grows w6 (.tuple #[.string (bs (F ++ D)), .int .i64 0])) := by
                have q := format_any (l.take k ++ l.drop (k + 1)) a6 c6 w6 (SLL.out.gr RSch.mono GX6.out) (by rw [List.length_append, List.length_take, List.length_drop]; omega) LES.out.2 (L.out.gr G6.out)
                rw [show (l.take k ++ l.drop (k + 1)).length = k + (l.length - (k + 1)) by rw [List.length_append, List.length_take, List.length_drop]; omega, LES.out.1, if_pos rfl, RCUT.out] at q
                exact q
              refine Q2.mono ?_
              clear Q2
              rintro e w7 ⟨rfl, hg7⟩
              have G7 := Lib.hid (G6.out.trans hg7)
              have GX7 := Lib.hid (GX6.out.trans hg7)
              clear hg7
              go_wp2_with fail
              have Q3 : Calls Tryz.prog 15 #[.slice (some ⟨g, 0, none⟩) k vc] w7 (Grows w7 (.tuple #[.string (bs F), .int .i64 0])) := by
                have q := format_any (l.take k) (some ⟨g, 0, none⟩) vc w7 (sl_take (SLX.out.gr RSch.mono GX7.out)) (by rw [List.length_take]; omega) FRO.out.2 (L.out.gr G7.out)
                rw [show (l.take k).length = k by rw [List.length_take]; omega, FRO.out.1, if_pos rfl, EF.out] at q
                exact q
              refine Q3.mono ?_
              clear Q3
              rintro e w8 ⟨rfl, hg8⟩
              have G8 := Lib.hid (G7.out.trans hg8)
              clear hg8
              have hq1 : ¬ ((F.length : Int) + ((O.length : Int) + (D.length : Int)) < (F.length : Int) + (O.length : Int)) := by omega
              have hq2 : (F.length : Int) ≤ (F.length : Int) + ((O.length : Int) + (D.length : Int)) := by omega
              have hq3 : (F.length : Int) + (O.length : Int) ≤ (F.length : Int) + ((O.length : Int) + (D.length : Int)) := by omega
              have hq4 : (F.length : Int) ≤ (F.length : Int) + (O.length : Int) := by omega
              have hq5 : ((F.length : Int) + (O.length : Int)).toNat = F.length + O.length := by omega
              have hq6 : F.length + (O.length + D.length) - (F.length + O.length) = D.length := by omega
              go_wp2_with fail
              refine (awake09_any _ (L.out.gr G8.out)).mono ?_
              rintro e w9 ⟨rfl, hg9⟩
              have G9 := Lib.hid (G8.out.trans hg9)
              clear hg9
              go_wp2_with fail
              go_ret
              exact ⟨rfl, G9.out⟩
            · have e1 : l.length = k + 1 := by have := CAP.out; have := KL.out; omega
              obtain rfl : vc = k + 1 := by have := CAP.out; have := KL.out; omega
              have DE : Hid (out.drop (k + 1) = []) := Lib.hid (List.drop_eq_nil_of_le (by rw [LEN.out, e1]; exact Nat.le_refl _))
              have OWE : Hid (w5.ownsRow w1.heap.size 24 3 (.slice (some ⟨g, 0, none⟩) (k + 1) (k + 1)) (k + 1) (out.flatMap SM.enc)) := Lib.hid (by have q := OW5.out; rw [e1] at q; exact q)
              have LENE : Hid (out.length = k + 1) := Lib.hid (by rw [LEN.out, e1])
              have E1 := Lib.hid e1
              rw [e1]
              clear e1
              refine wp_code_eq (c := Code.region 20 (regIn 20 Tryz.f5) true) (by kernel_rfl) (sl20E (g := g) (k := k) (out := out) (wr := w5) ⟨by omega, by omega, by have := L4.out; have := E1.out; omega⟩ HON.out (fun W hg => getsS_take (Gr.owns OWE.out hg) LENE.out (by omega)) (fun W hg => ⟨by rw [DE.out]; rfl, fun q => absurd rfl q⟩) ?_)
              intro t12 t71 t72 t73 t74 t75 t76 t77 t78 t79 t80 WX hgx hown
              obtain ⟨a6, c6, rfl⟩ := owns_slice hown
              have GX := Lib.hid (G5.out.trans hgx)
              have SLX := Lib.hid (SL5.out.gr RSch.mono hgx)
              have SLL : Hid (SlOf 3 RSch WX a6 (l.take k ++ l.drop (k + 1))) := Lib.hid (by
                have q : WX.ownsRow w5.heap.size 24 3 (.slice a6 (0 + k + 0) c6) (out.take k ++ out.drop (k + 1)).length ((out.take k ++ out.drop (k + 1)).flatMap SM.enc) := by
                  rw [List.flatMap_append]
                  have e : (out.take k ++ out.drop (k + 1)).length = 0 + k + 0 := by rw [List.length_append, List.length_take, List.length_drop, LENE.out]; omega
                  rw [e]
                  simpa using hown
                have q2 := outs_sl q (base2 := w1.heap.size) (fun s hs => (RL5.out s ((List.mem_append.1 hs).elim List.mem_of_mem_take List.mem_of_mem_drop)).gr hgx)
                rw [List.map_append, List.map_take, List.map_drop, EL.out] at q2
                exact q2)
              have hgx0 := hgx
              clear hgx hown
              have GXX := Lib.hid hgx0
              unfold sl20EA
              go_wp2_with fail
              refine (format_any [s] (some ⟨g, k * 3, none⟩) 1 WX (S1.out WX GXX.out) (by simp) ONE.out.2 (L.out.gr GX.out)).mono ?_
              rintro e w6 ⟨rfl, hg6⟩
              rw [ONE.out.1, if_pos rfl, EO.out]
              have G6 := Lib.hid (GX.out.trans hg6)
              have GX6 := Lib.hid hg6
              clear hg6
              go_wp2_with fail
              have kl := KL.out
              have Q2 : Calls Tryz.prog 15 #[.slice a6 (k) c6] w6 (Grows w6 (.tuple #[.string (bs (F ++ D)), .int .i64 0])) := by
                have q := format_any (l.take k ++ l.drop (k + 1)) a6 c6 w6 (SLL.out.gr RSch.mono GX6.out) (by rw [List.length_append, List.length_take, List.length_drop]; have := E1.out; omega) LES.out.2 (L.out.gr G6.out)
                rw [show (l.take k ++ l.drop (k + 1)).length = k by rw [List.length_append, List.length_take, List.length_drop]; have := E1.out; omega, LES.out.1, if_pos rfl, RCUT.out] at q
                exact q
              refine Q2.mono ?_
              clear Q2
              rintro e w7 ⟨rfl, hg7⟩
              have G7 := Lib.hid (G6.out.trans hg7)
              have GX7 := Lib.hid (GX6.out.trans hg7)
              clear hg7
              go_wp2_with fail
              have Q3 : Calls Tryz.prog 15 #[.slice (some ⟨g, 0, none⟩) k (k + 1)] w7 (Grows w7 (.tuple #[.string (bs F), .int .i64 0])) := by
                have q := format_any (l.take k) (some ⟨g, 0, none⟩) (k + 1) w7 (sl_take (SLX.out.gr RSch.mono GX7.out)) (by rw [List.length_take]; omega) FRO.out.2 (L.out.gr G7.out)
                rw [show (l.take k).length = k by rw [List.length_take]; omega, FRO.out.1, if_pos rfl, EF.out] at q
                exact q
              refine Q3.mono ?_
              clear Q3
              rintro e w8 ⟨rfl, hg8⟩
              have G8 := Lib.hid (G7.out.trans hg8)
              clear hg8
              have hq1 : ¬ ((F.length : Int) + ((O.length : Int) + (D.length : Int)) < (F.length : Int) + (O.length : Int)) := by omega
              have hq2 : (F.length : Int) ≤ (F.length : Int) + ((O.length : Int) + (D.length : Int)) := by omega
              have hq3 : (F.length : Int) + (O.length : Int) ≤ (F.length : Int) + ((O.length : Int) + (D.length : Int)) := by omega
              have hq4 : (F.length : Int) ≤ (F.length : Int) + (O.length : Int) := by omega
              have hq5 : ((F.length : Int) + (O.length : Int)).toNat = F.length + O.length := by omega
              have hq6 : F.length + (O.length + D.length) - (F.length + O.length) = D.length := by omega
              go_wp2_with fail
              refine (awake09_any _ (L.out.gr G8.out)).mono ?_
              rintro e w9 ⟨rfl, hg9⟩
              have G9 := Lib.hid (G8.out.trans hg9)
              clear hg9
              go_wp2_with fail
              go_ret
              exact ⟨rfl, G9.out⟩
end Go.Proofs.YtadldblpkgackaaGreatDoor
