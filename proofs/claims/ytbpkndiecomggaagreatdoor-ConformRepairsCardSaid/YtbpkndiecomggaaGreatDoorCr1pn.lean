/- Lemmas and contracts for the proof of ConformRepairs (several texts in one, printed by wip/tools/pack.py): VcI UkA VcJ VcK VcL. -/
import Derived.Test.YtbpkndiecomggaaGreatDoorCr1pm
import Derived.Test.YtbpkndiecomggaaGreatDoorCr1ph
import Derived.Test.YtbpkndiecomggaaGreatDoorCr1pk
import Derived.Test.YtbpkndiecomggaaGreatDoorCr1pd
set_option maxRecDepth 100000
set_option maxHeartbeats 16000000
set_option linter.unusedVariables false
set_option linter.unusedSimpArgs false
namespace Go.Proofs.YtbpkndiecomggaaGreatDoor
open Go.RowKit
open Classical
theorem VT_root : VT [⟨-1, [], []⟩] := by
  refine ⟨by simp, by simp, ⟨rfl, rfl⟩, fun i h0 hi => ?_, ⟨fun i h0 hi => ?_, fun i h0 hi => ?_, fun i j h0 hij hj => ?_, fun i hi => ?_⟩, fun i h0 hi => ?_, fun i hi => ?_⟩
  all_goals simp only [List.length_cons, List.length_nil] at *
  · omega
  · omega
  · omega
  · omega
  · obtain rfl : i = 0 := by omega
    exact ⟨0, by omega, .zero⟩
  · omega
  · obtain rfl : i = 0 := by omega
    exact ⟨by simp [nd], fun p hp => by simp [nd] at hp⟩
theorem VB_root : VB [⟨-1, [], []⟩] := ⟨VT_root, fun i p hp => by
  cases i with
  | zero => cases hp
  | succ i => cases hp⟩
def GivesTree (base n b len : Nat) (w : World) (e : Ending) (w' : World) : Prop := ∃ (v : Value) (ms : List NM), e = .returned (.agg #[v]) ∧ TrAt base w' v ms ∧ VB (ms.map NM.n) ∧ ms.length ≤ n + 1 ∧ Mv b len w w'
theorem tree_any (n b len : Nat) (w : World) (ht : Tp w b len) (hn : n ≤ 100) :
    Calls Tryz.prog 35 #[.pointer (some ⟨b, 0, none⟩), .int .i64 n] w (GivesTree w.heap.size n b len w) := by
  have H := Lib.hid ht
  have hb := ht.has
  clear ht
  obtain ⟨P0, hP0⟩ : ∃ P : Ending → World → Prop, P = GivesTree w.heap.size n b len w := ⟨_, rfl⟩
  rw [← hP0]
  have HP0 := Lib.hid hP0
  clear hP0
  go_enter Tryz.func35, Tryz.ntmps35
  go_upto_region 2 with (fail)
  obtain ⟨w1, hw1⟩ : ∃ W : World, W = w.alloc (.cells #[.slice none 0 0] 29) := ⟨_, rfl⟩
  have z1 : w1.heap.size = w.heap.size + 1 := by rw [hw1]; simp
  obtain ⟨w2, hw2⟩ : ∃ W : World, W = w1.alloc (.cells #[.int .i64 (-1), .string (bs []), .slice none 0 0] 86) := ⟨_, rfl⟩
  have z2 : w2.heap.size = w.heap.size + 1 + 1 := by rw [hw2]; simp [z1]
  obtain ⟨W, hW⟩ : ∃ W : World, W = w2.alloc (.cells #[.slice (some ⟨w.heap.size + 1, 0, none⟩) 1 1] 29) := ⟨_, rfl⟩
  have g2 : Gr w2 W := by rw [hW]; exact (Gr.refl _).alloc _
  have g1 : Gr w1 W := by refine Gr.trans ?_ g2; rw [hw2]; exact (Gr.refl _).alloc _
  have GW : Hid (Gr w W) := Lib.hid (by refine Gr.trans ?_ g1; rw [hw1]; exact (Gr.refl _).alloc _)
  have R4 : Hid (Row W w.heap.size 29 [.slice none 0 0]) := Lib.hid (by
    have q : Row w1 w.heap.size 29 [.slice none 0 0] := by rw [hw1]; exact Row.new w _ _
    exact q.gr g1)
  have R5 : Hid (Row W (w.heap.size + 1 + 1) 29 [.slice (some ⟨w.heap.size + 1, 0, none⟩) 1 1]) := Lib.hid (by
    rw [hW, ← z2]; exact Row.new w2 _ _)
  have TR0 : Hid (TrAt w.heap.size W (.slice (some ⟨w.heap.size + 1, 0, none⟩) 1 1) [⟨⟨-1, [], []⟩, none, 0⟩]) := Lib.hid (by
    have q : w2.ownsRow w.heap.size 86 3 (.slice (some ⟨w.heap.size + 1, 0, none⟩) 1 1) 1 [.int .i64 (-1), .string (bs []), .slice none 0 0] := by
      refine ⟨rfl, .inr ⟨w.heap.size + 1, 1, #[.int .i64 (-1), .string (bs []), .slice none 0 0], rfl, by omega, ?_, Nat.le_refl _, by unfold maxLen; omega, rfl, rfl⟩⟩
      rw [hw2, ← z1]
      exact heap_alloc_new w1 _
    refine ⟨Gr.owns q g2, fun m hm => ?_⟩
    rw [List.mem_singleton.1 hm]
    exact ⟨World.ownsRow_nil _ _ _ _, ⟨by simp, by simp, by simp, by simp, fun p hp => by cases hp⟩⟩)
  have eW : (((w.alloc (.cells #[.slice none 0 0] 29)).alloc (.cells #[.int .i64 (-1), .string ⟨#[]⟩, .slice none 0 0] 86)).alloc (.cells #[.slice (some ⟨w.heap.size + 1, 0, none⟩) 1 1] 29)) = W := by rw [hW, hw2, hw1]; rfl
  rw [eW]
  clear eW hW hw1 hw2 z1 z2 g1 g2
  obtain ⟨P4, hP4⟩ : ∃ N : Nat, Hid (w.heap.size = N) := ⟨_, Lib.hid rfl⟩
  have HP4 := Lib.hid hP4.out
  rw [hP4.out] at R4 R5 TR0 HP0 hb ⊢
  clear hP4
  obtain ⟨P5, hP5⟩ : ∃ N : Nat, Hid (P4 + 1 + 1 = N) := ⟨_, Lib.hid rfl⟩
  have HP5 := Lib.hid hP5.out
  rw [hP5.out] at R5 ⊢
  clear hP5
  have M0 := Lib.hid (Mv.of_gr H.out GW.out)
  have T0 := Lib.hid (H.out.gr GW.out)
  have PW : Hid (P4 ≤ W.heap.size) := Lib.hid (by have := GW.out.size; have := HP4.out; omega)
  have hbw : b < w.heap.size := H.out.has
  go_wp2_with fail
  refine (nM_any W b len (n + 1) T0.out (by omega) (by omega)).mono ?_
  rintro e wa ⟨c, rfl, ⟨c0, c1⟩, hma⟩
  have MA := Lib.hid (M0.out.trans hbw hma)
  have RA5 := Lib.hid (hma.row R5.out (by have := HP5.out; omega))
  have RA4 := Lib.hid (hma.row R4.out (by omega))
  have TRA := Lib.hid (TR0.out.mv hb hma)
  clear hma R4 R5 TR0 M0
  go_wp2_with fail
  go_loopw [6] (fun i wr => ∃ (m : Int) (v : Value) (ms : List NM), i = .int .i64 m ∧ 0 ≤ m ∧ m + ms.length ≤ n + 1 ∧ TrAt P4 wr v ms ∧ VB (ms.map NM.n) ∧ Row wr P5 29 [v] ∧ Row wr P4 29 [.slice none 0 0] ∧ Mv b len w wr) (fun i _ => (intOf i).toNat)
  case atStart => exact ⟨c, _, _, rfl, by omega, by simp; omega, TRA.out, VB_root, RA5.out, RA4.out, MA.out⟩
  case round =>
    obtain ⟨m, v, ms, rfl, m0, m1, htr, hvt, hr5, hr4, hm⟩ := hrel
    obtain ⟨va, vc, rfl⟩ := owns_slice htr.own
    have TR := Lib.hid htr
    have VV := Lib.hid hvt
    have S5 := Lib.hid hr5
    have S4 := Lib.hid hr4
    have MV := Lib.hid hm
    have TP := Lib.hid (hm.tp H.out)
    have SZ : Hid (P4 ≤ wr.heap.size) := Lib.hid (by have := hm.size; have := HP4.out; omega)
    clear htr hvt hr5 hr4 hm
    have x0 := S5.out.cell 0 (by simp)
    have xf := S5.out.free 0
    have hx := has_of_cell x0
    by_cases hlt : 0 < m
    · clear x0 xf hx
      have x0 := S5.out.cell 0 (by simp)
      have hx := has_of_cell x0
      go_wp2_with fail
      refine (step_any P4 ms va ms.length vc b len wr TP.out TR.out VV.out ⟨hb, SZ.out⟩).mono ?_
      rintro e w3 ⟨v3, m3, rfl, h3, hv3, hl3, hm3⟩
      obtain ⟨ya, yc, rfl⟩ := owns_slice h3.own
      have T3 := Lib.hid h3
      have V3 := Lib.hid hv3
      have L3 := Lib.hid hl3
      have M3 := Lib.hid (MV.out.trans hbw hm3)
      have Q5 := Lib.hid (hm3.row S5.out (by have := HP5.out; omega))
      have Q4 := Lib.hid (hm3.row S4.out (by omega))
      clear h3 hv3 hl3 hm3 x0 hx
      have z0 := Q5.out.cell 0 (by simp)
      have zf := Q5.out.free 0
      have hz := has_of_cell z0
      go_wp2_with fail
      go_roundw
      case rel =>
        refine ⟨m - 1, _, m3, by go_num, by omega, by have := L3.out; omega, T3.out.box Q5.out.ty (by decide) (T3.out.ne_ty Q5.out.ty (by decide)), V3.out, Q5.out.set 0 _, Q4.out.oth (by have := HP5.out; omega), M3.out.setc (by have := HP5.out; have := HP4.out; omega)⟩
      case measure => simp [intOf]; omega
    · obtain rfl : m = 0 := by omega
      clear x0 xf hx
      go_wp2_with fail
      refine (nM_any wr b len (2 * n + 1) TP.out (by omega) (by omega)).mono ?_
      rintro e wb ⟨d, rfl, ⟨d0, d1⟩, hmb⟩
      have MB := Lib.hid (MV.out.trans hbw hmb)
      have RB5 := Lib.hid (hmb.row S5.out (by have := HP5.out; omega))
      have RB4 := Lib.hid (hmb.row S4.out (by omega))
      have TRB := Lib.hid (TR.out.mv hb hmb)
      clear hmb S5 S4 MV TP TR
      go_wp2_with fail
      go_loopw [7] (fun i wr => ∃ (m : Int) (v : Value) (ms : List NM), i = .int .i64 m ∧ (0 ≤ m ∧ m ≤ 1000) ∧ ms.length ≤ n + 1 ∧ TrAt P4 wr v ms ∧ VB (ms.map NM.n) ∧ Row wr P5 29 [v] ∧ Row wr P4 29 [.slice none 0 0] ∧ Mv b len w wr) (fun i _ => (intOf i).toNat)
      case atStart => exact ⟨d, _, ms, rfl, ⟨by omega, by omega⟩, by omega, TRB.out, VV.out, RB5.out, RB4.out, MB.out⟩
      case round =>
        clear VV TRB RB5 RB4 MB SZ
        clear m1
        obtain ⟨m, v, ms, rfl, ⟨m0, mb⟩, m1, htr, hvt, hr5, hr4, hm⟩ := hrel
        obtain ⟨va, vc, rfl⟩ := owns_slice htr.own
        have TR := Lib.hid htr
        have VV := Lib.hid hvt
        have S5 := Lib.hid hr5
        have S4 := Lib.hid hr4
        have MV := Lib.hid hm
        have TP := Lib.hid (hm.tp H.out)
        have SZ : Hid (P4 ≤ wr.heap.size) := Lib.hid (by have := hm.size; have := HP4.out; omega)
        clear htr hvt hr5 hr4 hm
        by_cases hlt : 0 < m
        · obtain ⟨q, hq⟩ : ∃ q, ms.length = q + 1 := ⟨ms.length - 1, by have := VV.out.v.pos; rw [List.length_map] at this; omega⟩
          have QL := Lib.hid hq
          clear hq
          have P5b : P5 ≠ b := by have := HP5.out; omega
          go_wp2_with fail
          refine wp_code_eq (c := Code.region 9 (regIn 9 Tryz.f35) true) (by kernel_rfl) (til9 (wr := wr) (b := b) (len := len) (PB := P5) (P4 := P4) (n := ms.length) (cap := vc) (base := P4) (m := q) (ad := va) (ms := ms) TP.out S5.out ⟨P5b, hb, TP.out.has, SZ.out, S5.out.has⟩ (by rw [List.length_map]) QL.out VV.out TR.out ?_)
          intro t8 t9 t33 t34 t35 t36 t37 t38 t39 t40 t41 t42 t43 t44 wx ⟨v, er, B, e9, e8, hB, hr, hs⟩ hmx hpb
          subst e9
          subst e8
          have MX := Lib.hid (MV.out.trans hbw hmx)
          have Q5 := Lib.hid hpb
          have Q4 := Lib.hid (hmx.row S4.out (by omega))
          have TX := Lib.hid (TR.out.mv hb hmx)
          have BR := Lib.hid hr
          clear hmx hpb hr
          unfold til9A
          rcases hs with ⟨h1, h2, rfl⟩ | ⟨h1, m2, h2, h3, h4⟩
          · have eb : ((er : Int) == 0) = false := by rw [beq_eq_false_iff_ne]; omega
            clear h1 h2
            go_wp2_with fail
            go_roundw
            case rel => exact ⟨m - 1, _, ms, by go_num, ⟨by omega, by omega⟩, m1, TX.out, VV.out, Q5.out, Q4.out, MX.out⟩
            case measure => simp [intOf]; omega
          · obtain ⟨ya, yc, hv⟩ := owns_slice h2.own
            subst hv
            subst h1
            have T2 := Lib.hid h2
            have V2 := Lib.hid h3
            have L2 := Lib.hid h4
            have x0 := BR.out.cell 0 (by simp)
            have hx := has_of_cell x0
            have z0 := Q5.out.cell 0 (by simp)
            have zf := Q5.out.free 0
            have hz := has_of_cell z0
            clear h2 h3 h4
            go_wp2_with fail
            go_roundw
            case rel => exact ⟨m - 1, _, m2, by go_num, ⟨by omega, by omega⟩, by have := L2.out; have := QL.out; omega, T2.out.box Q5.out.ty (by decide) (T2.out.ne_ty Q5.out.ty (by decide)), V2.out, Q5.out.set 0 _, Q4.out.oth (by have := HP5.out; omega), MX.out.setc (by have := HP5.out; have := HP4.out; omega)⟩
            case measure => simp [intOf]; omega
        · obtain rfl : m = 0 := by omega
          have x0 := S5.out.cell 0 (by simp)
          have hx := has_of_cell x0
          have z0 := S4.out.cell 0 (by simp)
          have zf := S4.out.free 0
          have hz := has_of_cell z0
          go_wp2_with fail
          have RF := Lib.hid (S4.out.set 0 (.slice va ms.length vc))
          have TF := Lib.hid (TR.out.box (o := 0) (u := .slice va ms.length vc) S4.out.ty (by decide) (TR.out.ne_ty S4.out.ty (by decide)))
          have GF : Hid (Mv b len w (wr.setCell ⟨P4, 0, none⟩ (.slice va ms.length vc))) := Lib.hid (MV.out.setc (by have := HP4.out; omega))
          obtain ⟨W3, hW3⟩ : ∃ W : World, Hid (W = wr.setCell ⟨P4, 0, none⟩ (.slice va ms.length vc)) := ⟨_, Lib.hid rfl⟩
          rw [← hW3.out] at RF TF GF ⊢
          have e0 : W3.cell? ⟨P4, 0, none⟩ = some (.slice va ms.length vc) := RF.out.cell 0 (by simp)
          clear hW3 x0 hx z0 zf hz
          refine bodyPost_ret (v := .agg #[.slice va ms.length vc]) (by simp [results, Tryz.results35, e0, go_sem]) rfl ?_
          rw [HP0.out]
          exact ⟨_, ms, rfl, TF.out, VV.out, m1, GF.out⟩
def findC (l : List Sch) (c : St) : Option Nat := l.findIdx? (fun s => s.comp == c)
theorem find1_any (s : Sch) (c : St) (a : Option Addr) (n cap q0 : Nat) (w : World) (hq : w.cell? ⟨q0, 0, none⟩ = some (.string (bs c))) :
    Calls Tryz.prog 114 #[.agg #[.string (bs s.comp), .bool s.closed, .slice a n cap], .pointer (some ⟨q0, 0, none⟩)] w (Grows w (.bool (s.comp == c))) := by
  have hh := has_of_cell hq
  go_enter Tryz.func114, Tryz.ntmps114
  go_wp2_with fail
  go_ret
  exact ⟨rfl, (Gr.refl _).alloc _⟩
theorem idxFind_any (ts : List Sch) (a : Option Addr) (cap : Nat) (c : St) (q0 : Nat) (w : World) (h : SlOf 3 RSch w a ts) (hf : ts.length ≤ 1000000) (hq : w.cell? ⟨q0, 0, none⟩ = some (.string (bs c))) :
    Calls Tryz.prog 103 #[.slice a ts.length cap, .func (.func 114) #[] #[.pointer (some ⟨q0, 0, none⟩)]] w fun e w' => ∃ i : Int, e = .returned (.int .i64 i) ∧ FirstAt (findC ts c) i ∧ Gr w w' := by
  have H := Lib.hid h
  have HQ := Lib.hid hq
  clear h hq
  go_enter Tryz.func103, Tryz.ntmps103
  go_wp2_with fail
  go_loopw [8] (fun i wr => ∃ k : Nat, k ≤ ts.length ∧ i = .int .i64 k ∧ (∀ j (hj : j < k) (hjl : j < ts.length), (ts[j].comp == c) = false) ∧ Gr w wr) (fun i _ => ts.length - (intOf i).toNat)
  case atStart => exact ⟨0, Nat.zero_le _, rfl, fun j h => absurd h (by omega), Gr.refl _⟩
  case round =>
    obtain ⟨k, hk, rfl, hall, hg⟩ := hrel
    have HA := Lib.hid hall
    have HG := Lib.hid hg
    clear hall hg
    by_cases hlt : k < ts.length
    · obtain ⟨b, o, pa, pc, rfl, c0, c1, c2, _⟩ := schs_at (H.out.giC HG.out) k hlt
      obtain ⟨n, hn⟩ : ∃ n, n = ts[k] := ⟨_, rfl⟩
      have HN := Lib.hid hn
      rw [← hn] at c0 c1 c2
      clear hn
      have hh := has_of_cell c0
      have HC := Lib.hid (find1_any n c pa n.rules.length pc q0 wr (cell_gr HG.out HQ.out))
      by_cases hv : (n.comp == c) = true
      · rw [hv] at HC
        have V : Hid (findC ts c = some k) := Lib.hid (by
          unfold findC
          rw [List.findIdx?_eq_some_iff_getElem]
          exact ⟨hlt, by rw [← HN.out]; exact hv, fun j hj => by rw [HA.out j hj (by omega)]; simp⟩)
        clear hv
        go_wp2_with (go_at_call 114; refine HC.out.mono ?_; rintro e w' ⟨rfl, O, d, rfl⟩)
        go_ret
        exact ⟨_, rfl, by rw [V.out]; rfl, HG.out.xt _ _⟩
      · rw [Bool.not_eq_true] at hv
        rw [hv] at HC
        have V := Lib.hid hv
        clear hv
        go_wp2_with (go_at_call 114; refine HC.out.mono ?_; rintro e w' ⟨rfl, O, d, rfl⟩)
        go_roundw
        case rel =>
          refine ⟨k + 1, by omega, by go_num, fun j hj hjl => ?_, HG.out.xt _ _⟩
          by_cases e : j = k
          · subst e; rw [← HN.out]; exact V.out
          · exact HA.out j (by omega) hjl
        case measure => simp [intOf]; omega
    · have V : Hid (findC ts c = none) := Lib.hid (by
        unfold findC
        rw [List.findIdx?_eq_none_iff]
        intro x hx
        obtain ⟨j, hj, rfl⟩ := List.getElem_of_mem hx
        exact HA.out j (by omega) hj)
      go_wp2_with fail
      go_ret
      exact ⟨_, rfl, by rw [V.out]; rfl, HG.out⟩
theorem find_any (ts : List Sch) (a : Option Addr) (cap : Nat) (c : St) (w : World) (h : SlOf 3 RSch w a ts) (hf : ts.length ≤ 1000000) :
    Calls Tryz.prog 92 #[.slice a ts.length cap, .string (bs c)] w (Grows w (.tuple #[.int .i64 (((findC ts c).getD 0 : Nat) : Int), .bool (findC ts c).isSome])) := by
  have H := Lib.hid h
  clear h
  go_enter Tryz.func92, Tryz.ntmps92
  go_wp2_with fail
  refine (idxFind_any ts a cap c _ _ (H.out.giC ((Gr.refl _).alloc _)) hf ((Row.new w #[.string (bs c)] 9).cell 0 (by simp))).mono ?_
  rintro e w1 ⟨i, rfl, hi, hg⟩
  have G1 := Lib.hid (((Gr.refl w).alloc _).trans hg)
  clear hg
  cases hz : findC ts c with
  | none =>
    have HZ := Lib.hid hz
    rw [hz] at hi
    have hi2 : i = -1 := hi
    subst hi2
    clear hi hz
    go_wp2_with fail
    refine bodyPost_ret (v := .tuple #[.int .i64 0, .bool false]) (by simp [results, Tryz.results92, go_sem]; try rfl) rfl ?_
    exact ⟨by rw [HZ.out]; rfl, G1.out⟩
  | some k =>
    have HZ := Lib.hid hz
    rw [hz] at hi
    have hi2 : i = k := hi
    subst hi2
    have hk : k ≤ 1000000 := by
      unfold findC at hz
      rw [List.findIdx?_eq_some_iff_getElem] at hz
      obtain ⟨q, _⟩ := hz
      omega
    clear hi hz
    go_wp2_with fail
    refine bodyPost_ret (v := .tuple #[.int .i64 k, .bool true]) (by simp [results, Tryz.results92, go_sem]) rfl ?_
    exact ⟨by rw [HZ.out]; rfl, G1.out⟩
theorem find_at {l : List Sch} {c : St} {k : Nat} (h : findC l c = some k) : ∃ h : k < l.length, l[k].comp = c := by
  unfold findC at h
  rw [List.findIdx?_eq_some_iff_getElem] at h
  obtain ⟨h, h2, _⟩ := h
  exact ⟨h, by simpa using h2⟩
def GivesFnd (ts : List Sch) (c : St) (w : World) (e : Ending) (w' : World) : Prop :=
  Gr w w' ∧ ((e = .returned (.tuple #[.int .i64 0, .bool false]) ∧ findC ts c = none) ∨ ∃ k : Nat, e = .returned (.tuple #[.int .i64 k, .bool true]) ∧ findC ts c = some k)
theorem rFindS_any (ts : List Sch) (a : Option Addr) (cap : Nat) (c : St) (w : World) (h : SlOf 3 RSch w a ts) (hf : ts.length ≤ 1000000) :
    Calls Tryz.prog 17 #[.slice a ts.length cap, .string (bs c)] w (GivesFnd ts c w) := by
  have H := Lib.hid h
  clear h
  obtain ⟨P0, hP0⟩ : ∃ P : Ending → World → Prop, P = GivesFnd ts c w := ⟨_, rfl⟩
  rw [← hP0]
  have HP0 := Lib.hid hP0
  clear hP0
  go_enter Tryz.func17, Tryz.ntmps17
  go_wp2_with fail
  go_loopw [10] (fun i wr => ∃ k : Nat, k ≤ ts.length ∧ i = .int .i64 k ∧ (∀ j (hj : j < k) (hjl : j < ts.length), (ts[j].comp == c) = false) ∧ Gr w wr) (fun i _ => ts.length - (intOf i).toNat)
  case atStart => exact ⟨0, Nat.zero_le _, rfl, fun j h => absurd h (by omega), Gr.refl _⟩
  case round =>
    obtain ⟨k, hk, rfl, hall, hg⟩ := hrel
    have HA := Lib.hid hall
    have HG := Lib.hid hg
    clear hall hg
    by_cases hlt : k < ts.length
    · obtain ⟨b, o, pa, pc, rfl, c0, c1, c2, _⟩ := schs_at (H.out.giC HG.out) k hlt
      obtain ⟨n, hn⟩ : ∃ n, n = ts[k] := ⟨_, rfl⟩
      have HN := Lib.hid hn
      rw [← hn] at c0 c1 c2
      clear hn
      have hh := has_of_cell c0
      have kk : (k : Int) < ts.length := by omega
      by_cases hv : (n.comp == c) = true
      · have V : Hid (findC ts c = some k) := Lib.hid (by
          unfold findC
          rw [List.findIdx?_eq_some_iff_getElem]
          exact ⟨hlt, by rw [← HN.out]; exact hv, fun j hj => by rw [HA.out j hj (by omega)]; simp⟩)
        go_wp2_with fail
        rw [HP0.out]
        exact ⟨HG.out.alloc _, .inr ⟨k, rfl, V.out⟩⟩
      · rw [Bool.not_eq_true] at hv
        have V := Lib.hid hv
        go_wp2_with fail
        go_roundw
        case rel =>
          refine ⟨k + 1, by omega, by go_num, fun j hj hjl => ?_, HG.out.alloc _⟩
          by_cases e : j = k
          · subst e; rw [← HN.out]; exact V.out
          · exact HA.out j (by omega) hjl
        case measure => simp [intOf]; omega
    · have V : Hid (findC ts c = none) := Lib.hid (by
        unfold findC
        rw [List.findIdx?_eq_none_iff]
        intro x hx
        obtain ⟨j, hj, rfl⟩ := List.getElem_of_mem hx
        exact HA.out j (by omega) hj)
      go_wp2_with fail
      rw [HP0.out]
      exact ⟨HG.out, .inl ⟨rfl, V.out⟩⟩
theorem cProp1_any (n v s : St) (w : World) :
    Calls Tryz.prog 116 #[.agg #[.string (bs n), .string (bs v)], .string (bs s)] w (Grows w (.int .i64 (cmpS n s))) := by
  go_enter Tryz.func116, Tryz.ntmps116
  go_wp2_with (go_at_call 117; refine (cmpS_any _ _ _).mono ?_; rintro e w' ⟨rfl, rfl⟩)
  go_ret
  exact ⟨rfl, (Gr.refl _).alloc _⟩
theorem cBin_any (ps : List Prp) (a : Option Addr) (cap : Nat) (s : St) (w : World) (h : SlOf 2 RPrp w a ps) (hf : ps.length ≤ 1000000) (ha : ascP ps = true) :
    Calls Tryz.prog 115 #[.slice a ps.length cap, .string (bs s), .func (.func 116) #[] #[]] w fun e w' =>
      ∃ i : Nat, e = .returned (.tuple #[.int .i64 i, .bool (decide (∃ h : i < ps.length, ps[i].name = s))]) ∧ Lower ps s i ∧ Gr w w' := by
  have H := Lib.hid h
  have HA := Lib.hid ha
  clear h ha
  go_enter Tryz.func115, Tryz.ntmps115
  go_wp2_with fail
  go_loopw [9, 10] (fun x y wr => ∃ i j : Nat, x = .int .i64 i ∧ y = .int .i64 j ∧ i ≤ j ∧ j ≤ ps.length ∧ (∀ q (h : q < ps.length), q < i → Op.bytesLess ps[q].name s = true) ∧ (∀ q (h : q < ps.length), j ≤ q → Op.bytesLess ps[q].name s = false) ∧ Gr w wr) (fun x y _ => (intOf y - intOf x).toNat)
  case atStart => exact ⟨0, ps.length, rfl, rfl, by omega, by omega, fun q h k => by omega, fun q h k => by omega, Gr.refl _⟩
  case round =>
    obtain ⟨i, j, rfl, rfl, hij, hj, hlo, hhi, hg⟩ := hrel
    have HLO := Lib.hid hlo
    have HHI := Lib.hid hhi
    have HG := Lib.hid hg
    clear hlo hhi hg
    by_cases hlt : i < j
    · have hm1 : i ≤ (i + j) / 2 ∧ (i + j) / 2 < j := by omega
      have hml : (i + j) / 2 < ps.length := by omega
      obtain ⟨b, o, rfl, c0, c1, l0, l1⟩ := prps_at (H.out.gr RPrp.mono HG.out) ((i + j) / 2) hml
      obtain ⟨p, hp⟩ : ∃ p, p = ps[(i + j) / 2] := ⟨_, rfl⟩
      have HP := Lib.hid hp
      rw [← hp] at c0 c1 l0 l1
      clear hp
      have hh := has_of_cell c0
      by_cases hv : Op.bytesLess p.name s = true
      · have hc : decide (cmpS p.name s < 0) = true := by rw [cmpS, if_pos hv]; rfl
        have V := Lib.hid hv
        clear hv
        go_wp2_with (go_at_call 116; refine (cProp1_any _ _ _ _).mono ?_; rintro e w' ⟨rfl, O, d, rfl⟩)
        go_roundw
        case rel =>
          refine ⟨(i + j) / 2 + 1, j, by simp, rfl, by omega, hj, fun q hq hqi => ?_, HHI.out, HG.out.xt _ _⟩
          by_cases e : q = (i + j) / 2
          · subst e; rw [← HP.out]; exact V.out
          · exact lt_trans (asc_lt HA.out (show q < (i + j) / 2 by omega) hml) (by rw [← HP.out]; exact V.out)
        case measure => simp [intOf]; omega
      · have hc : decide (cmpS p.name s < 0) = false := by rw [cmpS, if_neg hv]; split <;> rfl
        rw [Bool.not_eq_true] at hv
        have V := Lib.hid hv
        clear hv
        go_wp2_with (go_at_call 116; refine (cProp1_any _ _ _ _).mono ?_; rintro e w' ⟨rfl, O, d, rfl⟩)
        go_roundw
        case rel =>
          refine ⟨i, (i + j) / 2, rfl, by simp, by omega, by omega, HLO.out, fun q hq hqi => ?_, HG.out.xt _ _⟩
          by_cases e : q = (i + j) / 2
          · subst e; rw [← HP.out]; exact V.out
          · rw [← Bool.not_eq_true]
            intro hx
            have := lt_trans (asc_lt HA.out (show (i + j) / 2 < q by omega) hq) hx
            rw [← HP.out, V.out] at this
            cases this
        case measure => simp [intOf]; omega
    · obtain rfl : i = j := by omega
      have LW : Hid (Lower ps s i) := Lib.hid ⟨hj, HLO.out, HHI.out⟩
      clear hlt
      by_cases hil : i < ps.length
      · obtain ⟨b, o, rfl, c0, c1, l0, l1⟩ := prps_at (H.out.gr RPrp.mono HG.out) i hil
        obtain ⟨p, hp⟩ : ∃ p, p = ps[i] := ⟨_, rfl⟩
        have HP := Lib.hid hp
        rw [← hp] at c0 c1 l0 l1
        clear hp
        have hh := has_of_cell c0
        have D : Hid (decide (∃ h : i < ps.length, ps[i].name = s) = (cmpS p.name s == 0)) := Lib.hid (by
          have h2 := HHI.out i hil (Nat.le_refl _)
          rw [← HP.out] at h2
          rw [cmpS, if_neg (by simp [h2])]
          by_cases e : p.name = s
          · rw [if_pos e, decide_eq_true (by exact ⟨hil, by rw [← HP.out]; exact e⟩)]; rfl
          · rw [if_neg e, decide_eq_false (by rintro ⟨_, q⟩; exact e (by rw [HP.out]; exact q))]; rfl)
        have hd : decide (i < ps.length) = true := by simp [hil]
        go_wp2_with (go_at_call 116; refine (cProp1_any _ _ _ _).mono ?_; rintro e w' ⟨rfl, O, d, rfl⟩)
        refine bodyPost_ret (v := .tuple #[.int .i64 i, .bool (cmpS p.name s == 0)]) (by simp [results, Tryz.results115, go_sem]) rfl ?_
        exact ⟨i, by rw [D.out], LW.out, HG.out.xt _ _⟩
      · have D : Hid (decide (∃ h : i < ps.length, ps[i].name = s) = false) := Lib.hid (decide_eq_false (by rintro ⟨h, _⟩; exact hil h))
        have hd : decide (i < ps.length) = false := by simp [hil]
        clear hil
        go_wp2_with fail
        refine bodyPost_ret (v := .tuple #[.int .i64 i, .bool false]) (by simp [results, Tryz.results115, go_sem]) rfl ?_
        exact ⟨i, by rw [D.out], LW.out, HG.out⟩
def GivesVal (o : Option St) (w : World) (e : Ending) (w' : World) : Prop := Gr w w' ∧ match o with
  | none => e = .returned (.tuple #[.string (bs []), .bool false])
  | some v => e = .returned (.tuple #[.string (bs v), .bool true])
theorem cProperty_any (n : Nod) (a : Option Addr) (cap : Nat) (s : St) (w : World) (h : SlOf 2 RPrp w a n.props) (hf : n.props.length ≤ 1000000) (ha : ascP n.props = true) :
    Calls Tryz.prog 93 #[.agg #[.int .i64 n.parent, .string (bs n.name), .slice a n.props.length cap], .string (bs s)] w (GivesVal (valP n.props s) w) := by
  have H := Lib.hid h
  clear h
  obtain ⟨P0, hP0⟩ : ∃ P : Ending → World → Prop, P = GivesVal (valP n.props s) w := ⟨_, rfl⟩
  rw [← hP0]
  have HP0 := Lib.hid hP0
  clear hP0
  go_enter Tryz.func93, Tryz.ntmps93
  go_upto_region 1 with (fail)
  have R1 := Lib.hid (Row.new w #[.int .i64 n.parent, .string (bs n.name), .slice a n.props.length cap] 86)
  obtain ⟨W, hW⟩ : ∃ W : World, Hid (W = w.alloc (.cells #[.int .i64 n.parent, .string (bs n.name), .slice a n.props.length cap] 86)) := ⟨_, Lib.hid rfl⟩
  have GW : Hid (Gr w W) := Lib.hid (by rw [hW.out]; exact (Gr.refl _).alloc _)
  rw [← hW.out] at R1 ⊢
  obtain ⟨PB, hPB⟩ : ∃ N : Nat, Hid (w.heap.size = N) := ⟨_, Lib.hid rfl⟩
  rw [hPB.out] at R1 ⊢
  clear hW hPB
  have x2 : W.cell? ⟨PB, 2, none⟩ = some (.slice a n.props.length cap) := R1.out.cell 2 (by simp)
  have hx := has_of_cell x2
  go_wp2_with fail
  refine (cBin_any n.props a cap s W (H.out.gr RPrp.mono GW.out) hf ha).mono ?_
  rintro e w1 ⟨i, rfl, hl, hg⟩
  have FD := Lib.hid (hl.find ha)
  have G1 := Lib.hid (GW.out.trans hg)
  have S1 := Lib.hid (R1.out.gr hg)
  clear hl hg x2 hx
  by_cases hq : ∃ h : i < n.props.length, n.props[i].name = s
  · have D : decide (∃ h : i < n.props.length, n.props[i].name = s) = true := decide_eq_true hq
    obtain ⟨hi, he⟩ := hq
    have V : Hid (valP n.props s = some n.props[i].val) := Lib.hid (by rw [FD.out, dif_pos hi, if_pos he])
    obtain ⟨b, o, rfl, c0, c1, _, _⟩ := prps_at (H.out.gr RPrp.mono G1.out) i hi
    obtain ⟨q, hq⟩ : ∃ q, n.props[i] = q := ⟨_, rfl⟩
    rw [hq] at c0 c1 V
    rw [D]
    clear D FD he
    have hh := has_of_cell c0
    have x2 : w1.cell? ⟨PB, 2, none⟩ = some (.slice (some ⟨b, o, none⟩) n.props.length cap) := S1.out.cell 2 (by simp)
    have hx := has_of_cell x2
    have ii : (i : Int) < n.props.length := by omega
    clear hq
    go_wp2_with fail
    rw [HP0.out]
    refine ⟨G1.out, ?_⟩
    rw [V.out]
    rfl
  · have D : decide (∃ h : i < n.props.length, n.props[i].name = s) = false := decide_eq_false hq
    have V : Hid (valP n.props s = none) := Lib.hid (by
      rw [FD.out]
      by_cases hi : i < n.props.length
      · rw [dif_pos hi, if_neg (fun e => hq ⟨hi, e⟩)]
      · rw [dif_neg hi])
    rw [D]
    clear D FD hq
    go_wp2_with fail
    rw [HP0.out]
    refine ⟨G1.out, ?_⟩
    rw [V.out]
    rfl
theorem phandle_in : ([112, 104, 97, 110, 100, 108, 101] : St) ∈ namesV := by
  have q : namesV.contains ([112, 104, 97, 110, 100, 108, 101] : St) = true := by kernel_rfl
  simpa using q
def FinB (wr : World) (PT base n : Nat) (w : World) : Prop :=
  ∃ (w1 : World) (v : Value) (m2 : List NM), w = w1.setCell ⟨PT, 0, none⟩ v ∧ Gr wr w1 ∧ Row w PT 29 [v] ∧ TrAt base w v m2 ∧ VB (m2.map NM.n) ∧ m2.length = n
def brd10F (wr : World) (PT n cap base i : Nat) (s : St) (ad : Option Addr) (ms : List NM) (t50 t51 t52 t53 t54 t55 t56 : Value) (d : Array Bool) (w : World) : Prop :=
  (d.getD 7 false = false → Gr wr w ∧ Row w PT 29 [.slice ad n cap]) ∧ (d.getD 0 false = true → t50 = .agg #[.slice ad n cap]) ∧
  (d.getD 1 false = true → t51 = .string (bs s)) ∧
  (d.getD 2 false = true → t52 = .int .i64 (i : Int)) ∧
  (d.getD 3 false = true → t53 = .int .i64 ((i : Int) + 1)) ∧
  (d.getD 4 false = true → ∃ B, t54 = .slice (some ⟨B, 0, none⟩) 1 1 ∧ (d.getD 7 false = false → Row w B 3 (nums [(i : Int) + 1]))) ∧
  (d.getD 5 false = true → t55 = .string (bs (cellsS [i + 1]))) ∧
  (d.getD 6 false = true → (d.getD 7 false = false → ∃ (v : Value) (m2 : List NM), t56 = .agg #[v] ∧ TrAt base w v m2 ∧ VB (m2.map NM.n) ∧ m2.length = n)) ∧
  (d.getD 7 false = true → ((∀ j, j < 7 → d.getD j false = true) ∧ FinB wr PT base n w))
def brd10A (PT i : Nat) (s : St) (t50 t51 t52 t53 t54 t55 t56 s0 s1 s2 s3 s4 s5 s6 s10 s11 s12 s13 s14 s15 s16 s17 s18 s19 s20 s21 s22 s23 s24 s25 s26 s27 s28 s29 s30 s31 s32 s33 s34 s35 s36 s37 s38 s39 s40 s41 s42 s43 s44 s45 s46 s47 s48 s49 s57 s58 s59 s60 s61 s62 s63 s64 s65 s66 s67 s68 s69 s70 s71 s72 s73 s74 s75 s76 s77 s78 s79 s80 s81 s82 s83 s84 s85 s86 s87 s88 : Value) : Act := { tmps := #[s0, s1, s2, s3, s4, s5, s6, .pointer (some ⟨PT, 0, none⟩), .int .i64 (i : Int), .string (bs s), s10, s11, s12, s13, s14, s15, s16, s17, s18, s19, s20, s21, s22, s23, s24, s25, s26, s27, s28, s29, s30, s31, s32, s33, s34, s35, s36, s37, s38, s39, s40, s41, s42, s43, s44, s45, s46, s47, s48, s49, t50, t51, t52, t53, t54, t55, t56, s57, s58, s59, s60, s61, s62, s63, s64, s65, s66, s67, s68, s69, s70, s71, s72, s73, s74, s75, s76, s77, s78, s79, s80, s81, s82, s83, s84, s85, s86, s87, s88], defers := [] }
theorem brd10 {Q : Exit → Act → World → Prop} {wr : World} {PT n cap base i : Nat} {s : St} {ad : Option Addr} {ms : List NM}  {s0 s1 s2 s3 s4 s5 s6 s10 s11 s12 s13 s14 s15 s16 s17 s18 s19 s20 s21 s22 s23 s24 s25 s26 s27 s28 s29 s30 s31 s32 s33 s34 s35 s36 s37 s38 s39 s40 s41 s42 s43 s44 s45 s46 s47 s48 s49 s50 s51 s52 s53 s54 s55 s56 s57 s58 s59 s60 s61 s62 s63 s64 s65 s66 s67 s68 s69 s70 s71 s72 s73 s74 s75 s76 s77 s78 s79 s80 s81 s82 s83 s84 s85 s86 s87 s88 : Value} (hrow : Row wr PT 29 [.slice ad n cap]) (hb0 : base ≤ wr.heap.size) (hi : i ≤ 999) (hv : VB (ms.map NM.n)) (htr : TrAt base wr (.slice ad n cap) ms)
    (h' : ∀ t50 t51 t52 t53 t54 t55 t56 wx, FinB wr PT base n wx → Q .normal (brd10A PT i s t50 t51 t52 t53 t54 t55 t56 s0 s1 s2 s3 s4 s5 s6 s10 s11 s12 s13 s14 s15 s16 s17 s18 s19 s20 s21 s22 s23 s24 s25 s26 s27 s28 s29 s30 s31 s32 s33 s34 s35 s36 s37 s38 s39 s40 s41 s42 s43 s44 s45 s46 s47 s48 s49 s57 s58 s59 s60 s61 s62 s63 s64 s65 s66 s67 s68 s69 s70 s71 s72 s73 s74 s75 s76 s77 s78 s79 s80 s81 s82 s83 s84 s85 s86 s87 s88) wx) :
    (Code.region 10 (regIn 10 Tryz.f10) true).wp Tryz.prog Q { tmps := #[s0, s1, s2, s3, s4, s5, s6, .pointer (some ⟨PT, 0, none⟩), .int .i64 (i : Int), .string (bs s), s10, s11, s12, s13, s14, s15, s16, s17, s18, s19, s20, s21, s22, s23, s24, s25, s26, s27, s28, s29, s30, s31, s32, s33, s34, s35, s36, s37, s38, s39, s40, s41, s42, s43, s44, s45, s46, s47, s48, s49, s50, s51, s52, s53, s54, s55, s56, s57, s58, s59, s60, s61, s62, s63, s64, s65, s66, s67, s68, s69, s70, s71, s72, s73, s74, s75, s76, s77, s78, s79, s80, s81, s82, s83, s84, s85, s86, s87, s88], defers := [] } wr := by
  have HRW := PLift.up hrow
  have HB0 := PLift.up hb0
  have HI := PLift.up hi
  have HV := PLift.up hv
  have HTR := PLift.up htr
  clear hrow hb0 hi hv htr
  simp only [regIn, Tryz.f10, regOps, Option.bind_some, Option.getD_some, Nat.beq, cond_true, cond_false]
  refine wp_region_steps (fun done a w => ∃ t50 t51 t52 t53 t54 t55 t56, a = brd10A PT i s t50 t51 t52 t53 t54 t55 t56 s0 s1 s2 s3 s4 s5 s6 s10 s11 s12 s13 s14 s15 s16 s17 s18 s19 s20 s21 s22 s23 s24 s25 s26 s27 s28 s29 s30 s31 s32 s33 s34 s35 s36 s37 s38 s39 s40 s41 s42 s43 s44 s45 s46 s47 s48 s49 s57 s58 s59 s60 s61 s62 s63 s64 s65 s66 s67 s68 s69 s70 s71 s72 s73 s74 s75 s76 s77 s78 s79 s80 s81 s82 s83 s84 s85 s86 s87 s88 ∧ brd10F wr PT n cap base i s ad ms t50 t51 t52 t53 t54 t55 t56 done w) (by kernel_rfl) (by kernel_rfl) ?_ ⟨?_, ?_, ?_, ?_, ?_, ?_, ?_, ?_, trivial⟩ ?_
  · exact ⟨s50, s51, s52, s53, s54, s55, s56, rfl, fun _ => ⟨(Gr.refl _).drew, HRW.down.drew⟩, fun q => absurd q (by decide), fun q => absurd q (by decide), fun q => absurd q (by decide), fun q => absurd q (by decide), fun q => absurd q (by decide), fun q => absurd q (by decide), fun q => absurd q (by decide), fun q => absurd q (by decide)⟩
  · rintro done a w hsz hnot hdep ⟨t50, t51, t52, t53, t54, t55, t56, rfl, gw, f0, f1, f2, f3, f4, f5, f6, f7⟩ K hK
    have hn : ¬ done.getD 0 false = true := by rw [getD_both hnot]; decide
    have n7 : done.getD 7 false = false := by
      cases e : done.getD 7 false with
      | false => rfl
      | true => exact absurd ((f7 e).1 0 (by decide)) hn
    replace gw := gw n7
    have c0 : w.cell? ⟨PT, 0, none⟩ = some (.slice ad n cap) := gw.2.cell 0 (by simp)
    have ch := has_of_cell c0
    have HK := PLift.up hK
    clear hK 
    simp only [brd10A]
    go_simp
    have gg : Gr w w := Gr.refl _
    refine HK.down _ _ ⟨_, _, _, _, _, _, _, rfl, fun _ => gw, fun _ => rfl, kp f1, kp f2, kp f3, fun q => (let ⟨B, e, h2⟩ := f4 (done_old q (by decide)); ⟨B, e, fun q2 => (h2 n7).gr gg⟩), kp f5, fun q q2 => (let ⟨v, m2, e, h1, h2⟩ := f6 (done_old q (by decide)) n7; ⟨v, m2, e, h1.gr gg, h2⟩), fun q => absurd ((f7 (done_old q (by decide))).1 0 (by decide)) hn⟩
  · rintro done a w hsz hnot hdep ⟨t50, t51, t52, t53, t54, t55, t56, rfl, gw, f0, f1, f2, f3, f4, f5, f6, f7⟩ K hK
    have hn : ¬ done.getD 1 false = true := by rw [getD_both hnot]; decide
    have n7 : done.getD 7 false = false := by
      cases e : done.getD 7 false with
      | false => rfl
      | true => exact absurd ((f7 e).1 1 (by decide)) hn
    replace gw := gw n7
    have HK := PLift.up hK
    clear hK 
    simp only [brd10A]
    go_simp
    have gg : Gr w w := Gr.refl _
    refine HK.down _ _ ⟨_, _, _, _, _, _, _, rfl, fun _ => gw, kp f0, fun _ => rfl, kp f2, kp f3, fun q => (let ⟨B, e, h2⟩ := f4 (done_old q (by decide)); ⟨B, e, fun q2 => (h2 n7).gr gg⟩), kp f5, fun q q2 => (let ⟨v, m2, e, h1, h2⟩ := f6 (done_old q (by decide)) n7; ⟨v, m2, e, h1.gr gg, h2⟩), fun q => absurd ((f7 (done_old q (by decide))).1 1 (by decide)) hn⟩
  · rintro done a w hsz hnot hdep ⟨t50, t51, t52, t53, t54, t55, t56, rfl, gw, f0, f1, f2, f3, f4, f5, f6, f7⟩ K hK
    have hn : ¬ done.getD 2 false = true := by rw [getD_both hnot]; decide
    have n7 : done.getD 7 false = false := by
      cases e : done.getD 7 false with
      | false => rfl
      | true => exact absurd ((f7 e).1 2 (by decide)) hn
    replace gw := gw n7
    have HK := PLift.up hK
    clear hK 
    simp only [brd10A]
    go_simp
    have gg : Gr w w := Gr.refl _
    refine HK.down _ _ ⟨_, _, _, _, _, _, _, rfl, fun _ => gw, kp f0, kp f1, fun _ => rfl, kp f3, fun q => (let ⟨B, e, h2⟩ := f4 (done_old q (by decide)); ⟨B, e, fun q2 => (h2 n7).gr gg⟩), kp f5, fun q q2 => (let ⟨v, m2, e, h1, h2⟩ := f6 (done_old q (by decide)) n7; ⟨v, m2, e, h1.gr gg, h2⟩), fun q => absurd ((f7 (done_old q (by decide))).1 2 (by decide)) hn⟩
  · rintro done a w hsz hnot hdep ⟨t50, t51, t52, t53, t54, t55, t56, rfl, gw, f0, f1, f2, f3, f4, f5, f6, f7⟩ K hK
    have hn : ¬ done.getD 3 false = true := by rw [getD_both hnot]; decide
    have d2 := hdep 2 (by kernel_rfl)
    obtain rfl := f2 d2
    have n7 : done.getD 7 false = false := by
      cases e : done.getD 7 false with
      | false => rfl
      | true => exact absurd ((f7 e).1 3 (by decide)) hn
    replace gw := gw n7
    have hI := HI.down
    have HK := PLift.up hK
    clear hK d2
    simp only [brd10A]
    go_simp
    try rw [Go.IntWalk.i64_in ((i : Int) + 1) (by omega)]
    have gg : Gr w w := Gr.refl _
    refine HK.down _ _ ⟨_, _, _, _, _, _, _, rfl, fun _ => gw, kp f0, kp f1, kp f2, fun _ => rfl, fun q => (let ⟨B, e, h2⟩ := f4 (done_old q (by decide)); ⟨B, e, fun q2 => (h2 n7).gr gg⟩), kp f5, fun q q2 => (let ⟨v, m2, e, h1, h2⟩ := f6 (done_old q (by decide)) n7; ⟨v, m2, e, h1.gr gg, h2⟩), fun q => absurd ((f7 (done_old q (by decide))).1 3 (by decide)) hn⟩
  · rintro done a w hsz hnot hdep ⟨t50, t51, t52, t53, t54, t55, t56, rfl, gw, f0, f1, f2, f3, f4, f5, f6, f7⟩ K hK
    have hn : ¬ done.getD 4 false = true := by rw [getD_both hnot]; decide
    have d3 := hdep 3 (by kernel_rfl)
    obtain rfl := f3 d3
    have n7 : done.getD 7 false = false := by
      cases e : done.getD 7 false with
      | false => rfl
      | true => exact absurd ((f7 e).1 4 (by decide)) hn
    replace gw := gw n7
    have GW := PLift.up gw
    have HK := PLift.up hK
    clear hK d3
    simp only [brd10A]
    go_simp
    have gg : Gr w (w.alloc (.cells #[.int .i64 ((i : Int) + 1)] 3)) := (Gr.refl _).alloc _
    refine HK.down _ _ ⟨_, _, _, _, _, _, _, rfl, fun _ => ⟨GW.down.1.trans gg, GW.down.2.gr gg⟩, kp f0, kp f1, kp f2, kp f3, ?_, kp f5, fun q q2 => (let ⟨v, m2, e, h1, h2⟩ := f6 (done_old q (by decide)) n7; ⟨v, m2, e, h1.gr gg, h2⟩), fun q => absurd ((f7 (done_old q (by decide))).1 4 (by decide)) hn⟩
    exact fun _ => ⟨_, rfl, fun _ => Row.new w _ _⟩
  · rintro done a w hsz hnot hdep ⟨t50, t51, t52, t53, t54, t55, t56, rfl, gw, f0, f1, f2, f3, f4, f5, f6, f7⟩ K hK
    have hn : ¬ done.getD 5 false = true := by rw [getD_both hnot]; decide
    have d4 := hdep 4 (by kernel_rfl)
    have n7 : done.getD 7 false = false := by
      cases e : done.getD 7 false with
      | false => rfl
      | true => exact absurd ((f7 e).1 5 (by decide)) hn
    replace gw := gw n7
    obtain ⟨B, rfl, h2⟩ := f4 d4
    have HB := PLift.up (h2 n7)
    have GW := PLift.up gw
    have hI := HI.down
    have HK := PLift.up hK
    clear hK 
    simp only [brd10A]
    go_simp
    refine (growCells_any [i + 1] (some ⟨B, 0, none⟩) 1 w (by have q := HB.down.s.slI (vs := [(i : Int) + 1]) (by intro k hk; simp at hk; subst hk; unfold Wide; simp; omega); simpa using q) (by intro z hz; rw [List.mem_singleton.1 hz]; omega) (by simp) (by simp)).mono ?_
    rintro e w2 ⟨rfl, hg⟩
    (try go_simp)
    refine HK.down _ _ ⟨_, _, _, _, _, _, _, rfl, fun _ => ⟨GW.down.1.trans hg, GW.down.2.gr hg⟩, kp f0, kp f1, kp f2, kp f3, fun _ => ⟨B, rfl, fun _ => HB.down.gr hg⟩, ?_, fun q q2 => (let ⟨v, m2, e, h1, h2⟩ := f6 (done_old q (by decide)) n7; ⟨v, m2, e, h1.gr hg, h2⟩), fun q => absurd ((f7 (done_old q (by decide))).1 5 (by decide)) hn⟩
    exact fun _ => rfl
  · rintro done a w hsz hnot hdep ⟨t50, t51, t52, t53, t54, t55, t56, rfl, gw, f0, f1, f2, f3, f4, f5, f6, f7⟩ K hK
    have hn : ¬ done.getD 6 false = true := by rw [getD_both hnot]; decide
    have d0 := hdep 0 (by kernel_rfl)
    have d1 := hdep 1 (by kernel_rfl)
    have d5 := hdep 5 (by kernel_rfl)
    obtain rfl := f0 d0
    obtain rfl := f1 d1
    have n7 : done.getD 7 false = false := by
      cases e : done.getD 7 false with
      | false => rfl
      | true => exact absurd ((f7 e).1 6 (by decide)) hn
    replace gw := gw n7
    have x5 := f5 d5
    subst x5
    have GW := PLift.up gw
    have HK := PLift.up hK
    clear hK d0 d1
    simp only [brd10A]
    go_simp
    refine (with_any base ms ad n cap s [112, 104, 97, 110, 100, 108, 101] (cellsS [i + 1]) w (HTR.down.gr GW.down.1) HV.down (Nat.le_trans HB0.down GW.down.1.size) phandle_in (by rw [cellsS_len]; simp) ⟨by show ([112, 104, 97, 110, 100, 108, 101] : St) ≠ exS; decide, fun _ => ⟨i + 1, by omega, by have := HI.down; omega, List.append_nil _⟩⟩).mono ?_
    rintro e w2 ⟨v, m2, rfl, h1, h2, h3, hg⟩
    (try go_simp)
    refine HK.down _ _ ⟨_, _, _, _, _, _, _, rfl, fun _ => ⟨GW.down.1.trans hg, GW.down.2.gr hg⟩, kp f0, kp f1, kp f2, kp f3, fun q => (let ⟨B, e, h2⟩ := f4 (done_old q (by decide)); ⟨B, e, fun q2 => (h2 n7).gr hg⟩), fun _ => rfl, ?_, fun q => absurd ((f7 (done_old q (by decide))).1 6 (by decide)) hn⟩
    exact fun _ _ => ⟨v, m2, rfl, h1, h2, h3⟩
  · rintro done a w hsz hnot hdep ⟨t50, t51, t52, t53, t54, t55, t56, rfl, gw, f0, f1, f2, f3, f4, f5, f6, f7⟩ K hK
    have hn : ¬ done.getD 7 false = true := by rw [getD_both hnot]; decide
    have d0 := hdep 0 (by kernel_rfl)
    have d1 := hdep 1 (by kernel_rfl)
    have d2 := hdep 2 (by kernel_rfl)
    have d3 := hdep 3 (by kernel_rfl)
    have d4 := hdep 4 (by kernel_rfl)
    have d5 := hdep 5 (by kernel_rfl)
    have d6 := hdep 6 (by kernel_rfl)
    obtain rfl := f0 d0
    obtain rfl := f1 d1
    obtain rfl := f2 d2
    obtain rfl := f3 d3
    have n7 := getD_both hnot
    obtain ⟨v, m2, rfl, h1, h2, h3⟩ := f6 d6 n7
    obtain ⟨ya, yc, rfl⟩ := owns_slice h1.own
    have g1 := gw n7
    have z0 := g1.2.cell 0 (by simp)
    have zf := g1.2.free 0
    have zh := has_of_cell z0
    have FN := PLift.up (show FinB wr PT base n (w.setCell ⟨PT, 0, none⟩ (.slice ya m2.length yc)) from ⟨w, _, m2, rfl, g1.1, g1.2.set 0 _, h1.box g1.2.ty (by decide) (h1.ne_ty g1.2.ty (by decide)), h2, h3⟩)
    have DD := PLift.up (show ∀ j, j < 7 → done.getD j false = true from by intro j hj; match j, hj with | 0, _ => exact d0 | 1, _ => exact d1 | 2, _ => exact d2 | 3, _ => exact d3 | 4, _ => exact d4 | 5, _ => exact d5 | 6, _ => exact d6)
    clear h3
    have HK := PLift.up hK
    clear hK d0 d1 d2 d3
    simp only [brd10A]
    go_simp
    refine HK.down _ _ ⟨_, _, _, _, _, _, _, rfl, fun q => absurd q (by rw [getD_set_same (by rw [hsz]; decide)]; decide), kp f0, kp f1, kp f2, kp f3, fun q => (let ⟨B, e, h2⟩ := f4 (done_old q (by decide)); ⟨B, e, fun q2 => absurd q2 (by rw [getD_set_same (by rw [hsz]; decide)]; decide)⟩), fun _ => rfl, fun q q2 => absurd q2 (by rw [getD_set_same (by rw [hsz]; decide)]; decide), ?_⟩
    exact fun _ => ⟨fun j hj => getD_set_true (DD.down j hj), FN.down⟩
  · rintro done a w hall ⟨t50, t51, t52, t53, t54, t55, t56, rfl, gw, f0, f1, f2, f3, f4, f5, f6, f7⟩
    exact h' _ _ _ _ _ _ _ w (f7 (hall 7 (by decide))).2
end Go.Proofs.YtbpkndiecomggaaGreatDoor
