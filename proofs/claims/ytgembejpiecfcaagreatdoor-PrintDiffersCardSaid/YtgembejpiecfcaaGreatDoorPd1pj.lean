/- Lemmas and contracts for the proof of PrintDiffers (several texts in one, printed by wip/tools/pack.py): VbI VbJ VbK. -/
import Derived.Test.YtgembejpiecfcaaGreatDoorPd1pi
set_option maxRecDepth 100000
set_option maxHeartbeats 16000000
set_option linter.unusedVariables false
set_option linter.unusedSimpArgs false
namespace Go.Proofs.YtgembejpiecfcaaGreatDoor
open Go.RowKit
open Classical
def movF (f : Nat → Nat) (u : Tr) (k : Nat) : Nod := if 0 < k then { nd u k with parent := (f (pq u k) : Int) } else nd u k
structure PermL (n : Nat) (l : List Nat) (f : Nat → Nat) : Prop where
  len : l.length = n
  lt : ∀ y ∈ l, y < n
  all : ∀ y, y < n → y ∈ l
  at' : ∀ i (h : i < l.length), f l[i] = i
theorem PermL.inj {n : Nat} {l : List Nat} {f : Nat → Nat} (h : PermL n l f) {i j : Nat} (hi : i < l.length) (hj : j < l.length) (e : l[i] = l[j]) : i = j := by
  rw [← h.at' i hi, ← h.at' j hj, e]
theorem tr_cells {base : Nat} {w : World} {ms : List NM} {a : Option Addr} {n c : Nat} (h : TrAt base w (.slice a n c) ms) {k : Nat} (hk : k < ms.length) : ∃ g, a = some ⟨g, 0, none⟩ ∧ w.cell? ⟨g, k * 3, none⟩ = some (.int .i64 ms[k].n.parent) ∧ w.cell? ⟨g, k * 3 + 1, none⟩ = some (.string (bs ms[k].n.name)) ∧ w.cell? ⟨g, k * 3 + 2, none⟩ = some (.slice ms[k].a ms[k].n.props.length ms[k].c) := by
  obtain ⟨g, cap, e1, h1, _, hc⟩ := owns_cell (n := ms.length) (by rw [h.sl.1] at h; exact h.own) (by omega)
  cases e1
  have hf := fun j (hj : j < 3) => flat_at NM.enc 3 (fun _ => rfl) ms k j hk hj
  have h2 : ∀ j, j < 3 → w.cell? ⟨g, k * 3 + j, none⟩ = (NM.enc ms[k])[j]? := fun j hj => by rw [hc (k * 3 + j) (by omega)]; exact hf j hj
  exact ⟨g, rfl, h2 0 (by omega), h2 1 (by omega), h2 2 (by omega)⟩
theorem sorted_tr (ms : List NM) (n : Nat) (l : List Nat) (f : Nat → Nat) (base : Nat) (a : Option Addr) (cap : Nat) (w : World) (h : TrAt base w (.slice a n cap) ms) (hb : base ≤ w.heap.size) (hn : n ≤ 1000) (h0 : 0 < n) (hu : ParOk (ms.map NM.n))
    (hW : ∀ f x, (ms.map NM.n).length ≤ f + x → x < (ms.map NM.n).length → (walkF (ms.map NM.n).length (pq (ms.map NM.n)) (nmT (ms.map NM.n)) f x).length ≤ 1000)
    (hl : walkF (ms.map NM.n).length (pq (ms.map NM.n)) (nmT (ms.map NM.n)) n 0 = l) (hp : PermL n l f) :
    Calls Tryz.prog 112 #[.agg #[.slice a n cap]] w fun e w' => ∃ v ms2, e = .returned (.agg #[v]) ∧ TrAt base w' v ms2 ∧ ms2.map NM.n = l.map (movF f (ms.map NM.n)) ∧ Gr w w' := by
  have nl := h.sl.1
  have TR := Lib.hid h
  have PL := Lib.hid hp
  have HU := Lib.hid hu
  have HB := Lib.hid hb
  have MLN := Lib.hid nl
  have hml : (ms.map NM.n).length = n := by rw [List.length_map, nl]
  have WK := Lib.hid (walk_ok (ms.map NM.n) hu hW n 0 (by rw [hml]; omega) (by rw [hml]; exact h0) a cap)
  rw [hl, hml] at WK
  have SL := Lib.hid h.sl.2
  have hmk := run_make_row' (P := Tryz.prog) 22 3 (.int .i64 0) 8 Tryz.underlying22 infoInt rfl .i64 .i64 n (by omega) (by omega)
  obtain ⟨i0, hi, hz0, hz1, hz2⟩ := info_parts infoNod
  clear h hp hu hW hl nl hml hb
  obtain ⟨P0, hP0⟩ : ∃ P : Ending → World → Prop, P = fun e w' => ∃ v ms2, e = .returned (.agg #[v]) ∧ TrAt base w' v ms2 ∧ ms2.map NM.n = l.map (movF f (ms.map NM.n)) ∧ Gr w w' := ⟨_, rfl⟩
  rw [← hP0]
  have HP0 := Lib.hid hP0
  clear hP0
  go_enter Tryz.func112, Tryz.ntmps112
  go_wp2_with fail
  have R1 := Lib.hid ((Row.new w #[.slice a n cap] 25).alloc (.cells #[.slice none 0 0] 25))
  have R2 : Hid (Row ((w.alloc (.cells #[.slice a n cap] 25)).alloc (.cells #[.slice none 0 0] 25)) (w.heap.size + 1) 25 [.slice none 0 0]) := Lib.hid (by
    have q := Row.new (w.alloc (.cells #[.slice a n cap] 25)) #[.slice none 0 0] 25
    have e : (w.alloc (.cells #[.slice a n cap] 25)).heap.size = w.heap.size + 1 := by simp
    rw [e] at q; exact q)
  obtain ⟨W, hW⟩ : ∃ W : World, Hid (W = (w.alloc (.cells #[.slice a n cap] 25)).alloc (.cells #[.slice none 0 0] 25)) := ⟨_, Lib.hid rfl⟩
  have GW : Hid (Gr w W) := Lib.hid (by rw [hW.out]; exact ((Gr.refl _).alloc _).alloc _)
  rw [← hW.out] at R1 R2 ⊢
  obtain ⟨PB, hPB⟩ : ∃ N : Nat, Hid (w.heap.size = N) := ⟨_, Lib.hid rfl⟩
  have HPB := Lib.hid hPB.out
  rw [hPB.out] at R1 R2 ⊢
  clear hW hPB
  obtain ⟨P2, hP2⟩ : ∃ N : Nat, Hid (PB + 1 = N) := ⟨_, Lib.hid rfl⟩
  have HP2 := Lib.hid hP2.out
  rw [hP2.out] at R2 ⊢
  clear hP2
  refine (WK.out W (by have := SL.out.gr RNod.mono GW.out; exact this)).mono ?_
  rintro e w1 ⟨v3, rfl, how, hg1⟩
  obtain ⟨la, lc, rfl⟩ := owns_slice how
  rw [PL.out.len] at how ⊢
  have OW := Lib.hid how
  have G1 := Lib.hid (GW.out.trans hg1)
  have S1 := Lib.hid (R1.out.gr hg1)
  have S2 := Lib.hid (R2.out.gr hg1)
  have x0 := S1.out.cell 0 (by simp)
  have hxb := has_of_cell x0
  clear how hg1 WK R1 R2 GW
  go_wp2_with fail
  clear x0 hxb
  have RA := Lib.hid (Row.new w1 (madeCells #[.int .i64 0] n) 3)
  obtain ⟨W2, hW2⟩ : ∃ W : World, Hid (W = w1.alloc (.cells (madeCells #[.int .i64 0] n) 3)) := ⟨_, Lib.hid rfl⟩
  rw [← hW2.out, made_one, show List.replicate n (Value.int .i64 0) = nums (List.replicate n 0) by simp [nums]] at RA
  have G2 : Hid (Gr w1 W2) := Lib.hid (by rw [hW2.out]; exact (Gr.refl _).alloc _)
  rw [← hW2.out]
  obtain ⟨SB, hSB⟩ : ∃ N : Nat, Hid (w1.heap.size = N) := ⟨_, Lib.hid rfl⟩
  have HSB := Lib.hid hSB.out
  rw [hSB.out] at RA ⊢
  have T1 := Lib.hid (S1.out.gr G2.out)
  have T2 := Lib.hid (S2.out.gr G2.out)
  have OW2 := Lib.hid (Gr.owns OW.out G2.out)
  have ONE : Hid ((Value.slice la n lc).ownBlock ≠ some SB) := Lib.hid (fun e => by have := owns_block OW.out SB e; rw [HSB.out] at this; omega)
  have SBW : Hid (PB < SB ∧ P2 < SB ∧ w.heap.size ≤ SB) := Lib.hid (by
    have h2 : PB < w1.heap.size := S1.out.has
    have h3 : P2 < w1.heap.size := S2.out.has
    have h4 := G1.out.size
    rw [HSB.out] at h2 h3 h4
    exact ⟨h2, h3, h4⟩)
  have GG2 := Lib.hid (G1.out.trans G2.out)
  clear hW2 hSB S1 S2
  go_loopw [19] (fun i wr => ∃ (k : Nat) (vs : List Int), k ≤ n ∧ i = .int .i64 k ∧ vs.length = n ∧ (∀ j (hj : j < l.length), j < k → vs[l[j]]? = some (j : Int)) ∧ Row wr SB 3 (nums vs) ∧ Row wr PB 25 [.slice a n cap] ∧ Row wr P2 25 [.slice none 0 0] ∧ wr.ownsRow W.heap.size 3 1 (.slice la n lc) n (ints l) ∧ Gr w wr) (fun i _ => n - (intOf i).toNat)
  case atStart => exact ⟨0, _, Nat.zero_le _, rfl, by simp, fun j _ h => absurd h (by omega), RA.out, T1.out, T2.out, OW2.out, GG2.out⟩
  case round =>
    obtain ⟨k, vs, hk, rfl, hvl, hvs, hra, h1, h2, hol, hg⟩ := hrel
    have VL := Lib.hid hvl
    have VV := Lib.hid hvs
    have RS := Lib.hid hra
    have U1 := Lib.hid h1
    have U2 := Lib.hid h2
    have OL := Lib.hid hol
    have HG := Lib.hid hg
    clear hvl hvs hra h1 h2 hol hg
    by_cases hlt : k < n
    · have hkl : k < l.length := by rw [PL.out.len]; exact hlt
      obtain ⟨g, cap2, e1, _, _, hc⟩ := owns_cell OL.out (by omega)
      simp only [Value.slice.injEq] at e1
      obtain ⟨e1, -, e9⟩ := e1
      have d0 := hc k (by omega)
      rw [ints_get hkl] at d0
      have YN := Lib.hid (PL.out.lt _ (List.getElem_mem hkl))
      have INJ := Lib.hid (fun j (hj : j < l.length) (hjk : j < k) (e : l[j] = l[k]) => by have := PL.out.inj hj hkl e; omega : ∀ j (hj : j < l.length), j < k → l[j] = l[k] → False)
      obtain ⟨y, hy⟩ : ∃ y, l[k]'hkl = y := ⟨_, rfl⟩
      have HY := Lib.hid hy
      rw [hy] at d0 YN INJ
      have yn := YN.out
      have yn2 : (y : Int) < n := by omega
      have s0 := RS.out.iat y (by rw [VL.out]; exact yn)
      have sf := RS.out.free y
      have hs := has_of_cell s0
      have hd := has_of_cell d0
      have kk : (k : Int) < n := by omega
      subst e1 e9
      clear hy hc
      go_wp2_with fail
      go_roundw
      case rel =>
        have sb := SBW.out
        refine ⟨k + 1, vs.set y (k : Int), by omega, by go_num, by rw [List.length_set]; exact VL.out, fun j hj hjk => ?_, RS.out.iset y _, U1.out.oth (by omega), U2.out.oth (by omega), owns_stc OL.out ONE.out, HG.out.setc sb.2.2⟩
        by_cases e : j = k
        · subst e
          rw [HY.out, List.getElem?_set_self (by rw [VL.out]; exact yn)]
        · rw [List.getElem?_set_ne (fun q => INJ.out j hj (by omega) q.symm)]
          exact VV.out j hj (by omega)
      case measure => simp [intOf]; omega
    · obtain rfl : k = n := by omega
      have OWL : Hid (wr.ownsRow W.heap.size 3 1 (.slice la k lc) k (ints l)) := Lib.hid OL.out
      have ATF : Hid (∀ y, y < k → vs[y]? = some (f y : Int)) := Lib.hid (fun y hy => by
        obtain ⟨j, hj, rfl⟩ := List.getElem_of_mem (PL.out.all y hy)
        rw [VV.out j hj (by rw [← PL.out.len]; exact hj), PL.out.at' j hj])
      have FLT : Hid (∀ y, y < k → f y < k) := Lib.hid (fun y hy => by
        obtain ⟨j, hj, rfl⟩ := List.getElem_of_mem (PL.out.all y hy)
        rw [PL.out.at' j hj, ← PL.out.len]; exact hj)
      go_upto_region 9 with (fail)
      have R7 := Lib.hid (Row.new wr #[.slice none 0 0] 25)
      obtain ⟨W4, hW4⟩ : ∃ W : World, Hid (W = wr.alloc (.cells #[.slice none 0 0] 25)) := ⟨_, Lib.hid rfl⟩
      have G4 : Hid (Gr wr W4) := Lib.hid (by rw [hW4.out]; exact (Gr.refl _).alloc _)
      rw [← hW4.out] at R7 ⊢
      obtain ⟨P7, hP7⟩ : ∃ N : Nat, Hid (wr.heap.size = N) := ⟨_, Lib.hid rfl⟩
      rw [hP7.out] at R7 ⊢
      have HG4 := Lib.hid (HG.out.trans G4.out)
      have H7 : Hid (PB < P7 ∧ P2 < P7 ∧ SB < P7 ∧ w.heap.size ≤ P7) := Lib.hid (by
        have h1 : PB < wr.heap.size := U1.out.has
        have h2 : P2 < wr.heap.size := U2.out.has
        have h3 : SB < wr.heap.size := RS.out.has
        have h4 := HG.out.size
        rw [hP7.out] at h1 h2 h3 h4
        exact ⟨h1, h2, h3, h4⟩)
      have H7L : Hid (∀ g, (Value.slice la k lc).ownBlock = some g → g < P7) := Lib.hid (fun g e => by have := (owns_block OL.out g e).2; rw [hP7.out] at this; exact this)
      clear hW4
      have A1 := Lib.hid (U1.out.gr G4.out)
      have A2 := Lib.hid (U2.out.gr G4.out)
      have AS := Lib.hid (RS.out.gr G4.out)
      have AO := Lib.hid (Gr.owns OL.out G4.out)
      clear hP7 hk hlt
      go_wp2_with fail
      obtain ⟨w5, rfl⟩ : ∃ wo, wo = wr := ⟨_, rfl⟩
      go_loopw [31] (fun i wr => ∃ (j : Nat) (v : Value) (m2 : List NM), j ≤ k ∧ i = .int .i64 j ∧ Row wr P7 25 [v] ∧ TrAt base wr v m2 ∧ m2.map NM.n = (l.take j).map (movF f (ms.map NM.n)) ∧ Row wr PB 25 [.slice a k cap] ∧ Row wr P2 25 [.slice none 0 0] ∧ Row wr SB 3 (nums vs) ∧ wr.ownsRow W.heap.size 3 1 (.slice la k lc) k (ints l) ∧ (∀ g, v.ownBlock = some g → w.heap.size ≤ g) ∧ Gr w wr) (fun i _ => k - (intOf i).toNat)
      case atStart => exact ⟨0, _, [], Nat.zero_le _, rfl, R7.out, TrAt.nil _ _, rfl, A1.out, A2.out, AS.out, AO.out, fun g e => (by cases e), HG4.out⟩
      case round =>
        obtain ⟨j, v, m2, hj, rfl, h7, htr, hmap, h1, h2, hs, hol, hloc, hg⟩ := hrel
        have V7w := Lib.hid h7
        have TRw := Lib.hid htr
        have MP := Lib.hid hmap
        have V1w := Lib.hid h1
        have V2w := Lib.hid h2
        have VSw := Lib.hid hs
        have VOw := Lib.hid hol
        have LOC := Lib.hid hloc
        have HGw := Lib.hid hg
        obtain ⟨xv, xc, hxv⟩ := owns_slice htr.own
        have M2L : Hid (m2.length ≤ k) := Lib.hid (by have := congrArg List.length hmap; rw [List.length_map, List.length_map, List.length_take] at this; omega)
        have x0 := h1.cell 0 (by simp)
        have hxb := has_of_cell x0
        clear h7 htr hmap h1 h2 hs hol hloc hg
        by_cases hjl : j < k
        · have hkl : j < l.length := by rw [PL.out.len]; exact hjl
          obtain ⟨g, cap2, e1, _, _, hc⟩ := owns_cell VOw.out (by omega)
          simp only [Value.slice.injEq] at e1
          obtain ⟨e1, -, e9⟩ := e1
          have d0 := hc j (by omega)
          rw [ints_get hkl] at d0
          have YN := Lib.hid (PL.out.lt _ (List.getElem_mem hkl))
          have LT := Lib.hid (List.take_succ_eq_append_getElem hkl)
          obtain ⟨y, hy⟩ : ∃ y, l[j]'hkl = y := ⟨_, rfl⟩
          rw [hy] at d0 YN LT
          have yn := YN.out
          have yn2 : (y : Int) < k := by omega
          have hym : y < ms.length := by rw [← MLN.out]; exact yn
          obtain ⟨g2, e2, c0, c1, c2⟩ := tr_cells (TR.out.gr HGw.out) hym
          have NDy := Lib.hid ((TR.out.gr HGw.out).nds _ (List.getElem_mem hym))
          have NDg : Hid (nd (ms.map NM.n) y = (ms[y]'hym).n) := Lib.hid (by rw [nd_get (by simpa using hym), List.getElem_map])
          have PAR : Hid (0 < y → (ms[y]'hym).n.parent = (pq (ms.map NM.n) y : Int) ∧ pq (ms.map NM.n) y < y) := Lib.hid (fun h0 => by
            have := HU.out.par y (by simpa using hym) h0
            rw [List.getElem_map] at this
            exact this)
          obtain ⟨m, hm⟩ : ∃ m, ms[y]'hym = m := ⟨_, rfl⟩
          rw [hm] at c0 c1 c2 NDy NDg PAR
          have hd := has_of_cell d0
          have hh := has_of_cell c0
          have jj : (j : Int) < k := by omega
          subst e1 e2 e9
          have BX := Lib.hid (Row.new wr #[.int .i64 m.n.parent, .string (bs m.n.name), .slice m.a m.n.props.length m.c] 57)
          have m2k := M2L.out
          clear hy hc hm
          subst hxv
          by_cases h0 : y = 0
          · have MV : Hid (m.n = movF f (ms.map NM.n) y) := Lib.hid (by unfold movF; rw [if_neg (by omega), NDg.out])
            have y0 : decide (0 < y) = false := by simp; omega
            have y1 : ¬ 0 < (y : Int) := by omega
            have y2 : ¬ 0 < y := by omega
            clear h0
            go_upto_region 15 with (fail)
            obtain ⟨W6, hW6⟩ : ∃ W : World, Hid (W = wr.alloc (.cells #[.int .i64 m.n.parent, .string (bs m.n.name), .slice m.a m.n.props.length m.c] 57)) := ⟨_, Lib.hid rfl⟩
            have G6 : Hid (Gr wr W6) := Lib.hid (by rw [hW6.out]; exact (Gr.refl _).alloc _)
            rw [← hW6.out] at BX ⊢
            obtain ⟨PX, hPX⟩ : ∃ N : Nat, Hid (wr.heap.size = N) := ⟨_, Lib.hid rfl⟩
            rw [hPX.out] at BX ⊢
            have B6 := Lib.hid BX.out
            have T6 := Lib.hid (TRw.out.gr G6.out)
            have V7 := Lib.hid (V7w.out.gr G6.out)
            have V1 := Lib.hid (V1w.out.gr G6.out)
            have V2 := Lib.hid (V2w.out.gr G6.out)
            have VS := Lib.hid (VSw.out.gr G6.out)
            have VO := Lib.hid (Gr.owns VOw.out G6.out)
            have HG6 := Lib.hid (HGw.out.trans G6.out)
            clear hW6 hPX c0 c1 c2 d0 hd hh x0 hxb
            have ND6 : Hid (NdAt base W6 m) := Lib.hid (NDy.out.gr G6.out)
            have b0 : W6.cell? ⟨PX, 0, none⟩ = some (.int .i64 m.n.parent) := B6.out.cell 0 (by simp)
            have b1 : W6.cell? ⟨PX, 1, none⟩ = some (.string (bs m.n.name)) := B6.out.cell 1 (by simp)
            have b2 : W6.cell? ⟨PX, 2, none⟩ = some (.slice m.a m.n.props.length m.c) := B6.out.cell 2 (by simp)
            have hb2 := has_of_cell b0
            have u0 := V7.out.cell 0 (by simp)
            have hu7 := has_of_cell u0
            have OWX := Lib.hid (T6.out.own.alloc (.cells #[.int .i64 m.n.parent, .string (bs m.n.name), .slice m.a m.n.props.length m.c] 57))
            have NR := Lib.hid (row_cells (Row.new W6 #[.int .i64 m.n.parent, .string (bs m.n.name), .slice m.a m.n.props.length m.c] 57))
            have hsz := HG6.out.size
            have hbb := HB.out
            go_wp2_with (at_builtin; refine wpList_append_own_at _ rfl _ _ 23 rfl base 57 i0 (.agg #[.int .i64 0, .string (bs []), .slice none 0 0]) 3 48 Tryz.underlying23 hi hz0 hz1 hz2 rfl (by decide) _ m2.length (m2.flatMap NM.enc) rfl OWX.out ⟨W6.heap.size, 0, none⟩ 1 1 [.int .i64 m.n.parent, .string (bs m.n.name), .slice m.a m.n.props.length m.c] rfl rfl NR.out (NM.enc_one m) (by unfold maxLen; omega) (by omega) (by simp; omega) ?_; intro v' wz hown' hgrow hnil hat; obtain ⟨y5, k5, rfl⟩ := owns_slice hown'; have HOz := Lib.hid hown'; have HGz := Lib.hid hgrow; have HAz := Lib.hid hat; have S3z := Lib.hid ((V7.out.alloc (.cells #[.int .i64 m.n.parent, .string (bs m.n.name), .slice m.a m.n.props.length m.c] 57)).kept hgrow (((V7.out.alloc (.cells #[.int .i64 m.n.parent, .string (bs m.n.name), .slice m.a m.n.props.length m.c] 57)).ty).ne OWX.out (by decide))); have q0 := S3z.out.cell 0 (by simp); have qf := S3z.out.free 0; have hq := has_of_cell q0; clear hown' hgrow hnil hat)
            go_roundw
            case rel =>
              have ga : Gr W6 (W6.alloc (.cells #[.int .i64 m.n.parent, .string (bs m.n.name), .slice m.a m.n.props.length m.c] 57)) := (Gr.refl W6).alloc _
              have TN := (T6.out.gr ga).snoc (m := m) HGz.out HOz.out (ND6.out.gr ga)
              have e7 := H7.out
              refine ⟨j + 1, _, m2 ++ [m], by omega, by go_num, S3z.out.set 0 _, TN.box S3z.out.ty (by decide) (TN.ne_ty S3z.out.ty (by decide)), ?_, ?_, ?_, ?_, ?_, ?_, ?_⟩
              · rw [List.map_append, MP.out, LT.out, List.map_append]
                simp only [List.map_cons, List.map_nil]
                rw [MV.out]
              · exact ((V1.out.gr ga).kept HGz.out ((V1.out.gr ga).ty.ne OWX.out (by decide))).oth (by omega)
              · exact ((V2.out.gr ga).kept HGz.out ((V2.out.gr ga).ty.ne OWX.out (by decide))).oth (by omega)
              · exact ((VS.out.gr ga).kept HGz.out ((VS.out.gr ga).ty.ne OWX.out (by decide))).oth (by omega)
              · exact owns_stc ((Gr.owns VO.out ga).kept HGz.out (owns_ne (Gr.owns VO.out ga) OWX.out (by decide))) (fun e => by have := H7L.out P7 e; omega)
              · intro g hg
                rcases HAz.out with q | q
                · exact LOC.out g (q.symm.trans hg)
                · have h3 := q.symm.trans hg
                  injection h3 with h3
                  have h4 := ga.size
                  omega
              · exact ((HG6.out.trans ga).grown HGz.out (fun i e => LOC.out i e)).setc (by omega)
            case measure => simp [intOf]; omega
          · obtain ⟨p1, p2⟩ := PAR.out (by omega)
            obtain ⟨q, hq⟩ : ∃ q, pq (ms.map NM.n) y = q := ⟨_, rfl⟩
            have MV : Hid (({ m.n with parent := (f q : Int) } : Nod) = movF f (ms.map NM.n) y) := Lib.hid (by unfold movF; rw [if_pos (by omega), NDg.out, hq])
            rw [p1, hq] at c0 BX
            rw [hq] at p2
            have y0 : decide (0 < y) = true := by simp; omega
            have y1 : 0 < (y : Int) := by omega
            have y2 : 0 < y := by omega
            have qk : q < k := by omega
            have qk2 : (q : Int) < k := by omega
            have VLq : q < vs.length := by rw [VL.out]; exact qk
            have VV2 : Hid (vs[q]'VLq = (f q : Int)) := Lib.hid (by have := ATF.out q qk; rw [List.getElem?_eq_getElem VLq] at this; exact Option.some.inj this)
            have s0 := VSw.out.iat q VLq
            rw [VV2.out] at s0
            have hs := has_of_cell s0
            have FQ := Lib.hid (FLT.out q qk)
            clear h0 p1 hq
            clear BX
            have BX := Lib.hid (Row.new wr #[.int .i64 (f q : Int), .string (bs m.n.name), .slice m.a m.n.props.length m.c] 57)
            go_upto_region 15 with (fail)
            obtain ⟨W6, hW6⟩ : ∃ W : World, Hid (W = wr.alloc (.cells #[.int .i64 (f q : Int), .string (bs m.n.name), .slice m.a m.n.props.length m.c] 57)) := ⟨_, Lib.hid rfl⟩
            have G6 : Hid (Gr wr W6) := Lib.hid (by rw [hW6.out]; exact (Gr.refl _).alloc _)
            rw [← hW6.out] at BX ⊢
            obtain ⟨PX, hPX⟩ : ∃ N : Nat, Hid (wr.heap.size = N) := ⟨_, Lib.hid rfl⟩
            rw [hPX.out] at BX ⊢
            have B6 := Lib.hid BX.out
            have T6 := Lib.hid (TRw.out.gr G6.out)
            have V7 := Lib.hid (V7w.out.gr G6.out)
            have V1 := Lib.hid (V1w.out.gr G6.out)
            have V2 := Lib.hid (V2w.out.gr G6.out)
            have VS := Lib.hid (VSw.out.gr G6.out)
            have VO := Lib.hid (Gr.owns VOw.out G6.out)
            have HG6 := Lib.hid (HGw.out.trans G6.out)
            clear hW6 hPX c0 c1 c2 d0 hd hh x0 hxb s0 hs
            have ND6 : Hid (NdAt base W6 (⟨{ m.n with parent := (f q : Int) }, m.a, m.c⟩ : NM)) := Lib.hid (⟨(NDy.out.gr G6.out).own, ⟨by have := FQ.out; simp only; omega, by have := FQ.out; simp only; omega, NDy.out.sm.nam, NDy.out.sm.len, NDy.out.sm.prp⟩⟩)
            have b0 : W6.cell? ⟨PX, 0, none⟩ = some (.int .i64 (f q : Int)) := B6.out.cell 0 (by simp)
            have b1 : W6.cell? ⟨PX, 1, none⟩ = some (.string (bs m.n.name)) := B6.out.cell 1 (by simp)
            have b2 : W6.cell? ⟨PX, 2, none⟩ = some (.slice m.a m.n.props.length m.c) := B6.out.cell 2 (by simp)
            have hb2 := has_of_cell b0
            have u0 := V7.out.cell 0 (by simp)
            have hu7 := has_of_cell u0
            have OWX := Lib.hid (T6.out.own.alloc (.cells #[.int .i64 (f q : Int), .string (bs m.n.name), .slice m.a m.n.props.length m.c] 57))
            have NR := Lib.hid (row_cells (Row.new W6 #[.int .i64 (f q : Int), .string (bs m.n.name), .slice m.a m.n.props.length m.c] 57))
            have hsz := HG6.out.size
            have hbb := HB.out
            go_wp2_with (at_builtin; refine wpList_append_own_at _ rfl _ _ 23 rfl base 57 i0 (.agg #[.int .i64 0, .string (bs []), .slice none 0 0]) 3 48 Tryz.underlying23 hi hz0 hz1 hz2 rfl (by decide) _ m2.length (m2.flatMap NM.enc) rfl OWX.out ⟨W6.heap.size, 0, none⟩ 1 1 [.int .i64 (f q : Int), .string (bs m.n.name), .slice m.a m.n.props.length m.c] rfl rfl NR.out (NM.enc_one (⟨{ m.n with parent := (f q : Int) }, m.a, m.c⟩ : NM)) (by unfold maxLen; omega) (by omega) (by simp; omega) ?_; intro v' wz hown' hgrow hnil hat; obtain ⟨y5, k5, rfl⟩ := owns_slice hown'; have HOz := Lib.hid hown'; have HGz := Lib.hid hgrow; have HAz := Lib.hid hat; have S3z := Lib.hid ((V7.out.alloc (.cells #[.int .i64 (f q : Int), .string (bs m.n.name), .slice m.a m.n.props.length m.c] 57)).kept hgrow (((V7.out.alloc (.cells #[.int .i64 (f q : Int), .string (bs m.n.name), .slice m.a m.n.props.length m.c] 57)).ty).ne OWX.out (by decide))); have q0 := S3z.out.cell 0 (by simp); have qf := S3z.out.free 0; have hq := has_of_cell q0; clear hown' hgrow hnil hat)
            go_roundw
            case rel =>
              have ga : Gr W6 (W6.alloc (.cells #[.int .i64 (f q : Int), .string (bs m.n.name), .slice m.a m.n.props.length m.c] 57)) := (Gr.refl W6).alloc _
              have TN := (T6.out.gr ga).snoc (m := (⟨{ m.n with parent := (f q : Int) }, m.a, m.c⟩ : NM)) HGz.out HOz.out (ND6.out.gr ga)
              have e7 := H7.out
              refine ⟨j + 1, _, m2 ++ [(⟨{ m.n with parent := (f q : Int) }, m.a, m.c⟩ : NM)], by omega, by go_num, S3z.out.set 0 _, TN.box S3z.out.ty (by decide) (TN.ne_ty S3z.out.ty (by decide)), ?_, ?_, ?_, ?_, ?_, ?_, ?_⟩
              · rw [List.map_append, MP.out, LT.out, List.map_append]
                simp only [List.map_cons, List.map_nil]
                rw [MV.out]
              · exact ((V1.out.gr ga).kept HGz.out ((V1.out.gr ga).ty.ne OWX.out (by decide))).oth (by omega)
              · exact ((V2.out.gr ga).kept HGz.out ((V2.out.gr ga).ty.ne OWX.out (by decide))).oth (by omega)
              · exact ((VS.out.gr ga).kept HGz.out ((VS.out.gr ga).ty.ne OWX.out (by decide))).oth (by omega)
              · exact owns_stc ((Gr.owns VO.out ga).kept HGz.out (owns_ne (Gr.owns VO.out ga) OWX.out (by decide))) (fun e => by have := H7L.out P7 e; omega)
              · intro g hg
                rcases HAz.out with q | q
                · exact LOC.out g (q.symm.trans hg)
                · have h3 := q.symm.trans hg
                  injection h3 with h3
                  have h4 := ga.size
                  omega
              · exact ((HG6.out.trans ga).grown HGz.out (fun i e => LOC.out i e)).setc (by omega)
            case measure => simp [intOf]; omega
        · obtain rfl : j = k := by omega
          rw [List.take_of_length_le (by rw [PL.out.len]; exact Nat.le_refl _)] at MP
          have u0 := V7w.out.cell 0 (by simp)
          have hu := has_of_cell u0
          have z0 := V2w.out.cell 0 (by simp)
          have zf := V2w.out.free 0
          have hz := has_of_cell z0
          have e7 := H7.out
          have e2 := HP2.out
          have e3 := HPB.out
          subst hxv
          clear x0 hxb
          go_wp2_with fail
          have RF := Lib.hid (V2w.out.set 0 (.slice xv m2.length xc))
          have TF : Hid (TrAt base (wr.setCell ⟨P2, 0, none⟩ (.slice xv m2.length xc)) (.slice xv m2.length xc) m2) := Lib.hid (TRw.out.box V2w.out.ty (by decide) (TRw.out.ne_ty V2w.out.ty (by decide)))
          have GF : Hid (Gr w (wr.setCell ⟨P2, 0, none⟩ (.slice xv m2.length xc))) := Lib.hid (HGw.out.setc (by omega))
          obtain ⟨W3, hW3⟩ : ∃ W : World, Hid (W = wr.setCell ⟨P2, 0, none⟩ (.slice xv m2.length xc)) := ⟨_, Lib.hid rfl⟩
          rw [← hW3.out] at RF TF GF ⊢
          have e0 : W3.cell? ⟨P2, 0, none⟩ = some (.slice xv m2.length xc) := RF.out.cell 0 (by simp)
          clear hW3 u0 hu z0 zf hz
          refine bodyPost_ret (v := .agg #[.slice xv m2.length xc]) (by simp [results, Tryz.results112, e0, go_sem]) rfl ?_
          rw [HP0.out]
          exact ⟨_, m2, rfl, TF.out, MP.out, GF.out⟩
theorem walkF_congr {n : Nat} {q q' : Nat → Nat} {nm nm' : Nat → St} (hq : ∀ i, i < n → q i = q' i) (hn : ∀ i, i < n → nm i = nm' i) : ∀ f x, walkF n q nm f x = walkF n q' nm' f x := by
  intro f
  induction f with
  | zero => intro x; rfl
  | succ f ih =>
    intro x
    rw [walkF, walkF, chl_congr n hq hn]
    congr 1
    have : ∀ cs : List Nat, cs.flatMap (walkF n q nm f) = cs.flatMap (walkF n q' nm' f) := fun cs => by
      induction cs with
      | nil => rfl
      | cons c cs ih2 => rw [List.flatMap_cons, List.flatMap_cons, ih c, ih2]
    exact this _
theorem pq_new {ts : Tr} {k : Nat} {x : St} {i : Nat} (h : i < ts.length + 1) : pq (newT ts k x) i = qx ts.length k (pq ts) i := by
  unfold qx
  by_cases e : i = ts.length
  · subst e; rw [if_pos rfl]; unfold pq; rw [nd_new_new]; simp
  · rw [if_neg e]; unfold pq; rw [nd_new_old (by omega)]
theorem nm_new {ts : Tr} {k : Nat} {x : St} {i : Nat} (h : i < ts.length + 1) : nmT (newT ts k x) i = nx ts.length x (nmT ts) i := by
  unfold nx
  by_cases e : i = ts.length
  · subst e; rw [if_pos rfl]; unfold nmT; rw [nd_new_new]
  · rw [if_neg e]; unfold nmT; rw [nd_new_old (by omega)]
theorem len_new (ts : Tr) (k : Nat) (x : St) : (newT ts k x).length = ts.length + 1 := by unfold newT; rw [List.length_append]; rfl
theorem walk_newT (ts : Tr) (k : Nat) (x : St) (f y : Nat) : walkF (newT ts k x).length (pq (newT ts k x)) (nmT (newT ts k x)) f y = walkF (ts.length + 1) (qx ts.length k (pq ts)) (nx ts.length x (nmT ts)) f y := by
  rw [len_new]
  exact walkF_congr (fun i h => pq_new h) (fun i h => nm_new h) f y
theorem perm_ordL {n p : Nat} (h : p ≤ n) : PermL (n + 1) (ordL n p) (pim n p) := by
  refine ⟨ordL_len h, fun y hy => ?_, fun y hy => ?_, fun i hi => ?_⟩
  · unfold ordL at hy
    rw [List.mem_append, List.mem_cons, List.mem_range, List.mem_range'_1] at hy
    omega
  · unfold ordL
    rw [List.mem_append, List.mem_cons, List.mem_range, List.mem_range'_1]
    omega
  · have hi2 : i < n + 1 := by rw [ordL_len h] at hi; exact hi
    have e := ordL_get h hi2
    rw [List.getElem?_eq_getElem hi] at e
    rw [Option.some.inj e]
    by_cases h1 : i < p
    · rw [if_pos h1]; unfold pim; rw [if_neg (by omega), sh_lt h1]
    · rw [if_neg h1]
      by_cases h2 : i = p
      · rw [if_pos h2]; unfold pim; rw [if_pos rfl, h2]
      · rw [if_neg h2]; unfold pim; rw [if_neg (by omega), sh_ge (by omega)]; omega
theorem parOk_new {ts : Tr} {k : Nat} {x : St} (h : VT ts) (hk : k < ts.length) : ParOk (newT ts k x) := by
  have few := h.few
  refine ⟨by rw [len_new]; omega, fun i hi h0 => ?_⟩
  rw [len_new] at hi
  rw [← nd_get (by rw [len_new]; exact hi), pq_new hi]
  unfold qx
  by_cases e : i = ts.length
  · subst e; rw [nd_new_new, if_pos rfl]; exact ⟨rfl, hk⟩
  · rw [nd_new_old (by omega), if_neg e]
    exact ⟨h.par h0 (by omega), h.shp.par i h0 (by omega)⟩
theorem walkLen_new {ts : Tr} {k : Nat} {x : St} {p : Nat} (h : VT ts) (hk : k < ts.length) (hx : ∀ i, 0 < i → i < ts.length → pq ts i = k → nmT ts i ≠ x) (hd : ∃ d, d ≤ 7 ∧ Dep (pq ts) k d) (hi : InsAt ts.length (pq ts) (nmT ts) k x p) :
    ∀ f y, (newT ts k x).length ≤ f + y → y < (newT ts k x).length → (walkF (newT ts k x).length (pq (newT ts k x)) (nmT (newT ts k x)) f y).length ≤ 1000 := by
  intro f y h1 h2
  have few := h.few
  rw [walk_newT]
  rw [len_new] at h1 h2
  by_cases e : y = ts.length
  · have hc : chl (qx ts.length k (pq ts)) (nx ts.length x (nmT ts)) y (ts.length + 1) = [] := by
      rw [List.eq_nil_iff_forall_not_mem]
      intro c hc
      rw [mem_chl] at hc
      obtain ⟨c1, c2, c3⟩ := hc
      unfold qx at c3
      split at c3
      · omega
      · have := h.shp.par c (by omega) (by omega); omega
    cases f with
    | zero => simp [walkF]
    | succ f => rw [walkF, hc]; simp
  · have hw := walk_new h.shp h.pos hk hi hx f y (by omega)
    have hl : (walkF (ts.length + 1) (qx ts.length k (pq ts)) (nx ts.length x (nmT ts)) f y).length = (walkF (ts.length + 1) (qn p k (pq ts)) (nn p x (nmT ts)) f (pim ts.length p y)).length := by
      rw [← hw, List.length_map]
    rw [hl]
    have hpy : y ≤ pim ts.length p y ∧ pim ts.length p y ≤ ts.length := by
      unfold pim
      rw [if_neg e]
      have := sh_le p y
      omega
    obtain ⟨e2, he⟩ := end_ex (ts.length + 1) (qn p k (pq ts)) (pim ts.length p y) (by omega)
    rw [walk_range (shp_ins h.shp hk hi hx hd) f _ e2 (by omega) (by omega) he, List.length_range']
    have := he.hi
    omega
theorem walk_ordL {ts : Tr} {k : Nat} {x : St} {p : Nat} (h : VT ts) (hk : k < ts.length) (hx : ∀ i, 0 < i → i < ts.length → pq ts i = k → nmT ts i ≠ x) (hd : ∃ d, d ≤ 7 ∧ Dep (pq ts) k d) (hi : InsAt ts.length (pq ts) (nmT ts) k x p) :
    walkF (newT ts k x).length (pq (newT ts k x)) (nmT (newT ts k x)) (ts.length + 1) 0 = ordL ts.length p := by
  rw [walk_newT]
  exact walk_ins h.shp h.pos hk hi hx hd (Nat.le_refl _)
def GivesTE (w : World) (ts : Tr) (e : Ending) (w' : World) : Prop :=
  Gr w w' ∧ ((∃ er : Nat, 0 < er ∧ er ≤ 8 ∧ e = .returned (.tuple #[.agg #[.slice none 0 0], .int .i64 er])) ∨
    ∃ v ms, e = .returned (.tuple #[.agg #[v], .int .i64 0]) ∧ TrAt w.heap.size w' v ms ∧ VT (ms.map NM.n) ∧ (NoX ts → NoX (ms.map NM.n)) ∧ ms.length = ts.length + 1)
theorem rAdd_ok (ts : Tr) (a : Option Addr) (cap : Nat) (s x : St) (w : World) (h : SlOf 3 RNod w a ts) (hv : VT ts) (hm : x ∈ nodesV) :
    Calls Tryz.prog 74 #[.agg #[.slice a ts.length cap], .string (bs s), .string (bs x)] w (GivesTE w ts) := by
  have H := Lib.hid h
  have HV := Lib.hid hv
  have HM := Lib.hid hm
  have l1 := hv.pos
  have l2 := hv.few
  obtain ⟨i0, hi, hz0, hz1, hz2⟩ := info_parts infoNod
  have NOK := List.all_eq_true.1 nodesV_ok _ hm
  have xlen : x.length ≤ 31 := by simp at NOK; exact NOK.2
  have NM1 : nameOk x = true := by simp at NOK; exact NOK.1
  clear h hv hm NOK
  obtain ⟨P0, hP0⟩ : ∃ P : Ending → World → Prop, P = GivesTE w ts := ⟨_, rfl⟩
  rw [← hP0]
  have HP0 := Lib.hid hP0
  clear hP0
  go_enter Tryz.func74, Tryz.ntmps74
  go_upto_region 1 with (fail)
  have R1 := Lib.hid ((Row.new w #[.slice a ts.length cap] 25).alloc (.cells #[.slice none 0 0] 25))
  have R2 : Hid (Row ((w.alloc (.cells #[.slice a ts.length cap] 25)).alloc (.cells #[.slice none 0 0] 25)) (w.heap.size + 1) 25 [.slice none 0 0]) := Lib.hid (by
    have q := Row.new (w.alloc (.cells #[.slice a ts.length cap] 25)) #[.slice none 0 0] 25
    have e : (w.alloc (.cells #[.slice a ts.length cap] 25)).heap.size = w.heap.size + 1 := by simp
    rw [e] at q; exact q)
  obtain ⟨W, hW⟩ : ∃ W : World, Hid (W = (w.alloc (.cells #[.slice a ts.length cap] 25)).alloc (.cells #[.slice none 0 0] 25)) := ⟨_, Lib.hid rfl⟩
  have GW : Hid (Gr w W) := Lib.hid (by rw [hW.out]; exact ((Gr.refl _).alloc _).alloc _)
  rw [← hW.out] at R1 R2 ⊢
  obtain ⟨PB, hPB⟩ : ∃ N : Nat, Hid (w.heap.size = N) := ⟨_, Lib.hid rfl⟩
  have HPB := Lib.hid hPB.out
  rw [hPB.out] at R1 R2 ⊢
  clear hW hPB
  obtain ⟨P2, hP2⟩ : ∃ N : Nat, Hid (PB + 1 = N) := ⟨_, Lib.hid rfl⟩
  have HP2 := Lib.hid hP2.out
  rw [hP2.out] at R2 ⊢
  clear hP2
  have x0 := R1.out.cell 0 (by simp)
  have hxb := has_of_cell x0
  go_wp2_with fail
  refine (rBegin_ok ts a cap s W (H.out.gr RNod.mono GW.out) HV.out).mono ?_
  rintro e w1 ⟨hg1, hb⟩
  have G1 := Lib.hid (GW.out.trans hg1)
  have S1 := Lib.hid (R1.out.gr hg1)
  have S2 := Lib.hid (R2.out.gr hg1)
  clear hg1 x0 hxb R1 R2 GW
  rcases hb with ⟨rfl, _⟩ | ⟨k, hk, rfl, _⟩
  · have z0 := S2.out.cell 0 (by simp)
    have zf := S2.out.free 0
    have hz := has_of_cell z0
    go_wp2_with fail
    have RF := Lib.hid (S2.out.set 0 (.slice none 0 0))
    have GF : Hid (Gr w (w1.setCell ⟨P2, 0, none⟩ (.slice none 0 0))) := Lib.hid (G1.out.setc (by have := HPB.out; have := HP2.out; omega))
    obtain ⟨W3, hW3⟩ : ∃ W : World, Hid (W = w1.setCell ⟨P2, 0, none⟩ (.slice none 0 0)) := ⟨_, Lib.hid rfl⟩
    rw [← hW3.out] at RF GF ⊢
    have e0 : W3.cell? ⟨P2, 0, none⟩ = some (.slice none 0 0) := RF.out.cell 0 (by simp)
    clear hW3
    refine bodyPost_ret (v := .tuple #[.agg #[.slice none 0 0], .int .i64 4]) (by simp [results, Tryz.results74, e0, go_sem]) rfl ?_
    rw [HP0.out]
    exact ⟨GF.out, .inl ⟨4, by omega, by omega, rfl⟩⟩
  · have x0 := S1.out.cell 0 (by simp)
    have xf := S1.out.free 0
    have hx := has_of_cell x0
    have k0 : (0 : Int) ≤ k := by omega
    go_wp2_with (go_at_call 129; refine (refName_any _ _).mono ?_; rintro e w' ⟨rfl, rfl⟩; rw [NM1])
    clear x0 xf hx
    go_loopw [30] (fun i wr => ∃ j : Nat, j ≤ ts.length ∧ i = .int .i64 j ∧ (∀ m, 0 < m → m < j → pq ts m = k → nmT ts m ≠ x) ∧ Gr w1 wr) (fun i _ => ts.length - (intOf i).toNat)
    case atStart => exact ⟨0, Nat.zero_le _, rfl, fun m _ h => absurd h (by omega), Gr.refl _⟩
    case round =>
      obtain ⟨j, hj, rfl, hno, hg⟩ := hrel
      have NO := Lib.hid hno
      have HG := Lib.hid hg
      clear hno hg
      by_cases hlt : j < ts.length
      · obtain ⟨b, o, pa, pc, rfl, c0, c1, c2, hps, hpf, hw, hnl⟩ := nods_at (H.out.gr RNod.mono (G1.out.trans HG.out)) j hlt
        obtain ⟨n, hn⟩ : ∃ n, ts[j] = n := ⟨_, rfl⟩
        have NDj : Hid (nd ts j = n) := Lib.hid (by rw [nd_get hlt]; exact hn)
        have PJ : Hid (0 < j → n.parent = (pq ts j : Int)) := Lib.hid (fun h0 => by rw [← hn]; exact (HV.out.nod h0 hlt).1)
        rw [hn] at c0 c1 c2 hps hnl
        have hh := has_of_cell c0
        have jj : (j : Int) < ts.length := by omega
        clear hn hps hpf
        rcases (show (n.parent = (k : Int) ∧ n.name = x) ∨ (n.parent = (k : Int) ∧ n.name ≠ x) ∨ n.parent ≠ (k : Int) by
          by_cases hp : n.parent = (k : Int)
          · by_cases hq : n.name = x
            · exact .inl ⟨hp, hq⟩
            · exact .inr (.inl ⟨hp, hq⟩)
          · exact .inr (.inr hp)) with ⟨hp, hq⟩ | ⟨hp, hq⟩ | hp
        · have bq : (n.name == x) = true := by rw [hq]; exact beq_self_eq_true _
          have bp : (n.parent == (k : Int)) = true := by rw [hp]; exact beq_self_eq_true _
          clear hq hp
          have z0 := (S2.out.gr HG.out).cell 0 (by simp)
          have zf := (S2.out.gr HG.out).free 0
          have hz := has_of_cell z0
          go_wp2_with fail
          have RF := Lib.hid (((S2.out.gr HG.out).set 0 (.slice none 0 0)).alloc (.cells #[.int .i64 n.parent, .string (bs n.name), .slice pa n.props.length pc] 57))
          have GF : Hid (Gr w ((wr.setCell ⟨P2, 0, none⟩ (.slice none 0 0)).alloc (.cells #[.int .i64 n.parent, .string (bs n.name), .slice pa n.props.length pc] 57))) := Lib.hid (((G1.out.trans HG.out).setc (by have := HPB.out; have := HP2.out; omega)).alloc (.cells #[.int .i64 n.parent, .string (bs n.name), .slice pa n.props.length pc] 57))
          obtain ⟨W3, hW3⟩ : ∃ W : World, Hid (W = (wr.setCell ⟨P2, 0, none⟩ (.slice none 0 0)).alloc (.cells #[.int .i64 n.parent, .string (bs n.name), .slice pa n.props.length pc] 57)) := ⟨_, Lib.hid rfl⟩
          rw [← hW3.out] at RF GF ⊢
          have e0 : W3.cell? ⟨P2, 0, none⟩ = some (.slice none 0 0) := RF.out.cell 0 (by simp)
          clear hW3
          refine bodyPost_ret (v := .tuple #[.agg #[.slice none 0 0], .int .i64 5]) (by simp [results, Tryz.results74, e0, go_sem]) rfl ?_
          rw [HP0.out]
          exact ⟨GF.out, .inl ⟨5, by omega, by omega, rfl⟩⟩
        · have bq : (n.name == x) = false := by rw [beq_eq_false_iff_ne]; exact hq
          have bp : (n.parent == (k : Int)) = true := by rw [hp]; exact beq_self_eq_true _
          have NX : Hid (nmT ts j ≠ x) := Lib.hid (by unfold nmT; rw [NDj.out]; exact hq)
          clear hp hq
          go_wp2_with fail
          go_roundw
          case rel =>
            refine ⟨j + 1, by omega, by go_num, fun m m0 hmj he => ?_, HG.out.alloc _⟩
            by_cases e : m = j
            · subst e; exact NX.out
            · exact NO.out m m0 (by omega) he
          case measure => simp [intOf]; omega
        · have bp : (n.parent == (k : Int)) = false := by rw [beq_eq_false_iff_ne]; exact hp
          have NE : Hid (0 < j → pq ts j ≠ k) := Lib.hid (fun h0 e => hp (by rw [PJ.out h0, e]))
          clear hp
          go_wp2_with fail
          go_roundw
          case rel =>
            refine ⟨j + 1, by omega, by go_num, fun m m0 hmj he => ?_, HG.out.alloc _⟩
            by_cases e : m = j
            · subst e; exact absurd he (NE.out m0)
            · exact NO.out m m0 (by omega) he
          case measure => simp [intOf]; omega
      · obtain rfl : j = ts.length := by omega
        obtain ⟨d, hd8, hd⟩ := HV.out.shp.dep k hk
        have HD := Lib.hid hd
        have G2 := Lib.hid (G1.out.trans HG.out)
        have U1 := Lib.hid (S1.out.gr HG.out)
        have U2 := Lib.hid (S2.out.gr HG.out)
        have x0 := U1.out.cell 0 (by simp)
        have hx := has_of_cell x0
        clear hd S1 S2 G1
        have NO' : Hid (∀ m, 0 < m → m < ts.length → pq ts m = k → nmT ts m ≠ x) := NO
        obtain ⟨p, hip⟩ := ins_ex ts.length (pq ts) (nmT ts) k x hk
        have IP := Lib.hid hip
        clear hip
        go_wp2_with fail
        refine (level_ok ts a cap k d wr (H.out.gr RNod.mono G2.out) HV.out hk HD.out (by omega)).mono ?_
        rintro e w3 ⟨rfl, hg3⟩
        have G3 := Lib.hid (G2.out.trans hg3)
        have V1 := Lib.hid (U1.out.gr hg3)
        have V2 := Lib.hid (U2.out.gr hg3)
        clear hg3 x0 hx U1 U2 HG G2
        by_cases h8 : d = 8
        · have b8 : decide ((8 : Int) ≤ d) = true := by simp; omega
          have z0 := V2.out.cell 0 (by simp)
          have zf := V2.out.free 0
          have hz := has_of_cell z0
          clear hd8
          go_wp2_with fail
          have RF := Lib.hid (V2.out.set 0 (.slice none 0 0))
          have GF : Hid (Gr w (w3.setCell ⟨P2, 0, none⟩ (.slice none 0 0))) := Lib.hid (G3.out.setc (by have := HPB.out; have := HP2.out; omega))
          obtain ⟨W3, hW3⟩ : ∃ W : World, Hid (W = w3.setCell ⟨P2, 0, none⟩ (.slice none 0 0)) := ⟨_, Lib.hid rfl⟩
          rw [← hW3.out] at RF GF ⊢
          have e0 : W3.cell? ⟨P2, 0, none⟩ = some (.slice none 0 0) := RF.out.cell 0 (by simp)
          clear hW3
          refine bodyPost_ret (v := .tuple #[.agg #[.slice none 0 0], .int .i64 2]) (by simp [results, Tryz.results74, e0, go_sem]) rfl ?_
          rw [HP0.out]
          exact ⟨GF.out, .inl ⟨2, by omega, by omega, rfl⟩⟩
        · have b8 : decide ((8 : Int) ≤ d) = false := by simp; omega
          have d7 : d ≤ 7 := by omega
          clear hd8 h8
          have x0 := V1.out.cell 0 (by simp)
          have hx := has_of_cell x0
          by_cases hn : ts.length = 120
          · have bn : decide ((120 : Int) ≤ (ts.length : Int)) = true := by simp; omega
            have z0 := V2.out.cell 0 (by simp)
            have zf := V2.out.free 0
            have hz := has_of_cell z0
            clear l2
            go_wp2_with fail
            have RF := Lib.hid (V2.out.set 0 (.slice none 0 0))
            have GF : Hid (Gr w (w3.setCell ⟨P2, 0, none⟩ (.slice none 0 0))) := Lib.hid (G3.out.setc (by have := HPB.out; have := HP2.out; omega))
            obtain ⟨W3, hW3⟩ : ∃ W : World, Hid (W = w3.setCell ⟨P2, 0, none⟩ (.slice none 0 0)) := ⟨_, Lib.hid rfl⟩
            rw [← hW3.out] at RF GF ⊢
            have e0 : W3.cell? ⟨P2, 0, none⟩ = some (.slice none 0 0) := RF.out.cell 0 (by simp)
            clear hW3
            refine bodyPost_ret (v := .tuple #[.agg #[.slice none 0 0], .int .i64 3]) (by simp [results, Tryz.results74, e0, go_sem]) rfl ?_
            rw [HP0.out]
            exact ⟨GF.out, .inl ⟨3, by omega, by omega, rfl⟩⟩
          · have bn : decide ((120 : Int) ≤ (ts.length : Int)) = false := by simp; omega
            have l3 : ts.length < 120 := by omega
            clear hn
            have DD : Hid (∃ d, d ≤ 7 ∧ Dep (pq ts) k d) := Lib.hid ⟨d, d7, HD.out⟩
            go_wp2_with fail
            refine (copied_tr ts a cap w3 (H.out.gr RNod.mono G3.out) HV.out.sm (by omega)).mono ?_
            rintro e w4 ⟨v4, ms, rfl, htr, hmp, hg4⟩
            obtain ⟨va, vc, hv⟩ := owns_slice htr.own
            subst hv
            have G4 := Lib.hid (G3.out.trans hg4)
            have BW : Hid (PB ≤ w3.heap.size ∧ P2 < w3.heap.size) := Lib.hid (by have h1 := G3.out.size; rw [HPB.out] at h1; exact ⟨h1, V2.out.has⟩)
            have X2 := Lib.hid (V2.out.gr hg4)
            have TR := Lib.hid (htr.low BW.out.1)
            have MP := Lib.hid hmp
            have W34 := Lib.hid hg4.size
            have ML : Hid (ms.length = ts.length) := Lib.hid (by rw [← hmp, List.length_map])
            clear htr hmp hg4 x0 hx V1 V2
            have mlen : ms.length ≤ 1000 := by have := ML.out; omega
            go_upto_region 17 with (fail)
            have BX := Lib.hid (Row.new w4 #[.slice va ms.length vc] 25)
            have Y2 := Lib.hid (X2.out.alloc (.cells #[.slice va ms.length vc] 25))
            have TA := Lib.hid (TR.out.gr ((Gr.refl w4).alloc (.cells #[.slice va ms.length vc] 25)))
            have GA := Lib.hid (G4.out.alloc (.cells #[.slice va ms.length vc] 25))
            obtain ⟨WA, hWA⟩ : ∃ W : World, Hid (W = w4.alloc (.cells #[.slice va ms.length vc] 25)) := ⟨_, Lib.hid rfl⟩
            rw [← hWA.out] at BX Y2 TA GA ⊢
            obtain ⟨PX, hPX⟩ : ∃ N : Nat, Hid (w4.heap.size = N) := ⟨_, Lib.hid rfl⟩
            have HPX := Lib.hid hPX.out
            rw [hPX.out] at BX ⊢
            have PXB : Hid (PB ≤ PX ∧ P2 < PX) := Lib.hid (by have h1 := BW.out; have h2 := W34.out; rw [HPX.out] at h2; omega)
            clear hWA hPX X2 TR G4
            have b0 : WA.cell? ⟨PX, 0, none⟩ = some (.slice va ms.length vc) := BX.out.cell 0 (by simp)
            have bf := BX.out.free 0
            have hb := has_of_cell b0
            have ga : Hid (Gr WA (WA.alloc (.cells #[.int .i64 k, .string (bs x), .slice none 0 0] 57))) := Lib.hid ((Gr.refl WA).alloc _)
            have OWX := Lib.hid (TA.out.own.alloc (.cells #[.int .i64 k, .string (bs x), .slice none 0 0] 57))
            have NR := Lib.hid (row_cells (Row.new WA #[.int .i64 k, .string (bs x), .slice none 0 0] 57))
            go_wp2_with (at_builtin; refine wpList_append_own _ rfl _ _ 23 rfl PB 57 i0 (.agg #[.int .i64 0, .string (bs []), .slice none 0 0]) 3 48 Tryz.underlying23 hi hz0 hz1 hz2 rfl (by decide) _ ms.length (ms.flatMap NM.enc) rfl OWX.out ⟨WA.heap.size, 0, none⟩ 1 1 [.int .i64 k, .string (bs x), .slice none 0 0] rfl rfl NR.out (NM.enc_one ⟨⟨k, x, []⟩, none, 0⟩) (by unfold maxLen; omega) (by omega) (by have h1 := GA.out.size; have h2 := HPB.out; simp; omega) ?_; intro v' wz hown' hgrow hnil; obtain ⟨y5, k5, rfl⟩ := owns_slice hown'; have HOz := Lib.hid hown'; have HGz := Lib.hid hgrow; have SB := Lib.hid (((BX.out.gr ga.out)).kept hgrow ((BX.out.gr ga.out).ty.ne OWX.out (by decide))); have q0 := SB.out.cell 0 (by simp); have qf := SB.out.free 0; have hq := has_of_cell q0; clear hown' hgrow hnil)
            have NDm : Hid (NdAt PB (WA.alloc (.cells #[.int .i64 k, .string (bs x), .slice none 0 0] 57)) ⟨⟨k, x, []⟩, none, 0⟩) := Lib.hid ⟨World.ownsRow_nil _ _ _ _, ⟨by simp, by simp; omega, by simp; omega, by simp, fun p hp => by cases hp⟩⟩
            have TN := Lib.hid ((TA.out.gr ga.out).snoc (m := ⟨⟨k, x, []⟩, none, 0⟩) HGz.out HOz.out NDm.out)
            have Y3 := Lib.hid ((Y2.out.gr ga.out).kept HGz.out ((Y2.out.gr ga.out).ty.ne OWX.out (by decide)))
            have GZ := Lib.hid ((GA.out.trans ga.out).grown HGz.out (fun j e => by rw [HPB.out]; exact (owns_block OWX.out j e).1))
            have T7 := Lib.hid (TN.out.box (o := 0) (u := .slice y5 (ms.length + 1) k5) SB.out.ty (by decide) (TN.out.ne_ty SB.out.ty (by decide)))
            have Y4 := Lib.hid (Y3.out.oth (b := PX) (v := .slice y5 (ms.length + 1) k5) (o := 0) (by have := PXB.out; omega))
            have G7 : Hid (Gr w (wz.setCell ⟨PX, 0, none⟩ (.slice y5 (ms.length + 1) k5))) := Lib.hid (GZ.out.setc (by have := PXB.out; have := HPB.out; omega))
            obtain ⟨W7, hW7⟩ : ∃ W : World, Hid (W = wz.setCell ⟨PX, 0, none⟩ (.slice y5 (ms.length + 1) k5)) := ⟨_, Lib.hid rfl⟩
            rw [← hW7.out] at T7 Y4 G7 ⊢
            clear hW7 q0 qf hq TN Y3 GZ SB HGz HOz NR OWX ga b0 bf hb BX Y2 TA GA NDm
            have MN : Hid ((ms ++ [(⟨⟨k, x, []⟩, none, 0⟩ : NM)]).map NM.n = newT ts k x) := Lib.hid (by rw [List.map_append, MP.out]; rfl)
            refine (sorted_tr (ms ++ [⟨⟨k, x, []⟩, none, 0⟩]) (ms.length + 1) (ordL ts.length p) (pim ts.length p) PB y5 k5 W7 T7.out (by have h1 := G7.out.size; rw [HPB.out] at h1; exact h1) (by have := ML.out; omega) (by omega) (by rw [MN.out]; exact parOk_new HV.out hk) (by rw [MN.out]; exact walkLen_new HV.out hk NO'.out DD.out IP.out) (by rw [MN.out, ML.out]; exact walk_ordL HV.out hk NO'.out DD.out IP.out) (by rw [ML.out]; exact perm_ordL IP.out.hi)).mono ?_
            rintro e w8 ⟨v8, m8, rfl, ht8, hm8, hg8⟩
            obtain ⟨ya, yc, hv⟩ := owns_slice ht8.own
            subst hv
            have T8 := Lib.hid ht8
            have M8 : Hid (m8.map NM.n = addT ts k x p) := Lib.hid (by rw [hm8, MN.out]; rfl)
            have G8 := Lib.hid (G7.out.trans hg8)
            have Y8 := Lib.hid (Y4.out.gr hg8)
            clear ht8 hm8 hg8 T7 Y4 G7
            have z0 := Y8.out.cell 0 (by simp)
            have zf := Y8.out.free 0
            have hz := has_of_cell z0
            go_wp2_with fail
            have L8 : Hid (m8.length = ts.length + 1) := Lib.hid (by have h1 := congrArg List.length M8.out; unfold addT at h1; rw [List.length_map, List.length_map, ordL_len IP.out.hi] at h1; exact h1)
            have RF := Lib.hid (Y8.out.set 0 (.slice ya m8.length yc))
            have TF := Lib.hid (T8.out.box (o := 0) (u := .slice ya m8.length yc) Y8.out.ty (by decide) (T8.out.ne_ty Y8.out.ty (by decide)))
            have GF : Hid (Gr w (w8.setCell ⟨P2, 0, none⟩ (.slice ya m8.length yc))) := Lib.hid (G8.out.setc (by have := HPB.out; have := HP2.out; omega))
            obtain ⟨W3, hW3⟩ : ∃ W : World, Hid (W = w8.setCell ⟨P2, 0, none⟩ (.slice ya m8.length yc)) := ⟨_, Lib.hid rfl⟩
            rw [← hW3.out] at RF TF GF ⊢
            have e0 : W3.cell? ⟨P2, 0, none⟩ = some (.slice ya m8.length yc) := RF.out.cell 0 (by simp)
            clear hW3 z0 zf hz
            refine bodyPost_ret (v := .tuple #[.agg #[.slice ya m8.length yc], .int .i64 0]) (by simp [results, Tryz.results74, e0, go_sem]) rfl ?_
            rw [HP0.out]
            exact ⟨GF.out, .inr ⟨_, m8, rfl, by rw [HPB.out]; exact TF.out, by rw [M8.out]; exact VT_add HV.out hk l3 HM.out NO'.out DD.out IP.out, fun hx => by rw [M8.out]; exact hx.add, L8.out⟩⟩
end Go.Proofs.YtgembejpiecfcaaGreatDoor
