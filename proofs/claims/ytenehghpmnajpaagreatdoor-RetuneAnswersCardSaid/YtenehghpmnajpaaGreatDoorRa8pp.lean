/- Lemmas and contracts for the proof of RetuneAnswers (several texts in one, printed by wip/tools/pack.py): Kt OsE RnA RkP Kv Kx Ky Kz RvC. -/
import Derived.Test.YtenehghpmnajpaaGreatDoorRa8po
import Derived.Deep.LoopGhost
import Derived.Laws.CopyOwn
import Derived.Laws.OwnMore
import Derived.Test.YtenehghpmnajpaaGreatDoorRa8pm
import Derived.Test.YtenehghpmnajpaaGreatDoorRa8pb
import Derived.Lib.SliceRun
import Derived.Lib.LazyBuf
set_option maxRecDepth 100000
set_option maxHeartbeats 16000000

/-! Contract of law18's calmOnes. -/
set_option linter.unusedVariables false
set_option linter.unusedSimpArgs false
namespace Go.Proofs.YtenehghpmnajpaaGreatDoor
open Go.RowKit
open Classical
def encM (x : Lmt) : List Value := [.int .i64 x.clock, .int .i64 x.low, .int .i64 x.high]
theorem infoLmt : (Tryz.prog.info? 35).map (fun i => (i.zero, i.size, i.bytes)) = some (some (.agg #[.int .i64 0, .int .i64 0, .int .i64 0]), 3, 24) := by kernel_rfl
theorem infoSl : (Tryz.prog.info? 22).map (fun i => (i.zero, i.size, i.bytes)) = some (some (.slice none 0 0), 1, 24) := by kernel_rfl
def LsOk (l : List Clk) (ms : List Lmt) : Prop := ms.length ≤ 32 ∧ ∀ j (h : j < ms.length), LmtOk l ms[j]
theorem lmts_of_owns {w : World} {base : Nat} {v : Value} {ms : List Lmt} {l : List Clk} (h : w.ownsRow base 35 3 v ms.length (ms.flatMap encM)) (hl : l.length ≤ 16) (hm : LsOk l ms) : ∃ a c, v = .slice a ms.length c ∧ SlOf 3 RLmt w a ms := by
  rcases Nat.eq_zero_or_pos ms.length with e | e
  · have : ms = [] := List.eq_nil_of_length_eq_zero e
    subst this
    obtain ⟨a, c, e⟩ := owns_slice h
    exact ⟨a, c, e, SlOf.nil _ _ _ _⟩
  · obtain ⟨g, cap, e1, h1, _, hc⟩ := owns_cell h e
    refine ⟨_, cap, e1, fun k hk => ⟨g, 0, rfl, ?_⟩⟩
    have hf := fun j (hj : j < 3) => flat_at encM 3 (fun _ => rfl) ms k j hk hj
    have h2 : ∀ j, j < 3 → w.cell? ⟨g, k * 3 + j, none⟩ = (encM ms[k])[j]? := fun j hj => by
      rw [hc (k * 3 + j) (by omega), hf j hj]
    obtain ⟨q0, q1, q2, q3, q4⟩ := hm.2 k hk
    rw [Nat.zero_add]
    exact ⟨⟨h2 0 (by omega), by unfold Wide; omega⟩, ⟨h2 1 (by omega), by unfold Wide; omega⟩, ⟨h2 2 (by omega), by unfold Wide; omega⟩⟩
def MakesCalm (b len most : Nat) (w : World) (e : Ending) (w' : World) : Prop :=
  ∃ (ts : List CT) (ms : List Lmt) (f t : List Int) (g c : Nat) (vm : Value) (af at' : Option Addr) (cf ct : Nat) (ok : Bool),
    e = .returned (.tuple #[.slice (some ⟨g, 0, none⟩) ts.length c, vm, .slice af ts.length cf, .slice at' ts.length ct, .bool ok]) ∧
    w'.ownsRow w.heap.size 79 5 (.slice (some ⟨g, 0, none⟩) ts.length c) ts.length (ts.flatMap encC) ∧ ChRows w.heap.size w' ts ∧ cchk (clks ts) = 0 ∧ 1 ≤ ts.length ∧ ts.length ≤ 8 ∧
    w'.ownsRow w.heap.size 35 3 vm ms.length (ms.flatMap encM) ∧ LsOk (clks ts) ms ∧
    Own1 w.heap.size w' 3 (nums f) af ∧ SetOk (clks ts) f ∧ Own1 w.heap.size w' 3 (nums t) at' ∧ SetOk (clks ts) t ∧
    (ok = true → calS (clks ts) ms f = true ∧ calS (clks ts) ms t = true) ∧ Mv b len w w'
structure CO (b len : Nat) (w : World) (ts : List CT) (g c : Nat) (f : List Int) (af : Option Addr) (R : List Rt) (v1 v2 : Value) (wr : World) : Prop where
  own : wr.ownsRow w.heap.size 79 5 (.slice (some ⟨g, 0, none⟩) ts.length c) ts.length (ts.flatMap encC)
  rows : ChRows w.heap.size wr ts
  f : Own1 w.heap.size wr 3 (nums f) af
  r1 : wr.ownsRow w.heap.size 93 2 v1 ts.length (encP (R.map prR))
  r2 : wr.ownsRow w.heap.size 4 1 v2 ts.length (bools (onL R))
  mv : Mv b len w wr
section
variable {b len : Nat} {w : World} {ts : List CT} {g c : Nat} {f : List Int} {af : Option Addr} {R : List Rt} {v1 v2 : Value} {wr w' : World}
theorem CO.mvd (h : CO b len w ts g c f af R v1 v2 wr) (hb : b < w.heap.size) (m : Mv b len wr w') : CO b len w ts g c f af R v1 v2 w' :=
  ⟨m.owns h.own hb, fun t ht => (h.rows t ht).mv m hb, m.own1 h.f hb, m.owns h.r1 hb, m.owns h.r2 hb, h.mv.trans hb m⟩
theorem CO.gr (h : CO b len w ts g c f af R v1 v2 wr) (hg : Gr wr w') : CO b len w ts g c f af R v1 v2 w' :=
  ⟨Gr.owns h.own hg, fun t ht => (h.rows t ht).gr hg, h.f.gr hg, Gr.owns h.r1 hg, Gr.owns h.r2 hg, h.mv.gr hg⟩
theorem CO.app (h : CO b len w ts g c f af R v1 v2 wr) {e size n : Nat} {v : Value} {xs : List Value} (o : wr.ownsRow w.heap.size e size v n xs) (e1 : e ≠ 79) (e2 : e ≠ 3) (e3 : e ≠ 93) (e4 : e ≠ 4) (hg : wr.grownBy w' v.ownBlock) : CO b len w ts g c f af R v1 v2 w' where
  own := h.own.kept hg (owns_two o h.own e1)
  rows := fun t ht => (h.rows t ht).grown hg (fun B vs hB => owns_apart o hB (Ne.symm e2))
  f := h.f.grown hg (fun B hB => owns_apart o hB (Ne.symm e2))
  r1 := h.r1.kept hg (owns_two o h.r1 e3)
  r2 := h.r2.kept hg (owns_two o h.r2 e4)
  mv := h.mv.grown hg (fun k e => (o.lt k e).1)
end
structure OT where
  t : List Int
  B : Nat
  c : Nat
def encO (L : Nat) (o : OT) : Value := .slice (some ⟨o.B, 0, none⟩) L o.c
def OsOk (base : Nat) (w : World) (l : List Clk) (ms : List Lmt) (os : List OT) : Prop := ∀ o ∈ os, RowS w o.B 3 (nums o.t) ∧ base ≤ o.B ∧ SetOk l o.t ∧ calS l ms o.t = true
theorem OsOk.gr {base : Nat} {w w' : World} {l : List Clk} {ms : List Lmt} {os : List OT} (h : OsOk base w l ms os) (hg : Gr w w') : OsOk base w' l ms os := fun o ho => ⟨(h o ho).1.gr hg, (h o ho).2⟩
theorem OsOk.mv {base b len : Nat} {w w' : World} {l : List Clk} {ms : List Lmt} {os : List OT} (h : OsOk base w l ms os) (hb : b < base) (m : Mv b len w w') : OsOk base w' l ms os := fun o ho => ⟨m.rowS (h o ho).1 (by have := (h o ho).2.1; omega), (h o ho).2⟩
theorem floor_ge (n d : Int) (h0 : 0 ≤ n) (h1 : 1 ≤ d) : 0 ≤ floorI n d := by
  unfold floorI; split
  · exact Int.ediv_nonneg h0 (by omega)
  · omega
theorem floor_le (n d : Int) (h0 : 0 ≤ n) (h1 : 1 ≤ d) (h2 : n ≤ 144115188075855872) : floorI n d ≤ 144115188075855872 := by
  unfold floorI; split
  · have := (ediv_bounds n d h0 h1).2; omega
  · omega
theorem calmOnes_any (w : World) (b len most : Nat) (ht : Tp w b len) (hm : 1 ≤ most) (hm1 : most ≤ 4096) :
    Calls Tryz.prog 28 #[.pointer (some ⟨b, 0, none⟩), .int .i64 most] w (MakesCalm b len most w) := by
  have TT := Lib.hid ht
  have HB := Lib.hid ht.has
  obtain ⟨j0, hj, hy0, hy1, hy2⟩ := info_parts infoLmt
  obtain ⟨k0, hk, hx0, hx1, hx2⟩ := info_parts infoSl
  clear ht
  go_enter Tryz.func28, Tryz.ntmps28
  go_wp2_with fail
  refine (clocks_any w b len 8 most TT.out (by omega) (by omega) (by omega) (by omega)).mono ?_
  rintro e w2 ⟨ts, v, rfl, ho, hr, hck, hge, hle, hpr, hm2⟩
  obtain ⟨g, c, rfl, hnc, hbg, _⟩ := owns_cell ho (by omega)
  have O2 := Lib.hid ho
  have R2 := Lib.hid hr
  have CK := Lib.hid hck
  have M2 := Lib.hid hm2
  have T2 := Lib.hid (hm2.tp TT.out)
  have HC1 := Lib.hid (allOk_cho (cchk_zero hck).2.1)
  have SA := setting_any w2 b len w.heap.size c (some ⟨g, 0, none⟩) ts T2.out HB.out ho hr (by omega) HC1.out
  have SA' := Lib.hid SA
  clear ho hr hck hpr hm2 hbg hnc SA
  go_wp2_with fail
  refine SA'.out.mono ?_
  rintro e w3 ⟨f, vf, rfl, hof, hsf, hm3⟩
  have O3 := Lib.hid (hm3.owns O2.out HB.out)
  have R3 : Hid (ChRows w.heap.size w3 ts) := Lib.hid (fun t ht => (R2.out t ht).mv hm3 HB.out)
  have M3 := Lib.hid (M2.out.trans HB.out hm3)
  have T3 := Lib.hid (hm3.tp T2.out)
  have F3 := Lib.hid (owns_low hof M2.out.size)
  have SF := Lib.hid hsf
  obtain ⟨af, cf, rfl, sf3⟩ := owns_slI F3.out (setOk_wide CK.out hsf)
  obtain ⟨a', c', ea, hac, of3⟩ := owns_own1 F3.out
  cases ea
  have OF3 := Lib.hid of3
  have hcl : (clks ts).length = ts.length := clks_len ts
  obtain ⟨_, _, eq3, _, sl3⟩ := clks_at O3.out R3.out (by omega)
  cases eq3
  have STS := states_any (clks ts) f (some ⟨g, 0, none⟩) af c cf w3 sl3 sf3 CK.out hsf
  rw [hsf.1, hcl] at STS
  have STS' := Lib.hid STS
  have RG := Lib.hid (rts_good CK.out hsf)
  have HRL : Hid ((rts (clks ts) f).length = ts.length) := Lib.hid (by rw [rts_len _ _ hsf.1.symm, hcl])
  have HCL := Lib.hid hcl
  clear hof hsf hm3 SA' STS sl3 sf3 of3 hac O2 R2 M2 T2 F3
  rw [hcl]
  clear hcl
  go_wp2_with fail
  refine STS'.out.mono ?_
  rintro e w4 ⟨v1, v2, rfl, ho1, ho2, hg4⟩
  rw [HCL.out] at ho1 ho2
  obtain ⟨a1, c1, rfl⟩ := owns_slice ho1
  obtain ⟨a2, c2, rfl⟩ := owns_slice ho2
  obtain ⟨R, eR⟩ : ∃ R, rts (clks ts) f = R := ⟨_, rfl⟩
  rw [eR] at ho1 ho2 RG HRL
  have C4 : Hid (CO b len w ts g c f af R (.slice a1 ts.length c1) (.slice a2 ts.length c2) w4) := Lib.hid
    ⟨Gr.owns O3.out hg4, fun t ht => (R3.out t ht).gr hg4, OF3.out.gr hg4, owns_low ho1 M3.out.size, owns_low ho2 M3.out.size, M3.out.gr hg4⟩
  clear ho1 ho2 hg4 eR STS' O3 R3 OF3 M3 T3
  go_wp2_with fail
  refine (nM_any w4 b len 3 (C4.out.mv.tp TT.out) (by omega) (by omega)).mono ?_
  rintro e w5 ⟨m0, rfl, ⟨m00, m01⟩, hm5⟩
  obtain ⟨m0, rfl⟩ := Int.eq_ofNat_of_zero_le m00
  have C5 := Lib.hid (C4.out.mvd HB.out hm5)
  clear hm5 C4
  go_wp2_with fail
  go_loopw [13, 14] (fun s13 s14 wr => ∃ (ms : List Lmt) (n : Nat) (am : Option Addr) (cm : Nat), s13 = .slice am ms.length cm ∧ s14 = .int .i64 (n : Int) ∧ ms.length + n ≤ 2 ∧ wr.ownsRow w.heap.size 35 3 (.slice am ms.length cm) ms.length (ms.flatMap encM) ∧ (∀ j (h : j < ms.length), LmtOk (clks ts) ms[j]) ∧ CO b len w ts g c f af R (.slice a1 ts.length c1) (.slice a2 ts.length c2) wr) (fun _ s14 _ => (intOf s14).toNat)
  case atStart => exact ⟨[], m0, none, 0, rfl, rfl, by simp; omega, World.ownsRow_nil _ _ _ _, fun j h => by simp at h, C5.out⟩
  case round =>
    clear C5 m01 m00
    obtain ⟨ms, n, am, cm, rfl, rfl, hmn, hom, hlm, hco⟩ := hrel
    have OM := Lib.hid hom
    have LM := Lib.hid hlm
    have CO1 := Lib.hid hco
    clear hom hlm hco
    have hmk := run_make_row' (P := Tryz.prog) 22 3 (.int .i64 0) 8 Tryz.underlying22 infoInt rfl .i64 .i64 ts.length (by omega) (by omega)
    cases n with
    | zero =>
      go_wp2_with fail
      have LS : Hid (LsOk (clks ts) ms) := Lib.hid ⟨by omega, LM.out⟩
      obtain ⟨L, hL⟩ : ∃ L, ts.length = L := ⟨_, rfl⟩
      obtain ⟨W5, hW5⟩ : ∃ W5 : World, Hid (W5 = wr.alloc (.cells (madeCells #[.int .i64 0] ts.length) 3)) := ⟨_, Lib.hid rfl⟩
      rw [← hW5.out]
      obtain ⟨X0, hX0⟩ : ∃ X0 : Nat, Hid (wr.heap.size = X0) := ⟨_, Lib.hid rfl⟩
      rw [hX0.out]
      have RX : Hid (RowS W5 X0 3 (nums (List.replicate ts.length 0))) := Lib.hid (by
        rw [hW5.out]
        have := row_new' wr (madeCells #[.int .i64 0] ts.length) 3 X0 hX0.out.symm
        rw [made_zero] at this
        have e : nums (List.replicate ts.length 0) = List.replicate ts.length (.int .i64 0) := by simp [nums]
        rw [e]; exact this.s)
      have g5 : Gr wr W5 := by rw [hW5.out]; exact (Gr.refl _).alloc _
      have C5 := Lib.hid (CO1.out.gr g5)
      have OM5 := Lib.hid (Gr.owns OM.out g5)
      have x0 : Hid (w.heap.size ≤ X0) := Lib.hid (by have := CO1.out.mv.size; have := hX0.out; omega)
      have Z : Hid (SetOk (clks ts) (List.replicate ts.length 0) ∧ num (clks ts) (List.replicate ts.length 0) = 0) := Lib.hid (by
        have hz : ∀ i, sOf (List.replicate ts.length 0) i = 0 := fun i => by
          unfold sOf
          rw [List.getD_eq_getElem?_getD, List.getElem?_replicate]; split <;> rfl
        refine ⟨setOk_of (by rw [List.length_replicate, HCL.out]) (fun i hi => ?_), ?_⟩
        · rw [hz, kOf_at hi]
          have := HC1.out _ (List.getElem_mem hi); omega
        · have : ∀ j, numU (kOf (clks ts)) (sOf (List.replicate ts.length 0)) j = 0 := by
            intro j
            induction j with
            | zero => rfl
            | succ j ih => simp only [numU]; rw [ih, hz]; simp
          exact this _)
      have PC : Hid (prodC (clks ts) ≤ 4096 ∧ 1 ≤ prodC (clks ts)) := Lib.hid ⟨(cchk_zero CK.out).2.2.1, prodC_pos HC1.out⟩
      clear hW5 hX0 CO1 OM g5 hmk hL
      go_loopg [16, 17, 18] (prodC (clks ts)) (fun gg s16 s17 s18 wx => ∃ (os : List OT) (ao : Option Addr) (co : Nat), s16 = .slice ao os.length co ∧ wx.ownsRow w.heap.size 22 1 (.slice ao os.length co) os.length (os.map (encO ts.length)) ∧ OsOk w.heap.size wx (clks ts) ms os ∧ CO b len w ts g c f af R (.slice a1 ts.length c1) (.slice a2 ts.length c2) wx ∧ wx.ownsRow w.heap.size 35 3 (.slice am ms.length cm) ms.length (ms.flatMap encM) ∧
        os.length + gg ≤ prodC (clks ts) ∧ ((s18 = .bool true ∧ ∃ (t : List Int) (B cx : Nat), s17 = .slice (some ⟨B, 0, none⟩) ts.length cx ∧ RowS wx B 3 (nums t) ∧ w.heap.size ≤ B ∧ SetOk (clks ts) t ∧ num (clks ts) t + gg = (prodC (clks ts) : Nat)) ∨ (s18 = .bool false ∧ gg = 0)))
      case atStart => exact ⟨[], none, 0, rfl, World.ownsRow_nil _ _ _ _, (fun o ho => by cases ho), C5.out, OM5.out, by simp, .inl ⟨rfl, _, X0, ts.length, rfl, RX.out, x0.out, Z.out.1, by rw [Z.out.2]; omega⟩⟩
      case round =>
        clear C5 OM5 RX Z x0
        obtain ⟨os, ao, co, rfl, hoo, hos, hco, hom, hlen, hcase⟩ := hrel
        have OO := Lib.hid hoo
        have OS := Lib.hid hos
        have C6 := Lib.hid hco
        have OM6 := Lib.hid hom
        obtain ⟨_, _, eq6, _, sl6⟩ := clks_at hco.own hco.rows (by omega)
        cases eq6
        obtain ⟨_, _, eq7, sm6⟩ := lmts_of_owns hom (by rw [HCL.out]; omega) LS.out
        cases eq7
        have SL := Lib.hid sl6
        have SM := Lib.hid sm6
        clear hoo hos hco hom sl6 sm6
        rcases hcase with ⟨rfl, t, B, cx, rfl, hrx, hbx, hst, hnum⟩ | ⟨rfl, rfl⟩
        · have stx := hrx.slI (setOk_wide CK.out hst)
          have CA := refCalm_any (clks ts) ms t (some ⟨g, 0, none⟩) (some ⟨B, 0, none⟩) am c cx cm wr SL.out stx SM.out CK.out hst LS.out
          rw [hst.1, HCL.out] at CA
          have CA' := Lib.hid CA
          have NX0 := fun W (hW : SlOf 5 RClk W (some ⟨g, 0, none⟩) (clks ts)) (hx : RowS W B 3 (nums t)) => next_any (clks ts) t (some ⟨g, 0, none⟩) (some ⟨B, 0, none⟩) c cx W hW (hx.slI (setOk_wide CK.out hst)) CK.out hst (by rw [HCL.out]; exact hge)
          rw [hst.1, HCL.out] at NX0
          have NX : Hid (∀ W, CO b len w ts g c f af R (.slice a1 ts.length c1) (.slice a2 ts.length c2) W → RowS W B 3 (nums t) → Calls Tryz.prog 77 #[.slice (some ⟨g, 0, none⟩) ts.length c, .slice (some ⟨B, 0, none⟩) ts.length cx] W (GivesNext W (clks ts) t)) := Lib.hid (fun W hW hx => by
            obtain ⟨_, _, eqx, _, slx⟩ := clks_at hW.own hW.rows (by omega)
            cases eqx
            exact NX0 W slx hx)
          have RX := Lib.hid hrx
          have BX := Lib.hid hbx
          have ST := Lib.hid hst
          have HN := Lib.hid hnum
          clear CA stx hrx hbx hst hnum NX0
          go_wp2_with fail
          refine CA'.out.mono ?_
          rintro e w6 ⟨rfl, hg6⟩
          have C7 := Lib.hid (C6.out.gr hg6)
          have OM7 := Lib.hid (Gr.owns OM6.out hg6)
          have OO7 := Lib.hid (Gr.owns OO.out hg6)
          have OS7 := Lib.hid (OS.out.gr hg6)
          have RX7 := Lib.hid (RX.out.gr hg6)
          have LEN := Lib.hid hlen
          clear hg6 C6 OM6 OO OS RX SL SM CA'
          cases hcal : calS (clks ts) ms t with
          | false =>
            clear hcal
            go_wp2_with fail
            refine (NX.out w6 C7.out RX7.out).mono ?_
            rintro e w7 ⟨hg7, hc7⟩
            have C8 := Lib.hid (C7.out.gr hg7)
            have OM8 := Lib.hid (Gr.owns OM7.out hg7)
            have OO8 := Lib.hid (Gr.owns OO7.out hg7)
            have OS8 := Lib.hid (OS7.out.gr hg7)
            have z7 : Hid (w.heap.size ≤ w6.heap.size) := Lib.hid C7.out.mv.size
            clear hg7 C7 OM7 OO7 OS7 RX7
            rcases hc7 with ⟨t', B', c', rfl, hr', hb', hs', hn'⟩ | ⟨rfl, hl'⟩
            · have NB := Lib.hid (num_bound hs')
              have HR' := Lib.hid hr'
              have HS' := Lib.hid hs'
              have HN' := Lib.hid hn'
              clear hr' hs' hn'
              go_wp2_with fail
              go_roundg (gk - 1)
              case measure => have := NB.out; have := HN'.out; have := HN.out; omega
              case rel => exact ⟨os, ao, co, rfl, OO8.out, OS8.out, C8.out, OM8.out, by have := LEN.out; omega, .inl ⟨rfl, t', B', c', by rw [HCL.out], HR'.out, by have := z7.out; omega, HS'.out, by have := NB.out; have := HN'.out; have := HN.out; omega⟩⟩
            · have HL' := Lib.hid hl'
              clear hl'
              go_wp2_with fail
              go_roundg 0
              case measure => have := HL'.out; have := HN.out; omega
              case rel => exact ⟨os, ao, co, rfl, OO8.out, OS8.out, C8.out, OM8.out, by have := LEN.out; omega, .inr ⟨rfl, rfl⟩⟩
          | true =>
            have HCAL := Lib.hid hcal
            clear hcal
            have gk1 : Hid (1 ≤ gk) := Lib.hid (by have := (num_bound ST.out).2; have := HN.out; omega)
            have gA : Gr w6 (w6.alloc (.cells #[.slice (some ⟨B, 0, none⟩) ts.length cx] 22)) := (Gr.refl _).alloc _
            have OOa := Lib.hid (Gr.owns OO7.out gA)
            have Ca := Lib.hid (C7.out.gr gA)
            have OMa := Lib.hid (Gr.owns OM7.out gA)
            have OSa := Lib.hid (OS7.out.gr gA)
            have RXa := Lib.hid (RX7.out.gr gA)
            have CC : Hid (∀ j u, ([Value.slice (some ⟨B, 0, none⟩) ts.length cx])[j]? = some u → (w6.alloc (.cells #[.slice (some ⟨B, 0, none⟩) ts.length cx] 22)).cell? ((⟨w6.heap.size, 0, none⟩ : Addr).add j) = some u) := Lib.hid (row_cells (Row.new w6 #[.slice (some ⟨B, 0, none⟩) ts.length cx] 22))
            have base : Hid (w.heap.size ≤ (w6.alloc (.cells #[.slice (some ⟨B, 0, none⟩) ts.length cx] 22)).heap.size) := Lib.hid Ca.out.mv.size
            have o4 : os.length ≤ 4096 := by have := PC.out.1; omega
            clear gA C7 OM7 OO7 OS7 RX7 hlen
            go_wp2_with (first
              | (at_builtin; refine wpList_append_own _ rfl _ _ 59 rfl w.heap.size 22 k0 (.slice none 0 0) 1 24 Tryz.underlying59 hk hx0 hx1 hx2 rfl (by decide) (.slice ao os.length co) os.length (os.map (encO ts.length)) rfl OOa.out ⟨w6.heap.size, 0, none⟩ 1 1 [.slice (some ⟨B, 0, none⟩) ts.length cx] rfl rfl CC.out (by simp [Value.oneCell']) (by unfold maxLen; omega) (by omega) base.out ?_; intro v' W7 hown hgrow hnil; obtain ⟨a7, c7, rfl⟩ := owns_slice hown; have O8 := Lib.hid hown; have C8 := Lib.hid (Ca.out.app OOa.out (by decide) (by decide) (by decide) (by decide) hgrow); have OM8 := Lib.hid (OMa.out.kept hgrow (owns_two OOa.out OMa.out (by decide))); have OS8 : Hid (OsOk w.heap.size W7 (clks ts) ms os) := Lib.hid (fun o ho => ⟨(OSa.out o ho).1.grown hgrow (owns_apart OOa.out (OSa.out o ho).1 (by decide)), (OSa.out o ho).2⟩); have RX8 := Lib.hid (RXa.out.grown hgrow (owns_apart OOa.out RXa.out (by decide))); clear hown hgrow hnil)
              | fail)
            refine (NX.out W7 C8.out RX8.out).mono ?_
            rintro e w8 ⟨hg7, hc7⟩
            have C9 := Lib.hid (C8.out.gr hg7)
            have OM9 := Lib.hid (Gr.owns OM8.out hg7)
            have OO9 : Hid (w8.ownsRow w.heap.size 22 1 (.slice a7 (os ++ [(⟨t, B, cx⟩ : OT)]).length c7) (os ++ [(⟨t, B, cx⟩ : OT)]).length ((os ++ [(⟨t, B, cx⟩ : OT)]).map (encO ts.length))) := Lib.hid (by
              have := Gr.owns O8.out hg7
              simpa [encO] using this)
            have OS9 : Hid (OsOk w.heap.size w8 (clks ts) ms (os ++ [(⟨t, B, cx⟩ : OT)])) := Lib.hid (fun o ho => by
              rcases List.mem_append.1 ho with ho | ho
              · exact OS8.out.gr hg7 o ho
              · have : o = ⟨t, B, cx⟩ := by simpa using ho
                subst this
                exact ⟨RX8.out.gr hg7, BX.out, ST.out, HCAL.out⟩)
            have z7 : Hid (w.heap.size ≤ W7.heap.size) := Lib.hid C8.out.mv.size
            have eL : (os ++ [(⟨t, B, cx⟩ : OT)]).length = os.length + 1 := by simp
            have EL := Lib.hid eL
            clear hg7 C8 OM8 O8 OS8 RX8 eL
            rcases hc7 with ⟨t', B', c', rfl, hr', hb', hs', hn'⟩ | ⟨rfl, hl'⟩
            · have NB := Lib.hid (num_bound hs')
              have HR' := Lib.hid hr'
              have HS' := Lib.hid hs'
              have HN' := Lib.hid hn'
              clear hr' hs' hn'
              go_wp2_with fail
              go_roundg (gk - 1)
              case measure => have := NB.out; have := HN'.out; have := HN.out; omega
              case rel => exact ⟨os ++ [⟨t, B, cx⟩], a7, c7, by rw [EL.out], OO9.out, OS9.out, C9.out, OM9.out, by have := LEN.out; have := EL.out; have := gk1.out; omega, .inl ⟨rfl, t', B', c', by rw [HCL.out], HR'.out, by have := z7.out; omega, HS'.out, by have := NB.out; have := HN'.out; have := HN.out; omega⟩⟩
            · have HL' := Lib.hid hl'
              clear hl'
              go_wp2_with fail
              go_roundg 0
              case measure => have := HL'.out; have := HN.out; omega
              case rel => exact ⟨os ++ [⟨t, B, cx⟩], a7, c7, by rw [EL.out], OO9.out, OS9.out, C9.out, OM9.out, by have := LEN.out; have := EL.out; have := gk1.out; omega, .inr ⟨rfl, rfl⟩⟩
        · have slf := C6.out.f.slI (setOk_wide CK.out SF.out)
          have CF := refCalm_any (clks ts) ms f (some ⟨g, 0, none⟩) af am c cf cm wr SL.out slf SM.out CK.out SF.out LS.out
          rw [SF.out.1, HCL.out] at CF
          have CF' := Lib.hid CF
          have fin : ∀ W, Gr wr W → MakesCalm b len most w (.returned (.tuple #[.slice (some ⟨g, 0, none⟩) ts.length c, .slice am ms.length cm, .slice af ts.length cf, .slice af ts.length cf, .bool false])) W := fun W hW => by
            have C := C6.out.gr hW
            exact ⟨ts, ms, f, f, g, c, _, af, af, cf, cf, false, rfl, C.own, C.rows, CK.out, hge, hle, Gr.owns OM6.out hW, LS.out, C.f, SF.out, C.f, SF.out, (fun q => by cases q), C.mv⟩
          have FIN := Lib.hid fin
          have LEN0 := Lib.hid hlen
          clear CF slf fin hlen
          go_wp2_with fail
          refine CF'.out.mono ?_
          rintro e w6 ⟨rfl, hg6⟩
          have G6 := Lib.hid hg6
          clear hg6 CF'
          cases hcf : calS (clks ts) ms f with
          | false =>
            clear hcf
            go_wp2_with fail
            refine bodyPost_ret (v := .tuple #[.slice (some ⟨g, 0, none⟩) ts.length c, .slice am ms.length cm, .slice af ts.length cf, .slice af ts.length cf, .bool false]) ?_ rfl (FIN.out _ G6.out)
            simp [results, Tryz.results28, go_sem]
          | true =>
            have HCF := Lib.hid hcf
            clear hcf
            by_cases ho0 : os.length = 0
            · have hb0 : ((os.length : Int) == 0) = true := by simp [ho0]
              clear ho0
              go_wp2_with fail
              refine bodyPost_ret (v := .tuple #[.slice (some ⟨g, 0, none⟩) ts.length c, .slice am ms.length cm, .slice af ts.length cf, .slice af ts.length cf, .bool false]) ?_ rfl (FIN.out _ G6.out)
              simp [results, Tryz.results28, go_sem]
            · have hb0 : ((os.length : Int) == 0) = false := by simp [ho0]
              have C7 := Lib.hid (C6.out.gr G6.out)
              have OM7 := Lib.hid (Gr.owns OM6.out G6.out)
              have OO7 := Lib.hid (Gr.owns OO.out G6.out)
              have OS7 := Lib.hid (OS.out.gr G6.out)
              have op : 1 ≤ os.length := by omega
              clear ho0 C6 OM6 OO OS G6 SL SM FIN
              obtain ⟨go, _, eo, _, hbo, _⟩ := owns_cell OO7.out op
              cases eo
              have q4 : os.length ≤ 4096 := by have := PC.out.1; have := LEN0.out; omega
              clear hbo
              go_wp2_with fail
              go_region_with (go_at_call 12; refine (nM_any _ b len os.length ((C7.out.mv.gr grr).tp TT.out) (by omega) (by omega)).mono ?_; rintro e w9 ⟨x, rfl, ⟨x0, x1⟩, hm9⟩; obtain ⟨q, rfl⟩ := Int.eq_ofNat_of_zero_le (show 0 ≤ x by omega); have C9 := Lib.hid ((C7.out.gr grr).mvd HB.out hm9); have OM9 := Lib.hid (hm9.owns (Gr.owns OM7.out grr) HB.out); have OO9 := hm9.owns (Gr.owns OO7.out grr) HB.out; have OS9 := Lib.hid ((OS7.out.gr grr).mv HB.out hm9); obtain ⟨go', _, eo', _, _, hco⟩ := owns_cell OO9 op; cases eo'; have hqs : q < os.length := (by omega); have hcq := hco q (by omega); rw [List.getElem?_eq_getElem (by rw [List.length_map]; exact hqs), List.getElem_map] at hcq; have hcq' : w9.cell? ⟨go, q, none⟩ = some (.slice (some ⟨os[q].B, 0, none⟩) ts.length os[q].c) := hcq; have hgo := has_of_cell hcq'; have q2 : (q : Int) < os.length := (by omega); clear hm9 OO9 hco hcq)
              go_wp2_with fail
              refine bodyPost_ret (v := .tuple #[.slice (some ⟨g, 0, none⟩) ts.length c, .slice am ms.length cm, .slice af ts.length cf, .slice (some ⟨os[q].B, 0, none⟩) ts.length os[q].c, .bool true]) ?_ rfl ?_
              · simp [results, Tryz.results28, go_sem]
              · have ho := OS9.out _ (List.getElem_mem hqs)
                exact ⟨ts, ms, f, os[q].t, g, c, _, af, _, cf, _, true, rfl, C9.out.own, C9.out.rows, CK.out, hge, hle, OM9.out, LS.out, C9.out.f, SF.out, Own1.row ho.2.1 ho.1, ho.2.2.1, (fun _ => ⟨HCF.out, ho.2.2.2⟩), C9.out.mv⟩
    | succ n =>
      go_wp2_with fail
      refine (nM_any wr b len ts.length (CO1.out.mv.tp TT.out) (by omega) (by omega)).mono ?_
      rintro e w6 ⟨k, rfl, ⟨k0, k1⟩, hm6⟩
      obtain ⟨k, rfl⟩ := Int.eq_ofNat_of_zero_le k0
      have C6 := Lib.hid (CO1.out.mvd HB.out hm6)
      have OM6 := Lib.hid (hm6.owns OM.out HB.out)
      clear hm6 CO1 OM
      obtain ⟨_, _, er, hra⟩ := rates_of_owns HRL.out C6.out.r1
      cases er
      obtain ⟨_, _, eo, hon⟩ := ons_of_owns HRL.out C6.out.r2
      cases eo
      have hkR : k < R.length := by have := HRL.out; omega
      obtain ⟨g1, rfl, q0, q1⟩ := hra k hkR
      obtain ⟨g2, rfl, q2⟩ := hon k hkR
      have e := rtAt_eq hkR
      have hgd := RG.out k hkR
      rw [← e] at hgd
      obtain ⟨r, hrr⟩ : ∃ r, rtAt R k = r := ⟨_, rfl⟩
      rw [hrr] at q0 q1 q2 hgd
      have gh1 := has_of_cell q0
      have gh2 := has_of_cell q2
      have kl : (k : Int) < ts.length := by omega
      clear hra hon hrr e
      cases r with
      | none =>
        simp only [numR, denR, Option.isSome_none] at q0 q1 q2
        clear hgd
        go_wp2_with fail
        go_roundw
        case rel => exact ⟨ms, n, am, cm, rfl, by go_num, by omega, OM6.out, LM.out, C6.out⟩
        case measure => simp [intOf]
      | some nd =>
        obtain ⟨rn, rd⟩ := nd
        obtain ⟨hv, hn1⟩ := hgd rn rd rfl
        obtain ⟨u1, u2, u3, u4, u5⟩ := valid_parts hv
        simp only [numR, denR, Option.isSome_some] at q0 q1 q2
        have fl0 := floor_ge rn rd (by omega) u3
        have fl1 := floor_le rn rd (by omega) u3 u2
        clear hv u5 hgd hmk
        go_wp2_with fail
        refine (refFloor_any rn rd w6 (by omega) (by omega) (by omega) (by omega)).mono ?_
        rintro e w7 ⟨rfl, hg7⟩
        obtain ⟨fl, efl⟩ : ∃ fl, floorI rn rd = fl := ⟨_, rfl⟩
        rw [efl] at fl0 fl1 ⊢
        have C7 := Lib.hid (C6.out.gr hg7)
        have OM7 := Lib.hid (Gr.owns OM6.out hg7)
        clear hg7 C6 OM6 q0 q1 q2 gh1 gh2 efl
        go_wp2_with fail
        refine (pickNew_any w7 b len (C7.out.mv.tp TT.out) _ rfl #[.int .i64 1, .int .i64 2, .int .i64 10, .int .i64 100] 4 [1, 2, 10, 100] (InTo 1 100) rfl rfl (by omega) (by omega) (by simp [InTo])).mono ?_
        rintro e w8 ⟨x, rfl, ⟨x0, x1⟩, hm8⟩
        have C8 := Lib.hid (C7.out.mvd HB.out hm8)
        have OM8 := Lib.hid (hm8.owns OM7.out HB.out)
        obtain ⟨y, hy⟩ : ∃ y : Int, (if fl + x < 4000000000 then fl + x else 4000000000) = y := ⟨_, rfl⟩
        have hy01 : 0 ≤ y ∧ y ≤ 4000000000 := by rw [← hy]; split <;> omega
        have gA : Gr w8 (w8.alloc (.cells #[.int .i64 k, .int .i64 0, .int .i64 y] 35)) := (Gr.refl _).alloc _
        have OMa := Lib.hid (Gr.owns OM8.out gA)
        have Ca := Lib.hid (C8.out.gr gA)
        have CC : Hid (∀ j u, ([Value.int .i64 k, .int .i64 0, .int .i64 y])[j]? = some u → (w8.alloc (.cells #[.int .i64 k, .int .i64 0, .int .i64 y] 35)).cell? ((⟨w8.heap.size, 0, none⟩ : Addr).add j) = some u) := Lib.hid (row_cells (Row.new w8 #[.int .i64 k, .int .i64 0, .int .i64 y] 35))
        have one : Hid (∀ u ∈ [Value.int .i64 k, .int .i64 0, .int .i64 y], u.oneCell' = true) := Lib.hid (by
          intro u hu
          simp only [List.mem_cons, List.not_mem_nil, or_false] at hu
          rcases hu with rfl | rfl | rfl <;> rfl)
        have base : Hid (w.heap.size ≤ (w8.alloc (.cells #[.int .i64 k, .int .i64 0, .int .i64 y] 35)).heap.size) := Lib.hid Ca.out.mv.size
        have Y := Lib.hid hy01
        clear hm8 C7 OM7 gA hy01
        go_wp2_with (first
          | (at_builtin; refine wpList_append_own _ rfl _ _ 24 rfl w.heap.size 35 j0 (.agg #[.int .i64 0, .int .i64 0, .int .i64 0]) 3 24 Tryz.underlying24 hj hy0 hy1 hy2 rfl (by decide) (.slice am ms.length cm) ms.length (ms.flatMap encM) rfl OMa.out ⟨w8.heap.size, 0, none⟩ 1 1 [.int .i64 k, .int .i64 0, .int .i64 y] rfl rfl CC.out one.out (by unfold maxLen; omega) (by omega) base.out ?_; intro v' W9 hown hgrow hnil; obtain ⟨a9, c9, rfl⟩ := owns_slice hown; have O9 := Lib.hid hown; have C9 := Lib.hid (Ca.out.app OMa.out (by decide) (by decide) (by decide) (by decide) hgrow); clear hown hgrow hnil)
          | fail)
        go_roundw
        case rel =>
          refine ⟨ms ++ [⟨k, 0, y⟩], n, a9, c9, by simp, by go_num, by simp; omega, ?_, ?_, C9.out⟩
          · have := O9.out
            simpa [encM] using this
          · intro j hj
            by_cases e : j < ms.length
            · rw [List.getElem_append_left e]; exact LM.out j e
            · have : j = ms.length := by simp at hj; omega
              subst this
              simp only [List.getElem_append_right (Nat.le_refl _), Nat.sub_self, List.getElem_cons_zero]
              exact ⟨by simp, by simp only [HCL.out]; omega, by simp, Y.out.1, Y.out.2⟩
        case measure => simp [intOf]
end Go.Proofs.YtenehghpmnajpaaGreatDoor
/-! Contracts of the reference's changed and Apply, for right writes. -/
set_option linter.unusedVariables false
set_option linter.unusedSimpArgs false
namespace Go.Proofs.YtenehghpmnajpaaGreatDoor
open Go.RowKit
open Classical
def NewI (w : World) (s : List Int) (B : Nat) (w' : World) : Prop := RowS w' B 3 (nums s) ∧ w.heap.size ≤ B ∧ Gr w w'
theorem changed_any (s : List Int) (u : Nat) (v : Int) (aS : Option Addr) (cs : Nat) (w : World) (hs : SlOf 1 RI w aS s) (hu : u < s.length) (hl : s.length ≤ 16) :
    Calls Tryz.prog 92 #[.slice aS s.length cs, .int .i64 u, .int .i64 v] w fun e w' => ∃ B c, e = .returned (.slice (some ⟨B, 0, none⟩) s.length c) ∧ NewI w (s.set u v) B w' := by
  obtain ⟨i0, hi, hz0, hz1, hz2⟩ := info_parts infoInt
  obtain ⟨bs, os, rfl, h00⟩ := hs 0 (by omega)
  have CS := Lib.hid (slI_cells (b := bs) (o := os) (s := none) (vs := s) (w := w) hs)
  have gE : Gr w (w.alloc (.cells #[] 3)) := (Gr.refl _).alloc _
  have CS1 : Hid (∀ j u, (nums s)[j]? = some u → (w.alloc (.cells #[] 3)).cell? ((⟨bs, os, none⟩ : Addr).add j) = some u) := Lib.hid (fun j u hu => cell_gr gE (CS.out j u hu))
  clear h00 hs gE CS
  go_enter Tryz.func92, Tryz.ntmps92
  go_wp2_with (first
    | (at_builtin; refine wpList_append_fresh _ rfl _ _ 22 rfl 3 i0 (.int .i64 0) 8 Tryz.underlying22 hi hz0 hz1 hz2 ⟨w.heap.size, 0, none⟩ ⟨bs, os, none⟩ s.length cs (nums s) rfl rfl (by rw [nums_len]) CS1.out (by omega) (by omega) (by omega) (w.heap.size + 1) (by simp) ?_; intro cap Z hcap
       have R2 := Lib.hid (row_fresh' (w.alloc (.cells #[] 3)).drew (nums s) Z 3 (w.heap.size + 1) (by simp [World.drew]))
       have G2 : Hid (Gr w ((w.alloc (.cells #[] 3)).drew.alloc (.cells ((nums s).toArray ++ Z) 3))) := Lib.hid (((Gr.refl _).alloc _).drew.alloc _)
       obtain ⟨N2, hN2⟩ : ∃ N2 : Nat, Hid (w.heap.size + 1 = N2) := ⟨_, Lib.hid rfl⟩
       rw [hN2.out] at R2 ⊢
       obtain ⟨W2, hW2⟩ : ∃ W2 : World, ((w.alloc (.cells #[] 3)).drew.alloc (.cells ((nums s).toArray ++ Z) 3)) = W2 := ⟨_, rfl⟩
       rw [hW2] at R2 G2 ⊢
       clear hW2
       have hx := R2.out.has
       have hc := R2.out.cell u (by rw [nums_len]; exact hu)
       have hfz := R2.out.free u)
    | fail)
  go_ret
  exact ⟨N2, cap, rfl, by have := R2.out.iset u hu v; exact this, by have := hN2.out; omega, G2.out.setc (by have := hN2.out; omega)⟩
theorem refApply_any (l : List Clk) (s : List Int) (u v : Nat) (al aS : Option Addr) (cl cs : Nat) (w : World) (h : SlOf 5 RClk w al l) (hs : SlOf 1 RI w aS s) (hc : cchk l = 0) (hset : SetOk l s) (hu : u < l.length) (hv : (v : Int) < kOf l u) :
    Calls Tryz.prog 47 #[.slice al l.length cl, .slice aS s.length cs, .agg #[.int .i64 1, .int .i64 u, .int .i64 v]] w fun e w' => ∃ B c, e = .returned (.tuple #[.slice (some ⟨B, 0, none⟩) s.length c, .int .i64 0]) ∧ NewI w (s.set u v) B w' := by
  have hl := small_len (cchk_zero hc).1
  have rc := fun W (hW : Gr w W) => refCheck_any l al cl W (clks_gr h hW) (by unfold Fit; omega)
  rw [hc] at rc
  have RC := Lib.hid rc
  have ST := Lib.hid (fun W (hW : Gr w W) => refSetting_ok l s al aS cl cs W (clks_gr h hW) (hs.giI hW) hc hset)
  have CH := Lib.hid (fun W (hW : Gr w W) => changed_any s u v aS cs W (hs.giI hW) (by rw [hset.1]; exact hu) (by rw [hset.1]; exact hl))
  have H := Lib.hid h
  have NB := Lib.hid (cchk_zero hc).1
  rw [kOf_at hu] at hv
  clear h hs hc rc hset
  go_enter Tryz.func47, Tryz.ntmps47
  have RW := Lib.hid (Row.new w #[.int .i64 1, .int .i64 u, .int .i64 v] 65)
  have g0 : Hid (Gr w (w.alloc (.cells #[.int .i64 1, .int .i64 u, .int .i64 v] 65))) := Lib.hid ((Gr.refl _).alloc _)
  go_wp2_with fail
  refine (RC.out _ g0.out).mono ?_
  rintro e w1 ⟨rfl, hg1⟩
  have R1 := Lib.hid (RW.out.gr hg1)
  have G1 := Lib.hid (g0.out.trans hg1)
  obtain ⟨P, hP⟩ : ∃ P, w.heap.size = P := ⟨_, rfl⟩
  rw [hP] at R1 ⊢
  clear hg1 RW g0
  go_wp2_with fail
  refine (ST.out w1 G1.out).mono ?_
  rintro e w2 ⟨rfl, hg2⟩
  have R2 := Lib.hid (R1.out.gr hg2)
  have G2 := Lib.hid (G1.out.trans hg2)
  have c0 : w2.cell? ⟨P, 0, none⟩ = some (.int .i64 1) := R2.out.cell 0 (by simp)
  have c1 : w2.cell? ⟨P, 1, none⟩ = some (.int .i64 u) := R2.out.cell 1 (by simp)
  have c2 : w2.cell? ⟨P, 2, none⟩ = some (.int .i64 v) := R2.out.cell 2 (by simp)
  obtain ⟨fp, fc⟩ := small_at NB.out hu
  obtain ⟨b, o, rfl, ⟨d0, _⟩, ⟨ap, cp, d1, _⟩, ⟨ac, cc, d2, _, d2f, _⟩, ⟨d3, _⟩, ⟨d4, _⟩⟩ := clks_gr H.out G2.out u hu
  have hx := R2.out.has
  have k2 : (u : Int) < l.length := by omega
  have e1 : decide ((u : Int) < 0) = false := decide_eq_false (by omega)
  have e2 : decide (l.length ≤ u) = false := decide_eq_false (by omega)
  have e3 : decide ((v : Int) < 0) = false := decide_eq_false (by omega)
  have e4 : decide (l[u].choices.length ≤ v) = false := decide_eq_false (by omega)
  clear hg2 R1 G1 hP
  go_wp2_with fail
  go_quiet (fail)
  go_wp2_with fail
  refine (CH.out _ (G2.out.drewN _)).mono ?_
  rintro e w3 ⟨B, c, rfl, hr, hb, hg3⟩
  have HR := Lib.hid hr
  have G3 := Lib.hid ((G2.out.drewN _).trans hg3)
  clear hr hg3
  go_wp2_with fail
  go_ret2
  exact ⟨B, c, rfl, HR.out, by have := G2.out.size; simp at hb; omega, G3.out⟩
theorem proApply_any (l : List Clk) (s : List Int) (u v : Nat) (al aS : Option Addr) (cl cs : Nat) (w : World) (h : SlOf 5 RClk w al l) (hs : SlOf 1 RI w aS s) (hc : cchk l = 0) (hset : SetOk l s) (hu : u < l.length) (hv : (v : Int) < kOf l u) :
    Calls Tryz.prog 46 #[.slice al l.length cl, .slice aS s.length cs, .agg #[.int .i64 1, .int .i64 u, .int .i64 v]] w fun e w' => ∃ B c, e = .returned (.tuple #[.slice (some ⟨B, 0, none⟩) s.length c, .int .i64 0]) ∧ NewI w (s.set u v) B w' := by
  have hl := small_len (cchk_zero hc).1
  have HSL := Lib.hid hset.1
  have hs0 : 0 < s.length := by rw [hset.1]; omega
  have hs16 : s.length ≤ 16 := by rw [hset.1]; omega
  have hus : u < s.length := by rw [hset.1]; omega
  have rc := fun W (hW : Gr w W) => pCheck_any l al cl W (clks_gr h hW) (by unfold Fit; omega)
  rw [hc] at rc
  have RC := Lib.hid rc
  have ST : Hid (∀ W, Gr w W → Calls Tryz.prog 86 #[.slice al l.length cl, .slice aS s.length cs] W (Grows W (.bool true))) := Lib.hid fun W hW => by
    have := pSetting_any l s al aS cl cs W (clks_gr h hW) (hs.giI hW) (by unfold Fit; omega) (by unfold Fit; omega)
    rwa [decide_eq_true ⟨hc, hset⟩] at this
  obtain ⟨bs, os, rfl, _⟩ := hs 0 hs0
  have HS := Lib.hid hs
  have H := Lib.hid h
  have NB := Lib.hid (cchk_zero hc).1
  rw [kOf_at hu] at hv
  have hmk := run_make_row' (P := Tryz.prog) 22 3 (.int .i64 0) 8 Tryz.underlying22 infoInt rfl .i64 .i64 s.length (by omega) (by omega)
  have hsz : (Tryz.prog.info? 3).map (·.size) = some 1 := by
    obtain ⟨i0, hi, hz0, hz1, hz2⟩ := info_parts infoInt
    rw [hi]; simp [hz1]
  clear h hs hc rc hset
  go_enter Tryz.func46, Tryz.ntmps46
  have RW := Lib.hid (Row.new w #[.int .i64 1, .int .i64 u, .int .i64 v] 65)
  have g0 : Hid (Gr w (w.alloc (.cells #[.int .i64 1, .int .i64 u, .int .i64 v] 65))) := Lib.hid ((Gr.refl _).alloc _)
  go_wp2_with fail
  refine (RC.out _ g0.out).mono ?_
  rintro e w1 ⟨rfl, hg1⟩
  have R1 := Lib.hid (RW.out.gr hg1)
  have G1 := Lib.hid (g0.out.trans hg1)
  obtain ⟨P, hP⟩ : ∃ P, w.heap.size = P := ⟨_, rfl⟩
  rw [hP] at R1 ⊢
  clear hg1 RW g0
  go_wp2_with fail
  refine (ST.out w1 G1.out).mono ?_
  rintro e w2 ⟨rfl, hg2⟩
  have R2 := Lib.hid (R1.out.gr hg2)
  have G2 := Lib.hid (G1.out.trans hg2)
  have c0 : w2.cell? ⟨P, 0, none⟩ = some (.int .i64 1) := R2.out.cell 0 (by simp)
  have c1 : w2.cell? ⟨P, 1, none⟩ = some (.int .i64 u) := R2.out.cell 1 (by simp)
  have c2 : w2.cell? ⟨P, 2, none⟩ = some (.int .i64 v) := R2.out.cell 2 (by simp)
  obtain ⟨fp, fc⟩ := small_at NB.out hu
  obtain ⟨b, o, rfl, ⟨d0, _⟩, ⟨ap, cp, d1, _⟩, ⟨ac, cc, d2, _, d2f, _⟩, ⟨d3, _⟩, ⟨d4, _⟩⟩ := clks_gr H.out G2.out u hu
  have hx := R2.out.has
  have k2 : (u : Int) < l.length := by omega
  have e1 : decide ((u : Int) < 0) = false := decide_eq_false (by omega)
  have e2 : decide (l.length ≤ u) = false := decide_eq_false (by omega)
  have e3 : decide ((v : Int) < 0) = false := decide_eq_false (by omega)
  have e4 : decide (l[u].choices.length ≤ v) = false := decide_eq_false (by omega)
  have PZ : Hid (w.heap.size = P) := Lib.hid hP
  clear hg2 R1 G1 hP
  go_wp2_with fail
  go_quiet (fail)
  have G3 : Hid (Gr w (w2.drewN nq)) := Lib.hid (G2.out.drewN _)
  have R3 := Lib.hid (R2.out.gr ((Gr.refl w2).drewN nq))
  have hz3 : Hid ((w2.drewN nq).heap.size = w2.heap.size) := Lib.hid (by simp)
  obtain ⟨W3, hW3⟩ : ∃ W3 : World, w2.drewN nq = W3 := ⟨_, rfl⟩
  rw [hW3] at G3 R3 hz3
  rw [hW3]
  clear hW3 c0 c1 c2 hx R2 G2
  obtain ⟨W4, hW4⟩ : ∃ W4 : World, Hid (W4 = (W3.alloc (.cells (madeCells #[.int .i64 0] s.length) 3)).setRow W3.heap.size ((madeCells #[.int .i64 0] s.length).toList.take 0 ++ nums s ++ (madeCells #[.int .i64 0] s.length).toList.drop (0 + (nums s).length)).toArray) := ⟨_, Lib.hid rfl⟩
  have hg4 : Hid ((W3.alloc (.cells (madeCells #[.int .i64 0] s.length) 3)).heap[W3.heap.size]? = some (.cells (madeCells #[.int .i64 0] s.length) 3 (0, 0))) := Lib.hid (heap_alloc_new W3 _)
  have hmz : Hid ((madeCells #[Value.int .i64 0] s.length).size = s.length) := Lib.hid (by rw [← Array.length_toList, made_zero]; simp)
  have R4 : Hid (RowS W4 W3.heap.size 3 (nums s)) := Lib.hid (by
    rw [hW4.out]
    refine ⟨[], ?_⟩
    unfold Row
    rw [setRow_heap _ _ _ _ _ _ hg4.out]
    simp [nums_len, made_zero])
  have g34 : Gr W3 W4 := .of_below (by
    rw [hW4.out]
    refine below_setRow ((Gr.refl W3).alloc _).below (Nat.le_refl _) _)
  have G4 := Lib.hid (G3.out.trans g34)
  have Q4 := Lib.hid (R3.out.gr g34)
  have c1 : W4.cell? ⟨P, 1, none⟩ = some (.int .i64 u) := Q4.out.cell 1 (by simp)
  have c2 : W4.cell? ⟨P, 2, none⟩ = some (.int .i64 v) := Q4.out.cell 2 (by simp)
  have hsrc : Hid (∀ j x, (nums s)[j]? = some x → (W3.alloc (.cells (madeCells #[.int .i64 0] s.length) 3)).cell? ((⟨bs, os, none⟩ : Addr).add j) = some x) := Lib.hid (slI_cells (HS.out.giI (G3.out.alloc _)))
  obtain ⟨S3, hS3⟩ : ∃ S3, Hid (W3.heap.size = S3) := ⟨_, Lib.hid rfl⟩
  have hx1 := Q4.out.has
  have hS3' := hS3.out
  have hx2 := R4.out.has
  have hc := R4.out.cell u (by rw [nums_len]; exact hus)
  have hfz := R4.out.free u
  rw [hS3.out] at hx2 hc hfz
  have hne : ¬ (P = S3) := by
    have h1 := R3.out.has
    have h2 := hS3.out
    unfold Has at h1
    omega
  have hcp := run_copy_row (P := Tryz.prog) (W3.alloc (.cells (madeCells #[.int .i64 0] s.length) 3)) 22 22 3 3 W3.heap.size 0 s.length s.length ⟨bs, os, none⟩ s.length cs (madeCells #[.int .i64 0] s.length) 3 (nums s) Tryz.underlying22 hsz hg4.out (by rw [nums_len]; exact (Nat.min_self _).symm) hsrc.out (by rw [nums_len, hmz.out]; omega) (nums_one s)
  rw [← hW4.out] at hcp
  rw [hS3.out] at hcp
  clear hW4 hg4 hmz hsrc
  go_wp2_with fail
  go_ret2
  refine ⟨_, s.length, rfl, ?_, ?_, ?_⟩
  · have := R4.out.iset u hus v
    rw [hS3.out] at this
    exact this
  · have h1 := G3.out.size
    have h2 := hS3.out
    omega
  · exact G4.out.setc (by have h1 := G3.out.size; have h2 := hS3.out; omega)
end Go.Proofs.YtenehghpmnajpaaGreatDoor
/-! Contract of slices.Clone on ints. -/
set_option linter.unusedVariables false
set_option linter.unusedSimpArgs false
namespace Go.Proofs.YtenehghpmnajpaaGreatDoor
open Go.RowKit
open Classical
theorem clone_any (s : List Int) (aS : Option Addr) (cs : Nat) (w : World) (hs : SlOf 1 RI w aS s) (h0 : 0 < s.length) (hl : s.length ≤ 16) :
    Calls Tryz.prog 60 #[.slice aS s.length cs] w fun e w' => ∃ B c, e = .returned (.slice (some ⟨B, 0, none⟩) s.length c) ∧ NewI w s B w' := by
  obtain ⟨i0, hi, hz0, hz1, hz2⟩ := info_parts infoInt
  obtain ⟨bs, os, rfl, h00⟩ := hs 0 h0
  have CS := Lib.hid (slI_cells (b := bs) (o := os) (s := none) (vs := s) (w := w) hs)
  have gE : Gr w (w.alloc (.cells #[] 3)) := (Gr.refl _).alloc _
  have CS1 : Hid (∀ j u, (nums s)[j]? = some u → (w.alloc (.cells #[] 3)).cell? ((⟨bs, os, none⟩ : Addr).add j) = some u) := Lib.hid (fun j u hu => cell_gr gE (CS.out j u hu))
  have he : ∀ w : World, (binOp .eql 22 (.slice (some ⟨bs, os, none⟩) s.length cs) (.slice none 0 0)).run Tryz.prog w = .ok (.bool false) w := fun _ => rfl
  clear h00 hs gE CS
  go_enter Tryz.func60, Tryz.ntmps60
  go_wp2_with (first
    | (at_builtin; refine wpList_append_fresh _ rfl _ _ 22 rfl 3 i0 (.int .i64 0) 8 Tryz.underlying22 hi hz0 hz1 hz2 ⟨w.heap.size, 0, none⟩ ⟨bs, os, none⟩ s.length cs (nums s) rfl rfl (by rw [nums_len]) CS1.out (by omega) (by omega) (by omega) (w.heap.size + 1) (by simp) ?_; intro cap Z hcap
       have R2 := Lib.hid (row_fresh' (w.alloc (.cells #[] 3)).drew (nums s) Z 3 (w.heap.size + 1) (by simp [World.drew]))
       have G2 : Hid (Gr w ((w.alloc (.cells #[] 3)).drew.alloc (.cells ((nums s).toArray ++ Z) 3))) := Lib.hid (((Gr.refl _).alloc _).drew.alloc _)
       obtain ⟨N2, hN2⟩ : ∃ N2 : Nat, Hid (w.heap.size + 1 = N2) := ⟨_, Lib.hid rfl⟩
       rw [hN2.out] at R2 ⊢
       obtain ⟨W2, hW2⟩ : ∃ W2 : World, ((w.alloc (.cells #[] 3)).drew.alloc (.cells ((nums s).toArray ++ Z) 3)) = W2 := ⟨_, rfl⟩
       rw [hW2] at R2 G2 ⊢
       clear hW2)
    | fail)
  go_ret
  exact ⟨N2, cap, rfl, R2.out, by have := hN2.out; omega, G2.out⟩
end Go.Proofs.YtenehghpmnajpaaGreatDoor

set_option linter.unusedVariables false
set_option linter.unusedSimpArgs false
namespace Go.Proofs.YtenehghpmnajpaaGreatDoor
open Go.RowKit
open Classical
def RSet (w : World) (b o : Nat) (s : List Int) : Prop := ∃ a c, w.cell? ⟨b, o, none⟩ = some (.slice a s.length c) ∧ SlOf 1 RI w a s
theorem RSet.mono : Mono RSet := fun _ _ _ _ _ hg ⟨a, c, h, hs⟩ => ⟨a, c, cell_gr hg h, hs.giI hg⟩
def OsAt (base : Nat) (w : World) (os : List OT) : Prop := ∀ o ∈ os, RowS w o.B 3 (nums o.t) ∧ base ≤ o.B
theorem OsAt.gr {base : Nat} {w w' : World} {os : List OT} (h : OsAt base w os) (hg : Gr w w') : OsAt base w' os := fun o ho => ⟨(h o ho).1.gr hg, (h o ho).2⟩
theorem sets_at {w : World} {base : Nat} {a : Option Addr} {c : Nat} {os : List OT} {l : List Clk} (hc : cchk l = 0) (h : w.ownsRow base 22 1 (.slice a os.length c) os.length (os.map (encO l.length))) (ho : OsAt base w os) (hk : ∀ s ∈ os.map (·.t), SetOk l s) : SlOf 1 RSet w a (os.map (·.t)) := by
  intro k hk'
  have hk2 : k < os.length := by simpa using hk'
  obtain ⟨g, cap, e1, h1, _, hcell⟩ := owns_cell h (by omega)
  cases e1
  have hs := hk _ (List.getElem_mem hk')
  refine ⟨g, 0, rfl, ?_⟩
  simp only [List.getElem_map] at hs ⊢
  refine ⟨some ⟨os[k].B, 0, none⟩, os[k].c, ?_, (ho _ (List.getElem_mem hk2)).1.slI (setOk_wide hc hs)⟩
  rw [Nat.zero_add, hcell (k * 1) (by omega), Nat.mul_one, List.getElem?_map, List.getElem?_eq_getElem hk2, hs.1]
  rfl
theorem refNumber_any (l : List Clk) (s : List Int) (al aS : Option Addr) (cl cs : Nat) (w : World) (h : SlOf 5 RClk w al l) (hs : SlOf 1 RI w aS s) (hc : cchk l = 0) (hset : SetOk l s) :
    Calls Tryz.prog 91 #[.slice al l.length cl, .slice aS s.length cs] w (Grows w (.int .i64 (num l s))) := by
  obtain ⟨nb, _, _, _⟩ := cchk_zero hc
  have hl := small_len nb
  have hsl : s.length = l.length := hset.1
  have NB := Lib.hid nb
  have H := Lib.hid h
  have HS := Lib.hid hs
  have HC := Lib.hid hc
  have HT := Lib.hid hset
  clear h hs hc hset nb
  go_enter Tryz.func91, Tryz.ntmps91
  go_wp2_with fail
  go_loopw [5, 10] (fun n i wr => ∃ k : Nat, k ≤ l.length ∧ i = .int .i64 k ∧ n = .int .i64 (numU (kOf l) (sOf s) k) ∧ Gr w wr) (fun _ i _ => l.length - (intOf i).toNat)
  case atStart => exact ⟨0, Nat.zero_le _, rfl, rfl, Gr.refl _⟩
  case round =>
    obtain ⟨k, hk, rfl, rfl, hg⟩ := hrel
    have HG := Lib.hid hg
    by_cases hlt2 : k < l.length
    · have hlt : k < s.length := by omega
      have hx := numU_small HC.out HT.out (j := k) (by omega)
      have hx1 := numU_small HC.out HT.out (j := k + 1) (by omega)
      simp only [numU, sOf_at hlt, kOf_at hlt2] at hx1
      obtain ⟨x, ex⟩ : ∃ x, numU (kOf l) (sOf s) k = x := ⟨_, rfl⟩
      have hstep : Hid (numU (kOf l) (sOf s) (k + 1) = x * (l[k].choices.length : Int) + s[k]) := Lib.hid (by simp only [numU, sOf_at hlt, kOf_at hlt2, ex])
      rw [ex] at hx hx1 ⊢
      have hset := HT.out.2 k hlt2 hlt
      obtain ⟨fp, fc⟩ := small_at NB.out hlt2
      have hm : 0 ≤ x * (l[k].choices.length : Int) := Int.mul_nonneg hx.1 (by omega)
      have hm1 : x * (l[k].choices.length : Int) ≤ 4096 := by omega
      obtain ⟨bs, os, rfl, ⟨q1, _⟩⟩ := (HS.out.giI hg).one k hlt
      obtain ⟨b, o, rfl, ⟨d0, _⟩, ⟨ap, cp, d1, _⟩, ⟨ac, cc, d2, d2l, d2f, _⟩, ⟨d3, _⟩, ⟨d4, _⟩⟩ := clks_gr H.out hg k hlt2
      unfold Fit at d2f
      have k2 : (k : Int) < l.length := by omega
      have k3 : (k : Int) < s.length := by omega
      have qh := has_of_cell q1
      have dh := has_of_cell d0
      clear ex hg
      go_wp2_with fail
      go_quiet (fail)
      go_wp2_with fail
      go_roundw
      case rel => exact ⟨k + 1, by omega, by go_num, by rw [hstep.out], (HG.out.alloc _).drewN _⟩
      case measure => simp [intOf]; omega
    · obtain rfl : k = l.length := by omega
      clear hg
      go_wp2_with fail
      go_ret
      exact ⟨rfl, HG.out⟩
theorem refCount_any (l : List Clk) (al : Option Addr) (cl : Nat) (w : World) (h : SlOf 5 RClk w al l) (hc : cchk l = 0) :
    Calls Tryz.prog 90 #[.slice al l.length cl] w (Grows w (.int .i64 (prodC l : Nat))) := by
  obtain ⟨nb, ok, pr, fs⟩ := cchk_zero hc
  have hl := small_len nb
  have NB := Lib.hid nb
  have H := Lib.hid h
  have PR := Lib.hid pr
  have TK : Hid (∀ k, prodC (l.take k) ≤ prodC l) := Lib.hid (fun k => prodC_take_le (allOk_cho ok) k)
  clear h hc nb ok pr fs
  go_enter Tryz.func90, Tryz.ntmps90
  go_wp2_with fail
  go_loopw [3, 8] (fun n i wr => ∃ k : Nat, k ≤ l.length ∧ i = .int .i64 k ∧ n = .int .i64 (prodC (l.take k) : Nat) ∧ Gr w wr) (fun _ i _ => l.length - (intOf i).toNat)
  case atStart => exact ⟨0, Nat.zero_le _, rfl, rfl, Gr.refl _⟩
  case round =>
    obtain ⟨k, hk, rfl, rfl, hg⟩ := hrel
    have HG := Lib.hid hg
    by_cases hlt2 : k < l.length
    · have h1 := TK.out k
      have h2 := TK.out (k + 1)
      have h3 := PR.out
      have hstep := prodC_take l k hlt2
      obtain ⟨x, ex⟩ : ∃ x, prodC (l.take k) = x := ⟨_, rfl⟩
      rw [ex] at h1 hstep ⊢
      rw [hstep] at h2
      have HST := Lib.hid hstep
      have hm1 : ((x * l[k].choices.length : Nat) : Int) ≤ 4096 := by omega
      have hm0 : (0 : Int) ≤ ((x * l[k].choices.length : Nat) : Int) := by omega
      rw [Int.natCast_mul] at hm0 hm1
      have hx4 : x ≤ 4096 := by omega
      obtain ⟨fp, fc⟩ := small_at NB.out hlt2
      obtain ⟨b, o, rfl, ⟨d0, _⟩, ⟨ap, cp, d1, _⟩, ⟨ac, cc, d2, d2l, d2f, _⟩, ⟨d3, _⟩, ⟨d4, _⟩⟩ := clks_gr H.out hg k hlt2
      unfold Fit at d2f
      have k2 : (k : Int) < l.length := by omega
      have dh := has_of_cell d0
      clear ex hg hstep h1 h2 h3
      go_wp2_with fail
      go_roundw
      case rel => exact ⟨k + 1, by omega, by go_num, by rw [HST.out, Int.natCast_mul], HG.out.alloc _⟩
      case measure => simp [intOf]; omega
    · obtain rfl : k = l.length := by omega
      clear hg
      go_wp2_with fail
      go_ret
      exact ⟨by rw [List.take_length]; rfl, HG.out⟩
theorem refBegin3_any (l : List Clk) (ms : List Lmt) (f t : List Int) (al am af at' : Option Addr) (cl cm cf ct : Nat) (w : World) (henv : Env w l ms al am) (hf : SetOk l f) (ht : SetOk l t) (sf : SlOf 1 RI w af f) (st : SlOf 1 RI w at' t) (cf' : calS l ms f = true) (ct' : calS l ms t = true) :
    Calls Tryz.prog 89 #[.slice al l.length cl, .slice af f.length cf, .slice at' t.length ct, .slice am ms.length cm] w (Grows w (.int .i64 0)) := by
  have hnb := small_len (cchk_zero henv.chk).1
  have S0 : Hid (∀ W, Gr w W → Calls Tryz.prog 14 #[.slice al l.length cl] W (Grows W (.int .i64 0))) := Lib.hid fun W hW => by
    have := refCheck_any l al cl W (clks_gr henv.clks hW) (by unfold Fit; omega)
    rwa [henv.chk] at this
  have S1 := Lib.hid (fun W (hW : Gr w W) => refSetting_ok l f al af cl cf W (clks_gr henv.clks hW) (sf.giI hW) henv.chk hf)
  have S2 := Lib.hid (fun W (hW : Gr w W) => refSetting_ok l t al at' cl ct W (clks_gr henv.clks hW) (st.giI hW) henv.chk ht)
  have S3 := Lib.hid (fun W (hW : Gr w W) => refLimits_ok l ms al am cl cm W (clks_gr henv.clks hW) (lmts_gr henv.lmts hW) henv.chk henv.lims)
  have S4 := Lib.hid (fun W (hW : Gr w W) => refCalm1_any l ms f al af am cl cf cm W (clks_gr henv.clks hW) (sf.giI hW) (lmts_gr henv.lmts hW) henv.chk hf henv.lims)
  have S5 := Lib.hid (fun W (hW : Gr w W) => refCalm1_any l ms t al at' am cl ct cm W (clks_gr henv.clks hW) (st.giI hW) (lmts_gr henv.lmts hW) henv.chk ht henv.lims)
  rw [cf'] at S4
  rw [ct'] at S5
  clear henv hf ht sf st cf' ct'
  go_enter Tryz.func89, Tryz.ntmps89
  go_wp2_with fail
  refine (S0.out _ (Gr.refl _)).mono ?_
  rintro e w0 ⟨rfl, hg0⟩
  have G0 := Lib.hid hg0
  clear hg0
  go_wp2_with fail
  refine (S3.out _ G0.out).mono ?_
  rintro e w1 ⟨rfl, hg1⟩
  have G1 := Lib.hid (G0.out.trans hg1)
  clear hg1
  go_wp2_with fail
  refine (S1.out _ G1.out).mono ?_
  rintro e w2 ⟨rfl, hg2⟩
  have G2 := Lib.hid (G1.out.trans hg2)
  clear hg2
  go_wp2_with fail
  refine (S2.out _ G2.out).mono ?_
  rintro e w3 ⟨rfl, hg3⟩
  have G3 := Lib.hid (G2.out.trans hg3)
  clear hg3
  go_wp2_with fail
  refine (S4.out _ G3.out).mono ?_
  rintro e w4 ⟨rfl, hg4⟩
  have G4 := Lib.hid (G3.out.trans hg4)
  clear hg4
  go_wp2_with fail
  refine (S5.out _ G4.out).mono ?_
  rintro e w5 ⟨rfl, hg5⟩
  have G5 := Lib.hid (G4.out.trans hg5)
  clear hg5
  go_wp2_with fail
  go_ret
  exact ⟨rfl, G5.out⟩
noncomputable def inV (l : List Clk) (cs : List (List Int)) (n k : Nat) : List Bool := (List.range n).map fun (i : Nat) => decide (∃ s ∈ cs.take k, num l s = (i : Int))
section
variable {l : List Clk} {cal : List Int → Bool} {cs : List (List Int)} {n k : Nat} {f t : List Int}
theorem inV_len : (inV l cs n k).length = n := by simp [inV]
theorem inV_zero : inV l cs n 0 = List.replicate n false := by
  apply List.ext_getElem
  · simp [inV]
  · intro i h1 h2
    simp [inV]
theorem inV_at (i : Nat) (h : i < (inV l cs n k).length) : (inV l cs n k)[i] = decide (∃ s ∈ cs.take k, num l s = (i : Int)) := by simp [inV]
theorem inV_step (hk : k < cs.length) {m : Nat} (hm : num l cs[k] = (m : Int)) : (inV l cs n k).set m true = inV l cs n (k + 1) := by
  apply List.ext_getElem
  · simp [inV]
  · intro i h1 h2
    rw [List.getElem_set]
    have ht : cs.take (k + 1) = cs.take k ++ [cs[k]] := by rw [List.take_add_one, List.getElem?_eq_getElem hk]; rfl
    rw [inV_at i h2, ht]
    split
    · rename_i e
      subst e
      exact (decide_eq_true ⟨cs[k], List.mem_append_right _ (by simp), hm⟩).symm
    · rename_i e
      rw [inV_at i (by rw [inV_len]; rw [inV_len] at h2; exact h2)]
      rw [Bool.eq_iff_iff, decide_eq_true_iff, decide_eq_true_iff]
      constructor
      · rintro ⟨s, hs, q⟩; exact ⟨s, List.mem_append_left _ hs, q⟩
      · rintro ⟨s, hs, q⟩
        rcases List.mem_append.1 hs with hs | hs
        · exact ⟨s, hs, q⟩
        · have : s = cs[k] := by simpa using hs
          subst this
          rw [hm] at q
          exact absurd (Int.ofNat.inj q) e
theorem inV_all (ho : ListOk l cs) {s : List Int} (hs : SetOk l s) {m : Nat} (hm : num l s = (m : Int)) (h : m < (inV l cs n cs.length).length) : (inV l cs n cs.length)[m] = decide (s ∈ cs) := by
  rw [inV_at m h, List.take_length, Bool.eq_iff_iff, decide_eq_true_iff, decide_eq_true_iff]
  constructor
  · rintro ⟨u, hu, e⟩
    rw [← hm] at e
    rw [← num_inj (ho u hu) hs e]; exact hu
  · intro h; exact ⟨s, h, hm⟩
def badS (cal : List Int → Bool) (cs : List (List Int)) (s : List Int) (u v : Nat) : Prop := s.set u (v : Int) ∉ cs ∧ cal (s.set u (v : Int)) = true
theorem badS_not {s : List Int} {u v : Nat} (ho : ListOk l cs) (hs : s ∈ cs) (hu : u < l.length) (hv : (v : Int) < kOf l u) (h : badS cal cs s u v) : ¬ ClosedS l cal cs := by
  intro hc
  have hsl := (ho s hs).1
  have hne : (v : Int) ≠ sOf s u := by
    intro e
    have : s.set u (v : Int) = s := by rw [e, sOf_at (by omega)]; simp
    exact h.1 (by rw [this]; exact hs)
  exact h.1 (hc s hs _ (mem_nbS.2 ⟨u, v, hu, hv, hne, h.2, rfl⟩))
theorem closed_of (h : ∀ i (hi : i < cs.length), ∀ u v : Nat, u < l.length → (v : Int) < kOf l u → ¬ badS cal cs cs[i] u v) : ClosedS l cal cs := by
  intro s hs q hq
  obtain ⟨i, hi, rfl⟩ := List.mem_iff_getElem.1 hs
  obtain ⟨u, v, hu, hv, hne, hc, rfl⟩ := mem_nbS.1 hq
  exact Classical.byContradiction fun hn => h i hi u v hu hv ⟨hn, hc⟩
end
end Go.Proofs.YtenehghpmnajpaaGreatDoor


/-! Bounds of limits and of clocks, plain and in memory; contracts of tuning.broken and tuning.all. -/
set_option linter.unusedVariables false
set_option linter.unusedSimpArgs false
namespace Go.Proofs.YtenehghpmnajpaaGreatDoor
open Go.RowKit
open Classical
structure Bnd where
  index : Int
  clock : Int
  low : Int
  high : Int
  idle : Bool
def RBnd (w : World) (b o : Nat) (x : Bnd) : Prop := w.cell? ⟨b, o, none⟩ = some (.int .i64 x.index) ∧ w.cell? ⟨b, o + 1, none⟩ = some (.int .i64 x.clock) ∧ w.cell? ⟨b, o + 2, none⟩ = some (.int .i64 x.low) ∧ w.cell? ⟨b, o + 3, none⟩ = some (.int .i64 x.high) ∧ w.cell? ⟨b, o + 4, none⟩ = some (.bool x.idle)
def limB (j : Nat) (x : Lmt) : Bnd := ⟨j, x.clock, x.low, x.high, false⟩
def limsB (ms : List Lmt) : List Bnd := ms.mapIdx limB
noncomputable def ownOne (n i : Nat) (c : Clk) : List Bnd := if c.high = 0 then [] else [⟨((n + i : Nat) : Int), i, c.low, c.high, true⟩]
noncomputable def ownB (n : Nat) (l : List Clk) : List Bnd := (l.mapIdx (ownOne n)).flatten
noncomputable def allB (l : List Clk) (ms : List Lmt) : List Bnd := limsB ms ++ ownB ms.length l
def brokB (b : Bnd) (r : Rt) : Bool := match r with | none => !b.idle | some (n, d) => !withinB n d b.low b.high
noncomputable def meetS (l : List Clk) (ms : List Lmt) (s : List Int) : Bool := decide (∀ b ∈ allB l ms, brokB b (rtAt (rts l s) b.clock.toNat) = false)
end Go.Proofs.YtenehghpmnajpaaGreatDoor
/-! Plain: bits of what a setting breaks; visiting settings in order; what the loops of visit keep. -/
set_option linter.unusedVariables false
set_option linter.unusedSimpArgs false
namespace Go.Proofs.YtenehghpmnajpaaGreatDoor
open Go.RowKit
open Classical
/-! Settings in order -/
noncomputable def setN (l : List Clk) (n : Nat) : List Int := if h : ∃ s, SetOk l s ∧ num l s = (n : Int) then Classical.choose h else []
/-! What the loops keep -/
abbrev Lie (σ : Type) := σ → World → List Nat → Prop
structure LieOk {σ : Type} (I : Lie σ) : Prop where
  keep : ∀ st w w' L row, I st w L → w.grownBy w' row → (∀ b, row = some b → b ∈ L) → I st w' L
  sub : ∀ st w L L', I st w L → (∀ b ∈ L', b ∈ L) → I st w L'
structure VI {σ : Type} (I : Lie σ) (w0 w : World) (bs : List Bnd) (ab : Option Addr) (SB : Nat) (GL L0 : List Nat) (st : σ) (wr : World) (u : List Int) : Prop where
  row : Row wr SB 3 (nums u)
  lst : SlOf 5 RBnd wr ab bs
  lblk : ∀ x, 0 < bs.length → ab = some x → x.block ∈ GL
  has : ∀ b ∈ GL, Has wr b
  ne : SB ∉ GL
  st : I st wr (SB :: (GL ++ L0))
  gr : Gr w0 wr
  keep : ∀ b ∈ L0, wr.heap[b]? = w.heap[b]?
  size : w.heap.size ≤ wr.heap.size
section
variable {σ : Type} {I : Lie σ} {w0 w : World} {bs : List Bnd} {ab : Option Addr} {SB : Nat} {GL L0 : List Nat} {st : σ} {wr w' : World} {u : List Int}
end
end Go.Proofs.YtenehghpmnajpaaGreatDoor
/-! Contract of tuning.visit with Count's function, for whatever that does (printed by wip/tools/visit.py). -/
set_option linter.unusedVariables false
set_option linter.unusedSimpArgs false
namespace Go.Proofs.YtenehghpmnajpaaGreatDoor
open Go.RowKit
open Classical
end Go.Proofs.YtenehghpmnajpaaGreatDoor
/-! Contract of tuning.visit with Solve's function, for whatever that does (printed by wip/tools/visit.py). -/
set_option linter.unusedVariables false
set_option linter.unusedSimpArgs false
namespace Go.Proofs.YtenehghpmnajpaaGreatDoor
open Go.RowKit
open Classical
end Go.Proofs.YtenehghpmnajpaaGreatDoor


/-! Plain: partial settings, what they decide, what they break; the refutation that the program builds. No program in sight. -/
set_option linter.unusedVariables false
set_option linter.unusedSimpArgs false
namespace Go.Proofs.YtenehghpmnajpaaGreatDoor
open Go.RowKit
open Classical
def PrtOk (l : List Clk) (p : List Int) : Prop := p.length = l.length ∧ ∀ i, i < l.length → sOf p i = -1 ∨ (0 ≤ sOf p i ∧ sOf p i < kOf l i)
def ExtS (p s : List Int) : Prop := ∀ i, sOf p i ≠ -1 → sOf s i = sOf p i
inductive Dec
  | opn (f : Nat)
  | isr (r : Rt)
def dec (l : List Clk) (p : List Int) (i : Nat) : Dec :=
  match l[i]? with
  | none => .opn i
  | some c =>
    if sOf p i = -1 then .opn i
    else if c.kind = 1 then .isr (some (chC c (sOf p i), 1))
    else if h : (parC c (sOf p i)).toNat < i then
      match dec l p (parC c (sOf p i)).toNat with
      | .opn f => .opn f
      | .isr r => .isr (stepP c (chC c (sOf p i)) r)
    else .opn i
termination_by i
/-! What a partial setting breaks -/
def judgeGo (l : List Clk) (p : List Int) : List Bnd → Int → Int × Int
  | [], nx => (-1, nx)
  | b :: bs, nx =>
    match dec l p b.clock.toNat with
    | .isr r => if brokB b r = true then (b.index, 0) else judgeGo l p bs nx
    | .opn f => judgeGo l p bs (if nx < 0 then (f : Int) else nx)
noncomputable def judge (l : List Clk) (ms : List Lmt) (p : List Int) : Int × Int := judgeGo l p (allB l ms) (-1)
def NoExt (l : List Clk) (ms : List Lmt) (p : List Int) : Prop := ∀ s, SetOk l s → ExtS p s → meetS l ms s = false
/-! The refutation that the program builds -/
structure Brn where
  limit : Int
  clock : Int
  next : List Int
end Go.Proofs.YtenehghpmnajpaaGreatDoor
/-! Branches in memory: a refuter that collects them; lists of branches that are read. -/
set_option linter.unusedVariables false
set_option linter.unusedSimpArgs false
namespace Go.Proofs.YtenehghpmnajpaaGreatDoor
open Go.RowKit
open Classical
def encN (b : Brn × Option Addr × Nat) : List Value := [.int .i64 b.1.limit, .int .i64 b.1.clock, .slice b.2.1 b.1.next.length b.2.2]
def NextAt (base : Nat) (w : World) (xs : List (Brn × Option Addr × Nat)) : Prop := ∀ b ∈ xs, Own1 base w 3 (nums b.1.next) b.2.1 ∧ b.1.next.length ≤ b.2.2
structure RefAt (base : Nat) (w : World) (RB : Nat) (v1 v2 : Value) (A : Option Addr) (cap : Nat) (xs : List (Brn × Option Addr × Nat)) : Prop where
  row : Row w RB 110 [v1, v2, .slice A xs.length cap]
  own : w.ownsRow base 81 3 (.slice A xs.length cap) xs.length (xs.flatMap encN)
  nxt : NextAt base w xs
  low : base ≤ RB
def KeepI (w w' : World) : Prop := w.heap.size ≤ w'.heap.size ∧ ∀ B vs, Row w B 3 vs → Row w' B 3 vs
def NotIn (v : Value) (xs : List (Brn × Option Addr × Nat)) : Prop := ∀ b ∈ xs, ∀ B, b.1.next ≠ [] → b.2.1 = some ⟨B, 0, none⟩ → some B ≠ v.ownBlock
end Go.Proofs.YtenehghpmnajpaaGreatDoor
/-! Plain: what the reference's check of branches computes. No program in sight. -/
set_option linter.unusedVariables false
set_option linter.unusedSimpArgs false
namespace Go.Proofs.YtenehghpmnajpaaGreatDoor
open Go.RowKit
open Classical
abbrev Sets := List (Option (List Int))
end Go.Proofs.YtenehghpmnajpaaGreatDoor
/-! Plain: what the program's check of branches computes; the refutation that the program builds is accepted by both checks. No program in sight. -/
set_option linter.unusedVariables false
set_option linter.unusedSimpArgs false
namespace Go.Proofs.YtenehghpmnajpaaGreatDoor
open Go.RowKit
open Classical
def SegAt (b : List Brn) (a : Nat) (R : List Brn) : Prop := ∀ i (h : i < R.length), b[a + i]? = some R[i]
/-! What the program's check computes -/
/-! The reference's check -/
/-! What stands in the refutation is small -/
end Go.Proofs.YtenehghpmnajpaaGreatDoor


/-! Plain: partial settings with all gates open. Contract of the reference's decided. -/
set_option linter.unusedVariables false
set_option linter.unusedSimpArgs false
namespace Go.Proofs.YtenehghpmnajpaaGreatDoor
open Go.RowKit
open Classical
end Go.Proofs.YtenehghpmnajpaaGreatDoor
/-! Contract of the reference's decided (printed by wip/tools/decr.py). -/
set_option linter.unusedVariables false
set_option linter.unusedSimpArgs false
namespace Go.Proofs.YtenehghpmnajpaaGreatDoor
open Go.RowKit
open Classical
end Go.Proofs.YtenehghpmnajpaaGreatDoor
/-! Contract of tuning.decided. -/
set_option linter.unusedVariables false
set_option linter.unusedSimpArgs false
namespace Go.Proofs.YtenehghpmnajpaaGreatDoor
open Go.RowKit
open Classical
end Go.Proofs.YtenehghpmnajpaaGreatDoor


/-! Contracts of tuning.judge and tuning.start. -/
set_option linter.unusedVariables false
set_option linter.unusedSimpArgs false
namespace Go.Proofs.YtenehghpmnajpaaGreatDoor
open Go.RowKit
open Classical
end Go.Proofs.YtenehghpmnajpaaGreatDoor
/-! Contract of tuning.start. -/
set_option linter.unusedVariables false
set_option linter.unusedSimpArgs false
namespace Go.Proofs.YtenehghpmnajpaaGreatDoor
open Go.RowKit
open Classical
end Go.Proofs.YtenehghpmnajpaaGreatDoor
/-! Contracts of the reference's breaks and begin. -/
set_option linter.unusedVariables false
set_option linter.unusedSimpArgs false
namespace Go.Proofs.YtenehghpmnajpaaGreatDoor
open Go.RowKit
open Classical
end Go.Proofs.YtenehghpmnajpaaGreatDoor
/-! Lists of settings in memory, as the reference's check of branches keeps them; branches that are read. -/
set_option linter.unusedVariables false
set_option linter.unusedSimpArgs false
namespace Go.Proofs.YtenehghpmnajpaaGreatDoor
open Go.RowKit
open Classical
def RBrn (w : World) (b o : Nat) (x : Brn) : Prop := RI w b o x.limit ∧ RI w b (o + 1) x.clock ∧ RSl 1 RI w b (o + 2) x.next
def SlotOf (base : Nat) (w : World) (L : Nat) (v : Value) (o : Option (List Int)) : Prop := match o with | none => v = .slice none 0 0 | some s => ∃ B c, v = .slice (some ⟨B, 0, none⟩) L c ∧ base ≤ B ∧ RowS w B 3 (nums s)
def SetsAt (base : Nat) (w : World) (SG L : Nat) (S : Sets) : Prop := ∃ vs, Row w SG 22 vs ∧ vs.length = S.length ∧ (∀ k (h : k < vs.length) (h' : k < S.length), SlotOf base w L vs[k] S[k]) ∧ base ≤ SG
end Go.Proofs.YtenehghpmnajpaaGreatDoor

set_option linter.unusedVariables false
set_option linter.unusedSimpArgs false
namespace Go.Proofs.YtenehghpmnajpaaGreatDoor
open Go.RowKit
open Classical
end Go.Proofs.YtenehghpmnajpaaGreatDoor
