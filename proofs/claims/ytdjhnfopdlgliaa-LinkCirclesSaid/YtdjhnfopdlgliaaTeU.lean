/- link.Order. -/
import Derived.Test.YtdjhnfopdlgliaaTeT
import Derived.Deep.LoopGhost
import Derived.WalkMore
set_option linter.unusedVariables false
set_option linter.unusedSimpArgs false
namespace Go.Proofs.Ytdjhnfopdlgliaa
open Go.RowKit
open Classical

theorem infoBool : (Try.prog.info? 4).map (fun i => (i.zero, i.size, i.bytes)) = some (some (.bool false), 1, 1) := by kernel_rfl
/-- What link.Order and link.Circle give. -/
def GivesI (w : World) (r : Except Int (List Int)) (e : Ending) (w' : World) : Prop :=
  match r with
  | .error k => e = .returned (.tuple #[.slice none 0 0, .int .i64 k]) ∧ Gr w w'
  | .ok o => ∃ v, e = .returned (.tuple #[v, .int .i64 0]) ∧ w'.ownsRow w.heap.size 3 1 v o.length (nums o) ∧ (∀ z ∈ o, Wide z) ∧ Gr w w'
theorem graphT_err {ts : Tr} {pn cn : St} {er : Int} (h : graphT ts pn cn = .error er) : er = 25 ∨ er = 26 := by
  have hz : allT ts pn cn ts.length = .error er := by
    unfold graphT at h
    split at h
    · rename_i e he; injection h with h; subst h; exact he
    · cases h
  have : ∀ k, allT ts pn cn k = .error er → er = 25 ∨ er = 26 := by
    intro k
    induction k with
    | zero => intro q; cases q
    | succ k ih =>
      intro q
      rw [allT] at q
      split at q
      · rename_i e' he'
        injection q with q; subst q
        exact ih he'
      · split at q
        · rename_i e' he'
          injection q with q; subst q
          exact ofT_err he'
        · cases q
  exact this _ hz
theorem graph_row {ts : Tr} (hg : GoodT ts) {pn cn : St} {gs : List (List Int)} (h : graphT ts pn cn = .ok gs) : ∀ g ∈ gs, g.length ≤ 7680 := by
  unfold graphT at h
  split at h
  · cases h
  · rename_i ls hl
    injection h with h
    subst h
    intro g hg2
    obtain ⟨r, hr, rfl⟩ := List.mem_map.1 hg2
    obtain ⟨i, hi, rfl⟩ := List.getElem_of_mem hr
    have h1 := compact_le (srt (rawG ts.length ls)[i])
    rw [srt_len] at h1
    have h2 := rawG_row ts.length ls i hi
    have h3 := allT_len hg ts.length (Nat.le_refl _) ls hl
    have h4 := hg.len.2
    unfold normG
    omega
theorem next_some {g : List (List Int)} {done : List Bool} {k : Nat} (hk : k < g.length) (h : readyI g done k = true) (hb : ∀ j, j < k → readyI g done j = false) : nextI g done = some k := by
  unfold nextI
  rw [List.find?_eq_some_iff_getElem]
  exact ⟨h, k, by simpa using hk, by simp, fun j hj => by simp [hb j hj]⟩
theorem next_none {g : List (List Int)} {done : List Bool} (hb : ∀ j, j < g.length → readyI g done j = false) : nextI g done = none := by
  unfold nextI
  rw [List.find?_eq_none]
  intro x hx
  simp [hb x (List.mem_range.1 hx)]
theorem GAt.stc {base : Nat} {w : World} {GB B o T : Nat} {vs : List Value} {gs : List (List Int)} {u : Value} (h : GAt base w GB vs gs) (hB : Ty w B T) (h1 : 3 ≠ T) (h2 : T ≠ 38) : GAt base (w.setCell ⟨B, o, none⟩ u) GB vs gs :=
  ⟨h.len, h.row.oth (hB.apart h.row.ty h2), fun i v g q1 q2 => owns_stc (h.own i v g q1 q2) (owns_ne_ty (h.own i v g q1 q2) hB h1), h.ap⟩
theorem GAt.kept {base : Nat} {w w' : World} {GB : Nat} {vs : List Value} {gs : List (List Int)} {row : Option Nat} (h : GAt base w GB vs gs) (hg : w.grownBy w' row) (h1 : some GB ≠ row) (h2 : ∀ (i : Nat) (v : Value), vs[i]? = some v → v.ownBlock = none ∨ v.ownBlock ≠ row) : GAt base w' GB vs gs :=
  ⟨h.len, h.row.kept hg h1, fun i v g q1 q2 => (h.own i v g q1 q2).kept hg (h2 i v q1), h.ap⟩
theorem GAt.below {base : Nat} {w : World} {GB : Nat} {vs : List Value} {gs : List (List Int)} (h : GAt base w GB vs gs) : ∀ (i : Nat) (v : Value) (k : Nat), vs[i]? = some v → v.ownBlock = some k → k < w.heap.size := fun i v k hv hk => by
  have hi : i < gs.length := by rw [← h.len]; exact (List.getElem?_eq_some_iff.1 hv).1
  exact ((h.own i v gs[i] hv (List.getElem?_eq_getElem hi)).lt k hk).2
set_option maxRecDepth 100000 in
set_option maxHeartbeats 8000000 in
theorem order_any (ts : Tr) (a : Option Addr) (cap : Nat) (pn cn : St) (w : World) (h : SlOf 3 RNod w a ts) (hc : chkT ts = 0) :
    Calls Try.prog 9 #[.agg #[.slice a ts.length cap], .string (bs pn), .string (bs cn)] w (GivesI w (orderT ts pn cn)) := by
  have H := Lib.hid h
  have C := Lib.hid hc
  have h120 := (good_of hc).len.2
  obtain ⟨i0, hi, hz0, hz1, hz2⟩ := info_parts infoInt
  clear h hc
  go_enter Try.func9, Try.ntmps9
  go_wp2_with fail
  go_step3
  go_wp2_with fail
  refine (graph_any ts a cap pn cn _ (H.out.gr RNod.mono ((Gr.refl _).alloc _)) C.out).mono ?_
  intro e w1 hgv
  cases hz : graphT ts pn cn with
  | error er =>
    rw [hz] at hgv
    have er2 : Hid (orderT ts pn cn = .error er) := Lib.hid (by unfold orderT; rw [hz])
    have eb : (er != 0) = true := by rw [bne_iff_ne]; have := graphT_err hz; omega
    obtain ⟨rfl, hg⟩ := hgv
    have G2 : Hid (Gr w w1) := Lib.hid (((Gr.refl _).alloc _).trans hg)
    clear hg hz
    go_wp2_with fail
    refine bodyPost_ret (v := .tuple #[.slice none 0 0, .int .i64 er]) (by simp [results, Try.results9, go_sem]) rfl ?_
    rw [er2.out]
    exact ⟨rfl, G2.out⟩
  | ok gs =>
    rw [hz] at hgv
    have OE : Hid (orderT ts pn cn = orderF gs gs.length (List.replicate gs.length false) []) := Lib.hid (by unfold orderT; rw [hz])
    have IG := Lib.hid (graph_in hz)
    have RW := Lib.hid (graph_row (good_of C.out) hz)
    have gl : gs.length ≤ 120 := by rw [(graph_in hz).2]; exact h120
    obtain ⟨GB, vs, rfl, hga, hgb, hg⟩ := hgv
    have hmk := run_make_row' (P := Try.prog) 53 4 (.bool false) 1 Try.underlying53 infoBool rfl .i64 .i64 gs.length (by omega) (by omega)
    have G2 : Hid (Gr w w1) := Lib.hid (((Gr.refl _).alloc _).trans hg)
    have GA : Hid (GAt w.heap.size w1 GB vs gs) := Lib.hid ⟨hga.len, hga.row, fun i v g h1 h2 => owns_low (hga.own i v g h1 h2) ((Gr.refl w).alloc _).size, hga.ap⟩
    have VB : Hid (∀ (i : Nat) (v : Value) (k : Nat), vs[i]? = some v → v.ownBlock = some k → k < w1.heap.size) := Lib.hid GA.out.below
    have HGB : Hid (w.heap.size ≤ GB) := Lib.hid (Nat.le_trans ((Gr.refl w).alloc (.cells #[.slice a ts.length cap] 32)).size hgb)
    clear hg hz hga hgb
    go_wp2_with fail
    (try go_step3)
    (try go_wp2_with fail)
    have RD := Lib.hid (Row.new w1 (madeCells #[.bool false] gs.length) 4)
    obtain ⟨W2, hW2⟩ : ∃ W : World, Hid (W = w1.alloc (.cells (madeCells #[.bool false] gs.length) 4)) := ⟨_, Lib.hid rfl⟩
    have z2 : Hid (W2.heap.size = w1.heap.size + 1) := Lib.hid (by rw [hW2.out]; simp)
    rw [← hW2.out, made_one, show List.replicate gs.length (Value.bool false) = bools (List.replicate gs.length false) by simp [bools]] at RD
    have RQ := Lib.hid (Row.new W2 #[.slice (some ⟨w1.heap.size, 0, none⟩) gs.length gs.length] 53)
    obtain ⟨W3, hW3⟩ : ∃ W : World, Hid (W = W2.alloc (.cells #[.slice (some ⟨w1.heap.size, 0, none⟩) gs.length gs.length] 53)) := ⟨_, Lib.hid rfl⟩
    rw [← hW3.out, z2.out] at RQ
    have G23 : Hid (Gr W2 W3) := Lib.hid (by rw [hW3.out]; exact (Gr.refl _).alloc _)
    have G12 : Hid (Gr w1 W2) := Lib.hid (by rw [hW2.out]; exact (Gr.refl _).alloc _)
    rw [← hW2.out, ← hW3.out]
    have RD3 := Lib.hid (RD.out.gr G23.out)
    have GA3 := Lib.hid (GA.out.gr (G12.out.trans G23.out))
    have G3 := Lib.hid (G2.out.trans (G12.out.trans G23.out))
    have sb := Lib.hid (show w.heap.size ≤ w1.heap.size from G2.out.size)
    obtain ⟨Q0, hQ0⟩ : ∃ N : Nat, Hid (w1.heap.size + 1 = N) := ⟨_, Lib.hid rfl⟩
    rw [hQ0.out] at RQ ⊢
    obtain ⟨DB, hDB⟩ : ∃ N : Nat, Hid (w1.heap.size = N) := ⟨_, Lib.hid rfl⟩
    rw [hDB.out] at RQ RD3 sb VB ⊢
    have dq := Lib.hid (show DB ≠ Q0 from RD3.out.ty.apart RQ.out.ty (by decide))
    clear RD G12 G23 GA G2 hW2 hW3 z2 hQ0 hDB hmk
    go_loopg [10] gs.length (fun g v wr => ∃ (done : List Bool) (out : List Int), out.length + g = gs.length ∧ done.length = gs.length ∧ orderT ts pn cn = orderF gs g done out ∧ (∀ z ∈ out, Wide z) ∧ wr.ownsRow DB 3 1 v out.length (nums out) ∧ Row wr DB 4 (bools done) ∧ Row wr Q0 53 [.slice (some ⟨DB, 0, none⟩) gs.length gs.length] ∧ GAt w.heap.size wr GB vs gs ∧ Gr w wr)
    case atStart => exact ⟨List.replicate gs.length false, [], by simp, by simp, OE.out, fun z h => by simp at h, World.ownsRow_nil _ _ _ _, RD3.out, RQ.out, GA3.out, G3.out⟩
    case round =>
      clear RD3 RQ GA3 G3 OE
      obtain ⟨done, out, hog, hdl, hor, hwd, how, hrd, hrq, hga, hg⟩ := hrel
      obtain ⟨va, vc, rfl⟩ := owns_slice how
      have OG := Lib.hid hog
      have DL := Lib.hid hdl
      have OR := Lib.hid hor
      have WD := Lib.hid hwd
      have OW := Lib.hid how
      have RD := Lib.hid hrd
      have RQ := Lib.hid hrq
      have GA := Lib.hid hga
      have HG := Lib.hid hg
      have ol : out.length ≤ 120 := by omega
      clear hog hdl hor hwd how hrd hrq hga hg
      by_cases hgk : gk = 0
      · subst hgk
        have e1 : out.length = gs.length := by have := OG.out; omega
        have kb : decide (out.length < gs.length) = false := by simp; omega
        have R : Hid (orderT ts pn cn = .ok out) := Lib.hid (by rw [OR.out]; rfl)
        clear e1
        go_wp2_with fail
        (try rw [Exit.noGoto_ret])
        refine bodyPost_ret (v := .tuple #[.slice va out.length vc, .int .i64 0]) (by simp [results, Try.results9, go_sem]) rfl ?_
        rw [R.out]
        exact ⟨_, rfl, owns_low OW.out sb.out, WD.out, HG.out⟩
      · have kb : decide (out.length < gs.length) = true := by have := OG.out; simp; omega
        obtain ⟨g1, hg1⟩ : ∃ g1, gk = g1 + 1 := ⟨gk - 1, by omega⟩
        have HG1 := Lib.hid hg1
        have OR2 : Hid (orderT ts pn cn = match nextI gs done with | none => .error 10 | some i => orderF gs g1 (done.set i true) (out ++ [(i : Int)])) := Lib.hid (by rw [OR.out, hg1]; rfl)
        clear hg1 hgk
        obtain ⟨w5, hw5⟩ : ∃ W, W = wr := ⟨_, rfl⟩
        rw [← hw5] at OW RD RQ GA HG
        go_wp2_with fail
        go_loopg [10, 33] gs.length (fun g v i wr => ∃ k : Nat, k + g = gs.length ∧ v = .slice va out.length vc ∧ i = .int .i64 k ∧ (∀ j, j < k → readyI gs done j = false) ∧ Gr w5 wr)
        case atStart => exact ⟨0, by omega, rfl, rfl, fun j h => absurd h (by omega), by rw [hw5]; exact Gr.refl _⟩
        case round =>
          clear hw5
          obtain ⟨k, hkg, rfl, rfl, hal, hg⟩ := hrel
          have KG := Lib.hid hkg
          have HA := Lib.hid hal
          have HJ := Lib.hid hg
          have kle : k ≤ gs.length := by omega
          clear hkg hal
          by_cases hlt : k < gs.length
          · have kl2 : (k : Int) < gs.length := by omega
            have kd : k < done.length := by rw [DL.out]; exact hlt
            have q0 : wr.cell? ⟨Q0, 0, none⟩ = some (.slice (some ⟨DB, 0, none⟩) gs.length gs.length) := (RQ.out.gr hg).cell 0 (by simp)
            have dk := (RD.out.gr hg).bat k kd
            have hh := has_of_cell q0
            have hh2 := has_of_cell dk
            obtain ⟨b, hb⟩ : ∃ b, done[k] = b := ⟨_, rfl⟩
            have HB := Lib.hid hb
            rw [hb] at dk
            clear hb hg
            cases b with
            | true =>
              have NR : Hid (readyI gs done k = false) := Lib.hid (by unfold readyI; rw [List.getD_eq_getElem?_getD, List.getElem?_eq_getElem kd, Option.getD_some, HB.out]; rfl)
              go_wp2_with fail
              go_roundg (gs.length - (k + 1))
              case measure => have := KG.out; omega
              case rel =>
                refine ⟨k + 1, by omega, rfl, by go_num, fun j hj => ?_, HJ.out⟩
                by_cases e : j = k
                · subst e; exact NR.out
                · exact HA.out j (by omega)
            | false =>
              obtain ⟨ra, rc, hvi, hro⟩ := (GA.out.gr HJ.out).at hlt
              obtain ⟨g, hgk⟩ : ∃ g, g = gs[k] := ⟨_, rfl⟩
              have HGK := Lib.hid hgk
              rw [← hgk] at hvi hro
              have hin : ∀ y ∈ g, ∃ j : Nat, y = j ∧ j < done.length := by
                rw [DL.out, IG.out.2]
                exact IG.out.1 g (by rw [hgk]; exact List.getElem_mem hlt)
              have hil : k < vs.length := (List.getElem?_eq_some_iff.1 hvi).1
              have gk0 : wr.cell? ⟨GB, k, none⟩ = some (.slice ra g.length rc) := by rw [(GA.out.gr HJ.out).row.cell k hil]; exact congrArg some (List.getElem?_eq_some_iff.1 hvi).2
              have hh3 := has_of_cell gk0
              have hgw : ∀ z ∈ g, Wide z := fun z hz => by obtain ⟨j, rfl, hj⟩ := hin z hz; have := DL.out; unfold Wide; omega
              obtain ⟨ra', rc', e', _, hsl⟩ := ints_at hro hgw
              cases e'
              have hgl : g.length ≤ 1000000 := by have := RW.out g (by rw [hgk]; exact List.getElem_mem hlt); omega
              have DLE := DL.out
              have HC := Lib.hid (conI_any g done ra rc Q0 DB wr hsl hgl hin (by rw [DLE]; exact q0) (RD.out.gr HJ.out))
              clear hgk hvi hro hin hil hgw hsl DLE hgl
              by_cases hv : g.any (notDone done) = true
              · rw [hv] at HC
                have NR : Hid (readyI gs done k = false) := Lib.hid (by unfold readyI; rw [List.getD_eq_getElem?_getD, List.getD_eq_getElem?_getD, List.getElem?_eq_getElem hlt, Option.getD_some, ← HGK.out, hv]; simp)
                clear hv
                go_wp2_with (go_at_call 15; refine HC.out.mono ?_; rintro e w' ⟨rfl, O, d, rfl⟩)
                go_roundg (gs.length - (k + 1))
                case measure => have := KG.out; omega
                case rel =>
                  refine ⟨k + 1, by omega, rfl, by go_num, fun j hj => ?_, HJ.out.xt _ _⟩
                  by_cases e : j = k
                  · subst e; exact NR.out
                  · exact HA.out j (by omega)
              · rw [Bool.not_eq_true] at hv
                rw [hv] at HC
                have NX : Hid (nextI gs done = some k) := Lib.hid (next_some hlt (by unfold readyI; rw [List.getD_eq_getElem?_getD, List.getD_eq_getElem?_getD, List.getElem?_eq_getElem hlt, List.getElem?_eq_getElem (by rw [DL.out]; exact hlt), Option.getD_some, Option.getD_some, ← HGK.out, hv, HB.out]; rfl) HA.out)
                clear hv
                go_wp2_with (first
                  | (go_at_call 15; refine HC.out.mono ?_; rintro e w6 ⟨rfl, hg6⟩; have G6 := Lib.hid (HJ.out.trans hg6); have q6 : w6.cell? ⟨Q0, 0, none⟩ = some (.slice (some ⟨DB, 0, none⟩) gs.length gs.length) := (RQ.out.gr G6.out).cell 0 (by simp); have dk6 : w6.cell? ⟨DB, k, none⟩ = some (.bool false) := (by have := (RD.out.gr G6.out).bat k kd; rwa [HB.out] at this); have df6 := (RD.out.gr G6.out).free k; have hh6 := has_of_cell q6; have hh7 := has_of_cell dk6; have R6 := Lib.hid (RD.out.gr G6.out); have OWX := Lib.hid ((owns_stc (o := k) (u := .bool true) (Gr.owns OW.out G6.out) (owns_ne_ty (Gr.owns OW.out G6.out) R6.out.ty (by decide))).alloc (.cells #[.int .i64 k] 3)); have NR := Lib.hid (row_cells (Row.new (w6.setCell ⟨DB, k, none⟩ (.bool true)) #[.int .i64 k] 3)); have SZ := Lib.hid (size_set w6 ⟨DB, k, none⟩ (.bool true)); rw [SZ.out] at NR; clear hg6)
                  | (at_builtin; refine wpList_append_own _ rfl _ _ 38 rfl DB 3 i0 (.int .i64 0) 1 8 Try.underlying38 hi hz0 hz1 hz2 rfl (by decide) (.slice va out.length vc) out.length (nums out) rfl OWX.out ⟨w6.heap.size, 0, none⟩ 1 1 [.int .i64 k] rfl rfl NR.out (by intro u hu; simp at hu; rw [hu]; rfl) (by unfold maxLen; omega) (by omega) (by have := R6.out.has; unfold Has at this; simp [World.setCell]; omega) ?_; intro v' wz hown' hgrow hnil; have HOz := Lib.hid hown'; have HGz := Lib.hid hgrow; clear hown' hgrow hnil))
                go_roundg g1
                case measure => have := HG1.out; omega
                case rel =>
                  have ga : Gr (w6.setCell ⟨DB, k, none⟩ (.bool true)) ((w6.setCell ⟨DB, k, none⟩ (.bool true)).alloc (.cells #[.int .i64 k] 3)) := (Gr.refl _).alloc _
                  have RDX := (R6.out.bset k true).gr ga
                  have RQX := ((RQ.out.gr G6.out).oth (v := .bool true) (o := k) dq.out).gr ga
                  have GAX := ((GA.out.gr G6.out).stc (o := k) (u := .bool true) R6.out.ty (by decide) (by decide)).gr ga
                  have HGX : Gr w ((w6.setCell ⟨DB, k, none⟩ (.bool true)).alloc (.cells #[.int .i64 k] 3)) := ((HG.out.trans G6.out).setc sb.out).alloc _
                  refine ⟨done.set k true, out ++ [(k : Int)], by rw [List.length_append]; have := OG.out; have := HG1.out; simp only [List.length_cons, List.length_nil]; omega, by rw [List.length_set]; exact DL.out, by rw [OR2.out, NX.out], ?_, ?_, RDX.kept HGz.out (RDX.ty.ne OWX.out (by decide)), RQX.kept HGz.out (RQX.ty.ne OWX.out (by decide)), GAX.kept HGz.out (GAX.row.ty.ne OWX.out (by decide)) (fun i v hv => ?_), HGX.grown HGz.out (fun j e => Nat.le_trans sb.out (OWX.out.lt j e).1)⟩
                  · intro z hz
                    rcases List.mem_append.1 hz with q | q
                    · exact WD.out z q
                    · rw [List.mem_singleton.1 q]; unfold Wide; omega
                  · have := HOz.out
                    rw [List.length_append]
                    simpa [nums] using this
                  · cases hz : v.ownBlock with
                    | none => exact .inl rfl
                    | some m =>
                      refine .inr fun e => ?_
                      have h1 := VB.out i v m hv hz
                      have h2 := (OWX.out.lt m e.symm).1
                      omega
          · have R : Hid (orderT ts pn cn = .error 10) := Lib.hid (by rw [OR2.out, next_none (fun j hj => HA.out j (by omega))])
            go_wp2_with fail
            (try rw [Exit.noGoto_ret])
            refine bodyPost_ret (v := .tuple #[.slice none 0 0, .int .i64 10]) (by simp [results, Try.results9, go_sem]) rfl ?_
            rw [R.out]
            exact ⟨rfl, HG.out.trans HJ.out⟩
end Go.Proofs.Ytdjhnfopdlgliaa
