/- Contract of supply.used: a range over slices.Backward. -/
import Derived.Test.YtoenkcojfogmmaaPrgE
import Derived.Test.YtoenkcojfogmmaaTailIn
set_option linter.unusedVariables false
set_option linter.unusedSimpArgs false
namespace Go.Proofs.Ytoenkcojfogmmaa
open Go.RowKit Go.Shelf
open Classical
attribute [local go_sem] Oper.semAt_some

/-- The marks of the first m draws. -/
def Marks (l : List Sup) (d : List Drw) (m : Nat) (vs : List Bool) : Prop := vs.length = l.length ∧ ∀ j (h : j < vs.length), vs[j] = true ↔ Hit d j m
theorem Marks.start (l : List Sup) (d : List Drw) : Marks l d 0 (List.replicate l.length false) := ⟨by simp, fun j h => by simp [Hit]⟩
theorem Marks.step {l : List Sup} {d : List Drw} {m : Nat} {vs : List Bool} (h : Marks l d m vs) (hm : m < d.length) (s : Nat) (hs : d[m].supply = (s : Int)) : Marks l d (m + 1) (vs.set s true) := by
  refine ⟨by simpa using h.1, fun j hj => ?_⟩
  simp only [List.length_set] at hj
  have hj2 := h.2 j hj
  by_cases e : s = j
  · subst e
    simp only [List.getElem_set_self, true_iff]
    exact ⟨m, by omega, hm, hs⟩
  · rw [List.getElem_set_ne e, hj2]
    constructor
    · rintro ⟨k, h1, h2, h3⟩; exact ⟨k, by omega, h2, h3⟩
    · rintro ⟨k, h1, h2, h3⟩
      by_cases e2 : k = m
      · subst e2; omega
      · exact ⟨k, by omega, h2, h3⟩
theorem Marks.inv {l : List Sup} {d : List Drw} {vs : List Bool} (h : Marks l d d.length vs) : UInv l d (fun j => ∃ x ∈ d, x.supply = (j : Int)) l.length vs := by
  refine ⟨h.1, fun j hj => ⟨fun q => ?_, fun _ => ?_⟩⟩
  · have := h.1; omega
  · rw [h.2 j hj, hit_all]
    exact ⟨fun q => .inl q, fun q => q.elim id (fun ⟨c, h1, h2, _⟩ => by omega)⟩

theorem row_own {β : Type} (B T : Nat) (f : β → List Value) : Own (fun s W => Row W B T (f s)) := fun s X Y rw' hs hg hr => (grownBy_keeps_cells hg hr hs rfl).trans hs
/-- The cells of supplies, with the addresses of their levels named. -/
theorem sup_cells {w W : World} {ao : Option Addr} {l : List Sup} (h : SlOf 5 RSup w ao l) (hg : Gr w W) (b0 : Nat) (hb0 : b0 < W.heap.size) :
    ∃ b al cl, b < W.heap.size ∧ (0 < l.length → b < w.heap.size) ∧ (l.length = 0 ∨ ∃ o, ao = some ⟨b, o, none⟩ ∧ SupCells W b o l al cl) := by
  rcases Nat.eq_zero_or_pos l.length with e | e
  · exact ⟨b0, fun _ => none, fun _ => 0, hb0, fun q => by omega, .inl e⟩
  · obtain ⟨b, o, rfl, hall⟩ := h.all e
    have hbw : b < w.heap.size := has_of_cell (hall 0 e).1.1
    refine ⟨b, fun k => if hk : k < l.length then Classical.choose (hall k hk).2.1 else none, fun k => if hk : k < l.length then Classical.choose (Classical.choose_spec (hall k hk).2.1) else 0, Nat.lt_of_lt_of_le hbw hg.size, fun _ => hbw, .inr ⟨o, rfl, fun k hk => ?_⟩⟩
    have q := Classical.choose_spec (Classical.choose_spec (hall k hk).2.1)
    obtain ⟨c0, _, c2, c3, c4⟩ := hall k hk
    refine ⟨cell_gr hg c0.1, ?_, cell_gr hg c2.1, cell_gr hg c3.1, cell_gr hg c4⟩
    simp only [hk, dif_pos]
    exact cell_gr hg q.1
theorem downs_snoc {n k : Nat} {pre : List (Fin n)} {x : Fin n} (hk : k ≤ n) (h : pre ++ [x] = downs n k) : ∃ k0, k = k0 + 1 ∧ pre = downs n k0 ∧ x.1 = n - 1 - k0 ∧ k0 < n := by
  have hl := congrArg List.length h
  rw [downs_len n k hk] at hl
  simp at hl
  refine ⟨pre.length, by omega, ?_⟩
  rw [← hl, downs_succ n pre.length (by omega)] at h
  have := List.append_inj' h rfl
  refine ⟨this.1, ?_, by omega⟩
  have q := this.2
  simp only [List.cons.injEq, and_true] at q
  rw [q]
theorem used_round {l : List Sup} {d : List Drw} {i : Nat} {vs : List Bool} (h : UInv l d (fun j => ∃ x ∈ d, x.supply = (j : Int)) (i + 1) vs) (hi : i < l.length) (hv : i < vs.length) : (vs[i] || l[i].always) = true ↔ Used l d i := by
  have := (h.2 i hv).2 (by omega)
  rw [Bool.or_eq_true, this, used_here hi]
  constructor
  · rintro ((q | q) | q)
    · exact .inr (.inl q)
    · exact .inr (.inr q)
    · exact .inl q
  · rintro (q | q | q)
    · exact .inr q
    · exact .inl (.inl q)
    · exact .inl (.inr q)
/-- The cells of a supply. -/
def svs (l : List Sup) (al : Nat → Option Addr) (cl : Nat → Nat) (x : Fin l.length) : List Value := [.int .i64 l[x.1].parent, .slice (al x.1) l[x.1].levels.length (cl x.1), .int .i64 l[x.1].dropout, .int .i64 l[x.1].capacity, .bool l[x.1].always]

/-- Nothing but the cells of block B has changed. -/
structure Only (B : Nat) (W W' : World) : Prop where
  ko : KeepsOthers W W'
  blk : ∀ k, k ≠ B → W'.heap[k]? = W.heap[k]?
  os : W'.os = W.os
  tape : W'.tape = W.tape
  output : W'.output = W.output
theorem Only.drew {B : Nat} {W W' : World} (h : Only B W W') : Only B W W'.drew := ⟨h.ko.trans (KeepsOthers.drew _), h.blk, h.os, h.tape, h.output⟩
theorem Only.refl (B : Nat) (W : World) : Only B W W := ⟨KeepsOthers.refl W, fun _ _ => rfl, rfl, rfl, rfl⟩
theorem Only.set {B o : Nat} {v : Value} {W W' : World} (h : Only B W W') : Only B W (W'.setCell ⟨B, o, none⟩ v) :=
  ⟨h.ko.trans (KeepsOthers.setCell _ _ _), fun k hk => by rw [← h.blk k hk]; simp [World.setCell, Array.getElem?_modify, Ne.symm hk], h.os, h.tape, h.output⟩
theorem Only.keep2 {B b c : Nat} {W W' : World} (h : Only B W W') (hb : b ≠ B) (hc : c ≠ B) : Keep2 b c W W' := ⟨h.blk b hb, h.blk c hc⟩
theorem Only.below {B n : Nat} {w W W' : World} (h : Only B W W') (hw : Below n w W) (hn : n ≤ B) : Below n w W' :=
  ⟨h.os.trans hw.os, h.tape.trans hw.tape, h.output.trans hw.output, Nat.le_trans hw.size h.ko.size, fun k hk => (h.blk k (by omega)).trans (hw.block k hk)⟩
theorem Only.row {B C T : Nat} {vs : List Value} {W W' : World} (h : Only B W W') (hr : Row W C T vs) (hc : C ≠ B) : Row W' C T vs := (h.blk C hc).trans hr

set_option maxRecDepth 100000 in
set_option maxHeartbeats 4000000 in
theorem used_any (l : List Sup) (d : List Drw) (ao a1 : Option Addr) (cap c1 : Nat) (w : World) (h : SlOf 5 RSup w ao l) (hf : l.length ≤ 16) (hok : AllOk l) (h1 : SlOf 4 RDrw w a1 d) (f1 : d.length ≤ 32) (hd : ∀ k (hk : k < d.length), 0 ≤ d[k].supply ∧ d[k].supply < l.length) :
    Calls Try.prog 68 #[.slice ao l.length cap, .slice a1 d.length c1] w (GivesSl 1 RB w (usedL l d)) := by
  have H := Lib.hid h
  have H1 := Lib.hid h1
  have OK := Lib.hid hok
  have HD := Lib.hid hd
  clear h h1 hok hd
  have hmk := run_make_row' (P := Try.prog) 29 4 (.bool false) 1 Try.underlying29 infoBool rfl .i64 .i64 l.length (by omega) (by omega)
  refine (callsIn_wide (n := 3)).1 ?_
  refine callsIn_of_wp_marks Try.func68 rfl trivial ?_ rfl
  simp only [Try.ntmps68, List.size_toArray, List.length_cons, List.length_nil, Nat.reduceAdd, Nat.reduceSub, Array.replicate_succ, Array.replicate_zero, List.push_toArray, List.append_toArray, List.nil_append, List.cons_append]
  gi_wp2_with fail
  clear hmk
  gi_loopw [15] (fun i wr => ∃ m : Nat, m ≤ d.length ∧ i = .int .i64 m ∧ Gr w wr ∧ Row wr (w.heap.size + 1) 29 [.slice (some ⟨w.heap.size, 0, none⟩) l.length l.length] ∧ ∃ vs, Row wr w.heap.size 4 (bools vs) ∧ Marks l d m vs) (fun i _ => d.length - (intOf i).toNat)
  case atStart =>
    refine ⟨0, Nat.zero_le _, rfl, ((Gr.refl _).alloc _).alloc _, ?_, List.replicate l.length false, ?_, Marks.start l d⟩
    · have := Row.new (w.alloc (.cells (madeCells #[.bool false] l.length) 4)) #[.slice (some ⟨w.heap.size, 0, none⟩) l.length l.length] 29
      simp only [World.size_alloc] at this
      exact this
    · have := Row.new w (madeCells #[.bool false] l.length) 4
      rw [made_list] at this
      exact Row.alloc _ (by simpa [bools] using this)
  case round =>
    obtain ⟨m, hm, rfl, hg, hbox, vs, hrow, hinv⟩ := hrel
    have HG := Lib.hid hg
    have HR := Lib.hid hrow
    have HI := Lib.hid hinv
    have HB := Lib.hid hbox
    have b0 := hbox.cell 0 (by simp)
    have b1 := hbox.has
    have r2 := hrow.has
    simp only [List.getElem_cons_zero] at b0
    clear hg hrow hinv hbox
    by_cases hlt : m < d.length
    · obtain ⟨b, o, rfl, ⟨t0, _⟩, ⟨t1, _⟩, ⟨t2, _⟩, ⟨t3, _⟩⟩ := drws_gr H1.out HG.out m hlt
      have hdo := HD.out m hlt
      obtain ⟨sn, hsn⟩ := Int.eq_ofNat_of_zero_le hdo.1
      have SN := Lib.hid hsn
      rw [hsn] at t0
      have hsl : sn < l.length := by omega
      clear hsn hdo
      have hsv : sn < vs.length := by have := HI.out.1; omega
      have s0 := HR.out.bat sn hsv
      have s1 := HR.out.free sn
      have gl : (sn : Int) < l.length := by omega
      have gl0 : (0 : Int) ≤ sn := by omega
      gi_wp2_with fail
      go_roundw
      case rel =>
        refine ⟨m + 1, by omega, by go_num, ?_, ?_, vs.set sn true, ?_, HI.out.step hlt sn SN.out⟩
        · repeat (first | with_reducible exact HG.out | with_reducible refine Gr.setc (by omega) ?_ | with_reducible refine Gr.alloc _ ?_)
        · repeat (first | with_reducible exact HB.out | with_reducible refine Row.alloc _ ?_ | with_reducible refine Row.oth ?_ (by omega))
        · repeat (first | with_reducible exact HR.out.bset sn true | with_reducible refine Row.alloc _ ?_ | with_reducible refine Row.oth ?_ (by omega))
      case measure => simp [intOf]; omega
    · have hmd : m = d.length := by omega
      subst hmd
      have HI0 := Lib.hid HI.out.inv
      clear HI
      gi_wp2_with (refine ⟨trivial, ?_⟩; gi_at_call 78; refine (backward_in Fence.wide _ trivial rfl _ _ _ _).mono ?_; rintro e w' ⟨rfl, rfl⟩)
      obtain ⟨b, al, cl, hbS, hbw, hS⟩ := sup_cells H.out (HG.out.alloc (.cells #[.slice ao l.length cap] 25)) wr.heap.size (by simp)
      refine wpIn_rangeFunc_ownH rfl (by omega) (gf := 80) (lb := #[.pointer (some ⟨wr.heap.size, 0, none⟩)]) rfl trivial (enters_of Try.func80 (by kernel_rfl) rfl)
        (backward_stops Fence.wide _ trivial rfl (by omega) wr.heap.size b cap ao l al cl hf _ (by simp) hbS (by simp [go_sem]) hS) (fun h k => h.trans k) (keep2_b hbS (by simp)) (Below.refl _ _) (fun _ => rfl)
        (fun pre W => ((∃ vs, Row W w.heap.size 4 (bools vs) ∧ vs.length = l.length ∧ ∀ k, k ≤ l.length → pre = downs l.length k → UInv l d (fun j => ∃ x ∈ d, x.supply = (j : Int)) (l.length - k) vs) ∧ Row W (w.heap.size + 1) 29 [.slice (some ⟨w.heap.size, 0, none⟩) l.length l.length]) ∧ (Below w.heap.size w W ∧ wr.heap.size + 1 ≤ W.heap.size))
        (fun _ _ _ => False)
        (OwnFrom.and (Own.from (fun s X Y rw' hs hg hr => ⟨(by obtain ⟨vs, q1, q2⟩ := hs.1; exact ⟨vs, row_own (β := Unit) _ _ (fun _ => _) () X Y rw' q1 hg hr, q2⟩), row_own (β := Unit) _ _ (fun _ => _) () X Y rw' hs.2 hg hr⟩) _) (OwnFrom.and (ownFrom_below (Nat.le_refl _) (by have := HG.out.size; simp; omega)) (fun _ X Y rw' hs hg hr => Nat.le_trans hs hg.size)))
        (fun _ _ _ _ _ hs _ _ => hs.elim)
        ⟨⟨⟨vs, HR.out.alloc _, HI0.out.1, fun k hk e => ?_⟩, HB.out.alloc _⟩, (HG.out.alloc _).below, by simp⟩
        (fun x a' W => ∃ Bx, wr.heap.size < Bx ∧ Row W Bx 70 (svs l al cl x) ∧ a' = { tmps := #[.slice ao l.length cap, .slice a1 d.length c1, undef, undef, .slice none 0 0, .pointer (some ⟨w.heap.size + 1, 0, none⟩), undef, u7, .int .i64 (x.1 : Int), .pointer (some ⟨Bx, 0, none⟩), .slice ao l.length cap, .int .i64 l.length, .slice (some ⟨w.heap.size, 0, none⟩) l.length l.length, .slice a1 d.length c1, .int .i64 d.length, .int .i64 d.length, .bool false, u17, u18, u19, u20, u21, u22, u23, .slice ao l.length cap, .func (.func 80) #[] #[.pointer (some ⟨wr.heap.size, 0, none⟩)], .int .i64 (x.1 : Int), sv l al cl x, undef, undef, undef, undef, undef, undef, undef, undef, undef, undef, undef, undef, undef, undef, undef, undef, undef, undef, undef, undef, undef, undef, undef, undef, undef], defers := [] })
        (fun x a' s X Y rw' hs hg hr => by obtain ⟨Bx, q1, q2, q3⟩ := hs; exact ⟨Bx, q1, row_own (β := Unit) _ _ (fun _ => _) () X Y rw' q2 hg (fun r e => (hr r e).2), q3⟩) ?assign ?body ?done ?stop
      case assign =>
        rintro lp pre x W K hi hK
        obtain ⟨⟨⟨vs', hr', hl', hu'⟩, hb'⟩, hB', hs'⟩ := hi
        simp only [sv]
        gi_wp2
        refine hK _ _ ((KeepsOthers.alloc _ _).from _) ⟨Below.heap_alloc _ _ _ (by simp at hbS; omega), Below.heap_alloc _ _ _ (by omega)⟩ ⟨⟨⟨vs', hr'.alloc _, hl', hu'⟩, hb'.alloc _⟩, hB'.alloc hB'.size _, by simp; omega⟩ ⟨W.heap.size, by omega, Row.new W _ _, rfl⟩
      case body =>
        rintro lp pre x a' W hlp hrec ⟨⟨⟨vs', hr', hl', hu'⟩, hb'⟩, hB', hs'⟩ ⟨Bx, hBx, bX, rfl⟩ hlt'
        have hxl := x.2
        have hxv : x.1 < vs'.length := by omega
        have hbw' := hbw (by omega)
        have pr := OK.out x.1 hxl
        obtain ⟨_, ⟨pr1, pr2, _⟩, _⟩ := pr
        have HR' := Lib.hid hr'
        have HB1 := Lib.hid hb'
        have HU := Lib.hid hu'
        have BX := Lib.hid bX
        have BB := Lib.hid hB'
        have x0 := bX.cell 0 (by simp [svs])
        have x4 := bX.cell 4 (by simp [svs])
        have xh := bX.has
        have bb := hb'.cell 0 (by simp)
        have bh := hb'.has
        have v0 := hr'.bat x.1 hxv
        have v1 := hr'.free x.1
        have vh := hr'.has
        simp only [svs, List.getElem_cons_zero, List.getElem_cons_succ] at x0 x4 bb
        have g0 : (0 : Int) ≤ x.1 := by omega
        have g1 : (x.1 : Int) < l.length := by omega
        clear hr' hb' hu' bX hB'
        have hsz : w.heap.size + 1 < wr.heap.size := b1
        have hne : Bx ≠ w.heap.size := by omega
        have hne1 : w.heap.size + 1 ≠ w.heap.size := by omega
        have fin : ∀ (Bq : Nat) (vs2 : List Bool) (W' : World), Only w.heap.size W W' → Row W' w.heap.size 4 (bools vs2) → vs2.length = l.length → (∀ k0, k0 < l.length → x.1 = l.length - 1 - k0 → UInv l d (fun j => ∃ x ∈ d, x.supply = (j : Int)) (x.1 + 1) vs' → UInv l d (fun j => ∃ x ∈ d, x.supply = (j : Int)) x.1 vs2) →
            KeepsFrom Bq W W' ∧ Keep2 b wr.heap.size W W' ∧ ((∃ vs, Row W' w.heap.size 4 (bools vs) ∧ vs.length = l.length ∧ ∀ k, k ≤ l.length → pre ++ [x] = downs l.length k → UInv l d (fun j => ∃ x ∈ d, x.supply = (j : Int)) (l.length - k) vs) ∧ Row W' (w.heap.size + 1) 29 [.slice (some ⟨w.heap.size, 0, none⟩) l.length l.length]) ∧ (Below w.heap.size w W' ∧ wr.heap.size + 1 ≤ W'.heap.size) := by
          intro Bq vs2 W' ho hrow hlen hstep
          refine ⟨ho.ko.from _, ho.keep2 (by omega) (by omega), ⟨⟨vs2, hrow, hlen, fun k hk e => ?_⟩, ho.row HB1.out (by omega)⟩, ho.below BB.out (Nat.le_refl _), Nat.le_trans hs' ho.ko.size⟩
          obtain ⟨k0, rfl, e2, e3, e4⟩ := downs_snoc hk e
          have q := hstep k0 e4 e3 (by have := HU.out k0 (by omega) e2; rwa [show l.length - k0 = x.1 + 1 by omega] at this)
          rwa [show l.length - (k0 + 1) = x.1 by omega]
        have FIN := Lib.hid fin
        clear fin
        obtain ⟨bv, hbv⟩ : ∃ bv, (vs'[x.1] || l[x.1].always) = bv := ⟨_, rfl⟩
        have HBV := Lib.hid hbv
        have HUR : ∀ q : UInv l d (fun j => ∃ x ∈ d, x.supply = (j : Int)) (x.1 + 1) vs', bv = true ↔ Used l d x.1 := fun q => by rw [← HBV.out]; exact used_round q hxl hxv
        have HUR := Lib.hid HUR
        have v0' : ∀ v, ((W.setCell ⟨w.heap.size, x.1, none⟩ v).drew).cell? ⟨Bx, 0, none⟩ = some (.int .i64 l[x.1].parent) := fun v => by
          rw [cell_drew_own, World.cell?_setCell_other]
          · exact x0
          · simp [hne]
        rcases (by cases bv <;> cases hv : vs'[x.1] <;> cases ha : l[x.1].always <;> simp_all : (vs'[x.1] = true ∧ bv = true) ∨ (vs'[x.1] = false ∧ l[x.1].always = true ∧ bv = true) ∨ (vs'[x.1] = false ∧ l[x.1].always = false ∧ bv = false)) with ⟨hv, rfl⟩ | ⟨hv, ha, rfl⟩ | ⟨hv, ha, rfl⟩
        · rw [hv] at v0
          by_cases hp : 0 ≤ l[x.1].parent
          · obtain ⟨p, hpp⟩ := Int.eq_ofNat_of_zero_le hp
            have PP := Lib.hid hpp
            rw [hpp] at x0 v0' pr1 pr2
            clear hpp hp
            have hpx : p < x.1 := by omega
            have hpl : (p : Int) < l.length := by omega
            have hp0 : (0 : Int) ≤ p := by omega
            have vp := HR'.out.free p
            have vpc := HR'.out.bat p (by omega)
            have hpn : x.1 ≠ p := by omega
            gi_wp2_with fail
            refine wpIn_region_same_tail 11 (by kernel_rfl) (by kernel_rfl) (by kernel_rfl) ?_
            simp only [List.take_succ_cons, List.take_zero, List.drop_succ_cons, List.drop_zero]
            repeat (go_big_quiet_step (fail))
            refine wpQuiet_nil ?_
            gi_wp2_with fail
            exact FIN.out _ ((vs'.set x.1 true).set p true) _ (Only.refl _ _).set.set.drew (by with_reducible refine Row.drew ?_; with_reducible refine Row.bset ?_ _ _; exact HR'.out.bset x.1 true) (by simpa using hl') (fun k0 h1 h2 q => q.step1 hxl true (by simpa using HUR.out q) rfl p PP.out hpx)
          · have hp' : l[x.1].parent < 0 := by omega
            clear hp
            gi_wp2_with fail
            refine wpIn_region_same_tail 11 (by kernel_rfl) (by kernel_rfl) (by kernel_rfl) ?_
            simp only [List.take_succ_cons, List.take_zero, List.drop_succ_cons, List.drop_zero]
            repeat (go_big_quiet_step (fail))
            refine wpQuiet_nil ?_
            gi_wp2_with fail
            exact FIN.out _ (vs'.set x.1 true) _ (Only.refl _ _).set.drew (by with_reducible refine Row.drew ?_; exact HR'.out.bset x.1 true) (by simpa using hl') (fun k0 h1 h2 q => q.step0 hxl true (by simpa using HUR.out q) (by omega))
        · rw [hv] at v0
          rw [ha] at x4
          by_cases hp : 0 ≤ l[x.1].parent
          · obtain ⟨p, hpp⟩ := Int.eq_ofNat_of_zero_le hp
            have PP := Lib.hid hpp
            rw [hpp] at x0 v0' pr1 pr2
            clear hpp hp
            have hpx : p < x.1 := by omega
            have hpl : (p : Int) < l.length := by omega
            have hp0 : (0 : Int) ≤ p := by omega
            have vp := HR'.out.free p
            have vpc := HR'.out.bat p (by omega)
            have hpn : x.1 ≠ p := by omega
            gi_wp2_with fail
            refine wpIn_region_same_tail 11 (by kernel_rfl) (by kernel_rfl) (by kernel_rfl) ?_
            simp only [List.take_succ_cons, List.take_zero, List.drop_succ_cons, List.drop_zero]
            repeat (go_big_quiet_step (fail))
            refine wpQuiet_nil ?_
            gi_wp2_with fail
            exact FIN.out _ ((vs'.set x.1 true).set p true) _ (Only.refl _ _).set.set.drew (by with_reducible refine Row.drew ?_; with_reducible refine Row.bset ?_ _ _; exact HR'.out.bset x.1 true) (by simpa using hl') (fun k0 h1 h2 q => q.step1 hxl true (by simpa using HUR.out q) rfl p PP.out hpx)
          · have hp' : l[x.1].parent < 0 := by omega
            clear hp
            gi_wp2_with fail
            refine wpIn_region_same_tail 11 (by kernel_rfl) (by kernel_rfl) (by kernel_rfl) ?_
            simp only [List.take_succ_cons, List.take_zero, List.drop_succ_cons, List.drop_zero]
            repeat (go_big_quiet_step (fail))
            refine wpQuiet_nil ?_
            gi_wp2_with fail
            exact FIN.out _ (vs'.set x.1 true) _ (Only.refl _ _).set.drew (by with_reducible refine Row.drew ?_; exact HR'.out.bset x.1 true) (by simpa using hl') (fun k0 h1 h2 q => q.step0 hxl true (by simpa using HUR.out q) (by omega))
        · rw [hv] at v0
          rw [ha] at x4
          gi_wp2_with fail
          refine wpIn_region_same_tail 11 (by kernel_rfl) (by kernel_rfl) (by kernel_rfl) ?_
          simp only [List.take_succ_cons, List.take_zero, List.drop_succ_cons, List.drop_zero]
          repeat (go_big_quiet_step (fail))
          refine wpQuiet_nil ?_
          gi_wp2_with fail
          exact FIN.out _ (vs'.set x.1 false) _ (Only.refl _ _).set.drew (by with_reducible refine Row.drew ?_; exact HR'.out.bset x.1 false) (by simpa using hl') (fun k0 h1 h2 q => q.step0 hxl false (by simpa using HUR.out q) (by simp))
      case done =>
        rintro D ys W hD rfl ⟨⟨⟨vs', hr', hl', hu'⟩, hb'⟩, hB', hs'⟩ hK
        have hu := hu' l.length (Nat.le_refl _) rfl
        rw [Nat.sub_self] at hu
        have hvs := hu.done
        subst hvs
        have HR' := Lib.hid hr'
        have HB1 := Lib.hid hb'
        have bb := hb'.cell 0 (by simp)
        have bh := hb'.has
        simp only [List.getElem_cons_zero] at bb
        clear hr' hb' hu' hu
        gi_wp2_with fail
        refine ⟨by simp, .inl ⟨_, _, rfl, run_takeDeferred hK, ?_⟩⟩
        have hB2 := hB'.trans (belowK_b (w := w) (Nat.le_refl _) W D (.deferred (some [])) (.deferred none) (by have := HG.out.size; simp at hD; omega) hK rfl rfl)
        have hrw := row_own (β := Unit) w.heap.size 4 (fun _ => bools (usedL l d)) () W (W.putObj D (.deferred none)) (some D) HR'.out (grownBy_putObj' _ D (.deferred none)) (fun r e => by cases e; exact ⟨_, hK, rfl⟩)
        refine ⟨_, results_tmp rfl _ _ _, some ⟨w.heap.size, 0, none⟩, l.length, ?_, by rw [usedL_len]; exact Nat.le_refl _, by rw [usedL_len]; unfold Fit; omega, ?_, .of_below hB2⟩
        · rw [usedL_len]; rfl
        · exact hrw.slB
      case stop => exact fun D c pre W _ _ h _ => h.elim
      have := congrArg List.length e
      rw [downs_len _ _ hk] at this
      simp at this
      subst this
      exact HI0.out
end Go.Proofs.Ytoenkcojfogmmaa
