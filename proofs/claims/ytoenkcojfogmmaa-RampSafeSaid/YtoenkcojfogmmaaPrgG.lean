/- Contract of supply.loads: a range over slices.Backward. -/
import Derived.Test.YtoenkcojfogmmaaPrgF
set_option linter.unusedVariables false
set_option linter.unusedSimpArgs false
namespace Go.Proofs.Ytoenkcojfogmmaa
open Go.RowKit Go.Shelf
open Classical
attribute [local go_sem] Oper.semAt_some

/-- The sums of the first m draws. -/
def Sums (l : List Sup) (d : List Drw) (m : Nat) (vs : List Int) : Prop := vs.length = l.length ∧ ∀ j (h : j < vs.length), vs[j] = ownTo d j m
theorem Sums.start (l : List Sup) (d : List Drw) : Sums l d 0 (List.replicate l.length 0) := ⟨by simp, fun j h => by simp [ownTo]⟩
theorem Sums.step {l : List Sup} {d : List Drw} {m : Nat} {vs : List Int} (h : Sums l d m vs) (hm : m < d.length) (s : Nat) (hs : d[m].supply = (s : Int)) (hv : s < vs.length) : Sums l d (m + 1) (vs.set s (vs[s] + d[m].load)) := by
  refine ⟨by simpa using h.1, fun j hj => ?_⟩
  simp only [List.length_set] at hj
  have hj2 := h.2 j hj
  simp only [ownTo, hm, dif_pos]
  by_cases e : s = j
  · subst e
    rw [List.getElem_set_self, h.2 s hv, if_pos hs]
  · rw [List.getElem_set_ne e, hj2, if_neg (by omega)]; omega
theorem Sums.inv {l : List Sup} {d : List Drw} {vs : List Int} (h : Sums l d d.length vs) : LInv l d (fun j => own d j) l.length vs := by
  refine ⟨h.1, fun j hj => ⟨fun q => ?_, fun _ => ?_⟩⟩
  · have := h.1; omega
  · rw [h.2 j hj, up_end]; show ownTo d j d.length = own d j + 0; unfold own; omega
theorem loads_here {l : List Sup} {d : List Drw} {i : Nat} {vs : List Int} (h : LInv l d (fun j => own d j) (i + 1) vs) (hi : i < l.length) (hv : i < vs.length) : vs[i] = ld l d i := by
  rw [(h.2 i hv).2 (by omega), ld_eq l d i hi]
theorem loads_set {l : List Sup} {d : List Drw} {i : Nat} {vs : List Int} (h : LInv l d (fun j => own d j) (i + 1) vs) (hi : i < l.length) (hv : i < vs.length) : vs.set i (ld l d i) = vs := by
  rw [← loads_here h hi hv]; simp

set_option maxRecDepth 100000 in
set_option maxHeartbeats 4000000 in
theorem loads_any (l : List Sup) (d : List Drw) (ao a1 : Option Addr) (cap c1 : Nat) (w : World) (h : SlOf 5 RSup w ao l) (hf : l.length ≤ 16) (hok : AllOk l) (h1 : SlOf 4 RDrw w a1 d) (f1 : d.length ≤ 32) (hd : ∀ k (hk : k < d.length), 0 ≤ d[k].supply ∧ d[k].supply < l.length) (hd2 : ∀ k (h : k < d.length), 0 ≤ d[k].load ∧ d[k].load ≤ 10000) :
    Calls Try.prog 69 #[.slice ao l.length cap, .slice a1 d.length c1] w (GivesSl 1 RI w (loadsL l d)) := by
  have H := Lib.hid h
  have H1 := Lib.hid h1
  have OK := Lib.hid hok
  have HD := Lib.hid hd
  have HD2 := Lib.hid hd2
  clear h h1 hok hd hd2
  have hmk := run_make_row' (P := Try.prog) 22 3 (.int .i64 0) 8 Try.underlying22 infoInt rfl .i64 .i64 l.length (by omega) (by omega)
  refine (callsIn_wide (n := 3)).1 ?_
  refine callsIn_of_wp_marks Try.func69 rfl trivial ?_ rfl
  simp only [Try.ntmps69, List.size_toArray, List.length_cons, List.length_nil, Nat.reduceAdd, Nat.reduceSub, Array.replicate_succ, Array.replicate_zero, List.push_toArray, List.append_toArray, List.nil_append, List.cons_append]
  gi_wp2_with fail
  clear hmk
  gi_loopw [15] (fun i wr => ∃ m : Nat, m ≤ d.length ∧ i = .int .i64 m ∧ Gr w wr ∧ Row wr (w.heap.size + 1) 22 [.slice (some ⟨w.heap.size, 0, none⟩) l.length l.length] ∧ ∃ vs, Row wr w.heap.size 3 (nums vs) ∧ Sums l d m vs) (fun i _ => d.length - (intOf i).toNat)
  case atStart =>
    refine ⟨0, Nat.zero_le _, rfl, ((Gr.refl _).alloc _).alloc _, ?_, List.replicate l.length 0, ?_, Sums.start l d⟩
    · have := Row.new (w.alloc (.cells (madeCells #[.int .i64 0] l.length) 3)) #[.slice (some ⟨w.heap.size, 0, none⟩) l.length l.length] 22
      simp only [World.size_alloc] at this
      exact this
    · have := Row.new w (madeCells #[.int .i64 0] l.length) 3
      rw [made_list] at this
      exact Row.alloc _ (by simpa [nums] using this)
  case round =>
    obtain ⟨m, hm, rfl, hg, hbox, vs, hrow, hinv⟩ := hrel
    have HG := Lib.hid hg
    have HR := Lib.hid hrow
    have HI := Lib.hid hinv
    have HB := Lib.hid hbox
    have b0 := hbox.cell 0 (by simp)
    have b1 := hbox.has
    have r2 := hrow.has
    simp only [List.getElem_cons_zero] at b0
    clear hg hrow hinv hbox
    by_cases hlt : m < d.length
    · obtain ⟨b, o, rfl, ⟨t0, _⟩, ⟨t1, _⟩, ⟨t2, _⟩, ⟨t3, _⟩⟩ := drws_gr H1.out HG.out m hlt
      have hdo := HD.out m hlt
      obtain ⟨sn, hsn⟩ := Int.eq_ofNat_of_zero_le hdo.1
      have SN := Lib.hid hsn
      rw [hsn] at t0
      have hsl : sn < l.length := by omega
      clear hsn hdo
      have hsv : sn < vs.length := by have := HI.out.1; omega
      have s0 := HR.out.iat sn hsv
      have s1 := HR.out.free sn
      have gl : (sn : Int) < l.length := by omega
      have gl0 : (0 : Int) ≤ sn := by omega
      have hvv := HI.out.2 sn hsv
      have ow := ownTo_wide d HD2.out sn m
      rw [← hvv] at ow
      have hld := HD2.out m hlt
      have ow0 := ow.1
      have ow1 : vs[sn] ≤ 320000 := by omega
      have l0 := hld.1
      have l1 := hld.2
      clear hvv ow hld
      gi_wp2_with fail
      refine wpIn_wide.2 ?_
      go_region
      all_goals gi_wp2_with fail
      all_goals go_roundw
      case rel =>
        refine ⟨m + 1, by omega, by go_num, ?_, ?_, vs.set sn (vs[sn] + d[m].load), ?_, HI.out.step hlt sn SN.out hsv⟩
        · repeat (first | with_reducible exact HG.out | with_reducible refine Gr.drew ?_ | with_reducible refine Gr.setc (by omega) ?_ | with_reducible refine Gr.alloc _ ?_)
        · repeat (first | with_reducible exact HB.out | with_reducible refine Row.drew ?_ | with_reducible refine Row.alloc _ ?_ | with_reducible refine Row.oth ?_ (by omega))
        · repeat (first | with_reducible exact HR.out.iset sn _ | with_reducible refine Row.drew ?_ | with_reducible refine Row.alloc _ ?_ | with_reducible refine Row.oth ?_ (by omega))
      case measure => simp [intOf]; omega
    · have hmd : m = d.length := by omega
      subst hmd
      have HI0 := Lib.hid HI.out.inv
      clear HI
      gi_wp2_with (refine ⟨trivial, ?_⟩; gi_at_call 78; refine (backward_in Fence.wide _ trivial rfl _ _ _ _).mono ?_; rintro e w' ⟨rfl, rfl⟩)
      obtain ⟨b, al, cl, hbS, hbw, hS⟩ := sup_cells H.out (HG.out.alloc (.cells #[.slice ao l.length cap] 25)) wr.heap.size (by simp)
      refine wpIn_rangeFunc_ownH rfl (by omega) (gf := 80) (lb := #[.pointer (some ⟨wr.heap.size, 0, none⟩)]) rfl trivial (enters_of Try.func80 (by kernel_rfl) rfl)
        (backward_stops Fence.wide _ trivial rfl (by omega) wr.heap.size b cap ao l al cl hf _ (by simp) hbS (by simp [go_sem]) hS) (fun h k => h.trans k) (keep2_b hbS (by simp)) (Below.refl _ _) (fun _ => rfl)
        (fun pre W => ((∃ vs, Row W w.heap.size 3 (nums vs) ∧ vs.length = l.length ∧ ∀ k, k ≤ l.length → pre = downs l.length k → LInv l d (fun j => own d j) (l.length - k) vs) ∧ Row W (w.heap.size + 1) 22 [.slice (some ⟨w.heap.size, 0, none⟩) l.length l.length]) ∧ (Below w.heap.size w W ∧ wr.heap.size + 1 ≤ W.heap.size))
        (fun _ _ _ => False)
        (OwnFrom.and (Own.from (fun s X Y rw' hs hg hr => ⟨(by obtain ⟨vs, q1, q2⟩ := hs.1; exact ⟨vs, row_own (β := Unit) _ _ (fun _ => _) () X Y rw' q1 hg hr, q2⟩), row_own (β := Unit) _ _ (fun _ => _) () X Y rw' hs.2 hg hr⟩) _) (OwnFrom.and (ownFrom_below (Nat.le_refl _) (by have := HG.out.size; simp; omega)) (fun _ X Y rw' hs hg hr => Nat.le_trans hs hg.size)))
        (fun _ _ _ _ _ hs _ _ => hs.elim)
        ⟨⟨⟨vs, HR.out.alloc _, HI0.out.1, fun k hk e => ?_⟩, HB.out.alloc _⟩, (HG.out.alloc _).below, by simp⟩
        (fun x a' W => ∃ Bx, wr.heap.size < Bx ∧ Row W Bx 70 (svs l al cl x) ∧ a' = { tmps := #[.slice ao l.length cap, .slice a1 d.length c1, undef, undef, .slice none 0 0, .pointer (some ⟨w.heap.size + 1, 0, none⟩), undef, u7, .int .i64 (x.1 : Int), .pointer (some ⟨Bx, 0, none⟩), .slice ao l.length cap, .int .i64 l.length, .slice (some ⟨w.heap.size, 0, none⟩) l.length l.length, .slice a1 d.length c1, .int .i64 d.length, .int .i64 d.length, .bool false, u17, u18, u19, u20, u21, u22, u23, u24, u25, u26, u27, u28, .slice ao l.length cap, .func (.func 80) #[] #[.pointer (some ⟨wr.heap.size, 0, none⟩)], .int .i64 (x.1 : Int), sv l al cl x, undef, undef, undef, undef, undef, undef, undef, undef, undef, undef, undef, undef, undef, undef, undef], defers := [] })
        (fun x a' s X Y rw' hs hg hr => by obtain ⟨Bx, q1, q2, q3⟩ := hs; exact ⟨Bx, q1, row_own (β := Unit) _ _ (fun _ => _) () X Y rw' q2 hg (fun r e => (hr r e).2), q3⟩) ?assign ?body ?done ?stop
      case assign =>
        rintro lp pre x W K hi hK
        obtain ⟨⟨⟨vs', hr', hl', hu'⟩, hb'⟩, hB', hs'⟩ := hi
        simp only [sv]
        gi_wp2
        refine hK _ _ ((KeepsOthers.alloc _ _).from _) ⟨Below.heap_alloc _ _ _ (by simp at hbS; omega), Below.heap_alloc _ _ _ (by omega)⟩ ⟨⟨⟨vs', hr'.alloc _, hl', hu'⟩, hb'.alloc _⟩, hB'.alloc hB'.size _, by simp; omega⟩ ⟨W.heap.size, by omega, Row.new W _ _, rfl⟩
      case body =>
        rintro lp pre x a' W hlp hrec ⟨⟨⟨vs', hr', hl', hu'⟩, hb'⟩, hB', hs'⟩ ⟨Bx, hBx, bX, rfl⟩ hlt'
        have hxl := x.2
        have hxv : x.1 < vs'.length := by omega
        have hbw' := hbw (by omega)
        have pr := OK.out x.1 hxl
        obtain ⟨_, ⟨pr1, pr2, _⟩, _⟩ := pr
        have HR' := Lib.hid hr'
        have HB1 := Lib.hid hb'
        have HU := Lib.hid hu'
        have BX := Lib.hid bX
        have BB := Lib.hid hB'
        have x0 := bX.cell 0 (by simp [svs])
        have x4 := bX.cell 4 (by simp [svs])
        have xh := bX.has
        have bb := hb'.cell 0 (by simp)
        have bh := hb'.has
        have v0 := hr'.iat x.1 hxv
        have v1 := hr'.free x.1
        have vh := hr'.has
        simp only [svs, List.getElem_cons_zero, List.getElem_cons_succ] at x0 x4 bb
        have g0 : (0 : Int) ≤ x.1 := by omega
        have g1 : (x.1 : Int) < l.length := by omega
        clear hr' hb' hu' bX hB'
        have hsz : w.heap.size + 1 < wr.heap.size := b1
        have hne : Bx ≠ w.heap.size := by omega
        have hne1 : w.heap.size + 1 ≠ w.heap.size := by omega
        have fin : ∀ (Bq : Nat) (vs2 : List Int) (W' : World), Only w.heap.size W W' → Row W' w.heap.size 3 (nums vs2) → vs2.length = l.length → (∀ k0, k0 < l.length → x.1 = l.length - 1 - k0 → LInv l d (fun j => own d j) (x.1 + 1) vs' → LInv l d (fun j => own d j) x.1 vs2) →
            KeepsFrom Bq W W' ∧ Keep2 b wr.heap.size W W' ∧ ((∃ vs, Row W' w.heap.size 3 (nums vs) ∧ vs.length = l.length ∧ ∀ k, k ≤ l.length → pre ++ [x] = downs l.length k → LInv l d (fun j => own d j) (l.length - k) vs) ∧ Row W' (w.heap.size + 1) 22 [.slice (some ⟨w.heap.size, 0, none⟩) l.length l.length]) ∧ (Below w.heap.size w W' ∧ wr.heap.size + 1 ≤ W'.heap.size) := by
          intro Bq vs2 W' ho hrow hlen hstep
          refine ⟨ho.ko.from _, ho.keep2 (by omega) (by omega), ⟨⟨vs2, hrow, hlen, fun k hk e => ?_⟩, ho.row HB1.out (by omega)⟩, ho.below BB.out (Nat.le_refl _), Nat.le_trans hs' ho.ko.size⟩
          obtain ⟨k0, rfl, e2, e3, e4⟩ := downs_snoc hk e
          have q := hstep k0 e4 e3 (by have := HU.out k0 (by omega) e2; rwa [show l.length - k0 = x.1 + 1 by omega] at this)
          rwa [show l.length - (k0 + 1) = x.1 by omega]
        have FIN := Lib.hid fin
        clear fin
        by_cases hp : 0 ≤ l[x.1].parent
        · obtain ⟨p, hpp⟩ := Int.eq_ofNat_of_zero_le hp
          have PP := Lib.hid hpp
          rw [hpp] at x0 pr1 pr2
          clear hpp hp
          have hpx : p < x.1 := by omega
          have hpl : (p : Int) < l.length := by omega
          have hp0 : (0 : Int) ≤ p := by omega
          have hpv : p < vs'.length := by omega
          have vp := HR'.out.free p
          have vpc := HR'.out.iat p hpv
          by_cases hq : LInv l d (fun j => own d j) (x.1 + 1) vs'
          · have e1 := loads_here hq hxl hxv
            have e2 := (hq.2 p hpv).2 (by omega)
            have q1 := ld_small l d HD2.out f1 hf x.1 hxl
            have q2 := up_small l d HD2.out f1 hf (x.1 + 1) p
            have q3 := ownTo_wide d HD2.out p d.length
            have E2 : vs'[p] = own d p + up l d (x.1 + 1) p := e2
            unfold own at E2
            rw [← e1] at q1
            have a0 := q1.1
            have a1' := q1.2
            have a2 : 0 ≤ vs'[p] := by omega
            have a3 : vs'[p] ≤ 30000000000 := by omega
            have E1 := Lib.hid e1
            have HQ := Lib.hid hq
            clear e1 e2 E2 q1 q2 q3 hq
            gi_wp2_with fail
            refine wpIn_region_same_tail 11 (by kernel_rfl) (by kernel_rfl) (by kernel_rfl) ?_
            simp only [List.take_succ_cons, List.take_zero, List.drop_succ_cons, List.drop_zero]
            repeat (go_big_quiet_step (fail))
            refine wpQuiet_nil ?_
            gi_wp2_with fail
            refine FIN.out _ (vs'.set p (vs'[p] + vs'[x.1])) _ (Only.refl _ _).set.drew (by with_reducible refine Row.drew ?_; exact HR'.out.iset p _) (by simpa using hl') (fun k0 h1 h2 q => ?_)
            have := q.step1 hxl p PP.out hpx hpv
            rw [loads_set q hxl hxv] at this
            rw [E1.out]
            exact this
          · have HQ := Lib.hid hq
            clear hq
            gi_wp2_with fail
            refine wpIn_region_same_tail 11 (by kernel_rfl) (by kernel_rfl) (by kernel_rfl) ?_
            simp only [List.take_succ_cons, List.take_zero, List.drop_succ_cons, List.drop_zero]
            repeat (go_big_quiet_step (fail))
            refine wpQuiet_nil ?_
            gi_wp2_with fail
            refine FIN.out _ (vs'.set p _) _ (Only.refl _ _).set.drew (by with_reducible refine Row.drew ?_; exact HR'.out.iset p _) (by simpa using hl') (fun k0 h1 h2 q => absurd q HQ.out)
        · have hp' : l[x.1].parent < 0 := by omega
          clear hp
          gi_wp2_with fail
          refine FIN.out _ vs' _ (Only.refl _ _) HR'.out hl' (fun k0 h1 h2 q => ?_)
          have := q.step0 hxl hp'
          rw [loads_set q hxl hxv] at this
          exact this
      case done =>
        rintro D ys W hD rfl ⟨⟨⟨vs', hr', hl', hu'⟩, hb'⟩, hB', hs'⟩ hK
        have hu := hu' l.length (Nat.le_refl _) rfl
        rw [Nat.sub_self] at hu
        have hvs := hu.done
        subst hvs
        have HR' := Lib.hid hr'
        have HB1 := Lib.hid hb'
        have bb := hb'.cell 0 (by simp)
        have bh := hb'.has
        simp only [List.getElem_cons_zero] at bb
        clear hr' hb' hu' hu
        gi_wp2_with fail
        refine ⟨by simp, .inl ⟨_, _, rfl, run_takeDeferred hK, ?_⟩⟩
        have hB2 := hB'.trans (belowK_b (w := w) (Nat.le_refl _) W D (.deferred (some [])) (.deferred none) (by have := HG.out.size; simp at hD; omega) hK rfl rfl)
        have hrw := row_own (β := Unit) w.heap.size 3 (fun _ => nums (loadsL l d)) () W (W.putObj D (.deferred none)) (some D) HR'.out (grownBy_putObj' _ D (.deferred none)) (fun r e => by cases e; exact ⟨_, hK, rfl⟩)
        refine ⟨_, results_tmp rfl _ _ _, some ⟨w.heap.size, 0, none⟩, l.length, ?_, by rw [loadsL_len]; exact Nat.le_refl _, by rw [loadsL_len]; unfold Fit; omega, ?_, .of_below hB2⟩
        · rw [loadsL_len]; rfl
        · refine hrw.slI fun k hk => ?_
          have b := ld_small l d HD2.out f1 hf k (by rw [loadsL_len] at hk; exact hk)
          rw [loadsL_at]; unfold Wide; omega
      case stop => exact fun D c pre W _ _ h _ => h.elim
      have := congrArg List.length e
      rw [downs_len _ _ hk] at this
      simp at this
      subst this
      exact HI0.out
end Go.Proofs.Ytoenkcojfogmmaa
