/- schema.Merge: cmp.Or of two errors; the sort of schemas. schema.Merge. SchemaMerges: the walk (printed by wip/tools/umi.py). -/
import Derived.Test.YtadldblpkgackaaGreatDoorUmC
import Derived.Test.YtadldblpkgackaaGreatDoorUmE
import Derived.Test.YtadldblpkgackaaGreatDoorUmA
import Derived.Test.YtadldblpkgackaaGreatDoorSoS
import Derived.Test.YtadldblpkgackaaGreatDoorUeC
set_option linter.unusedVariables false
set_option linter.unusedSimpArgs false
namespace Go.Proofs.YtadldblpkgackaaGreatDoor
open Go.RowKit
open Classical

theorem or2_any0 (x y z : Int) (cap : Nat) (w : World) (B : Nat) (hr : Row w B 30 [.int .i64 x, .int .i64 y]) (hz : (x = 0 ∧ z = y) ∨ (x ≠ 0 ∧ z = x)) :
    Calls Tryz.prog 56 #[.slice (some ⟨B, 0, none⟩) 2 cap] w (Grows w (.int .i64 z)) := by
  have HR := Lib.hid hr
  have HZ := Lib.hid hz
  clear hr hz
  go_enter Tryz.func56, Tryz.ntmps56
  go_wp2_with fail
  go_loopw [8] (fun i wr => ∃ k : Nat, k ≤ 2 ∧ i = .int .i64 k ∧ (0 < k → x = 0) ∧ (1 < k → y = 0) ∧ Gr w wr) (fun i _ => 2 - (intOf i).toNat)
  case atStart => exact ⟨0, by omega, rfl, fun h => absurd h (by omega), fun h => absurd h (by omega), Gr.refl _⟩
  case round =>
    obtain ⟨k, hk, rfl, h0, h1, hg⟩ := hrel
    have HG := Lib.hid hg
    have K0 := Lib.hid h0
    have K1 := Lib.hid h1
    clear hg h0 h1
    by_cases hlt : k < 2
    · obtain ⟨v, hv⟩ : ∃ v : Int, Hid (([x, y] : List Int)[k]? = some v) := by
        obtain rfl | rfl : k = 0 ∨ k = 1 := by omega
        · exact ⟨x, Lib.hid rfl⟩
        · exact ⟨y, Lib.hid rfl⟩
      have c0 : wr.cell? ⟨B, k, none⟩ = some (.int .i64 v) := by
        have q := hv.out
        obtain rfl | rfl : k = 0 ∨ k = 1 := by omega
        · have e : x = v := by simpa using q
          rw [← e]; exact (HR.out.gr HG.out).cell 0 (by simp)
        · have e : y = v := by simpa using q
          rw [← e]; exact (HR.out.gr HG.out).cell 1 (by simp)
      have hh := has_of_cell c0
      have kk : (k : Int) < 2 := by omega
      by_cases hv0 : v = 0
      · subst hv0
        go_wp2_with fail
        go_roundw
        case rel =>
          refine ⟨k + 1, by omega, by go_num, fun _ => ?_, fun _ => ?_, HG.out⟩
          · by_cases e : k = 0
            · subst e; simpa using hv.out
            · exact K0.out (by omega)
          · have e : k = 1 := by omega
            subst e; simpa using hv.out
        case measure => simp [intOf]; omega
      · have hb1 : (v == 0) = false := by rw [beq_eq_false_iff_ne]; exact hv0
        have hb2 : (v != 0) = true := by rw [bne_iff_ne]; exact hv0
        have Z : Hid (z = v) := Lib.hid (by
          have q := hv.out
          obtain rfl | rfl : k = 0 ∨ k = 1 := by omega
          · have e : x = v := by simpa using q
            subst e
            rcases HZ.out with ⟨h, _⟩ | ⟨_, h⟩
            · exact absurd h hv0
            · exact h
          · have e : y = v := by simpa using q
            subst e
            rcases HZ.out with ⟨_, h⟩ | ⟨h, _⟩
            · exact h
            · exact absurd (K0.out (by omega)) h)
        go_wp2_with fail
        go_ret
        exact ⟨ret_int (by rw [Z.out]), HG.out⟩
    · obtain rfl : k = 2 := by omega
      have Z : Hid (z = 0) := Lib.hid (by
        rcases HZ.out with ⟨_, h⟩ | ⟨h, _⟩
        · rw [h]; exact K1.out (by omega)
        · exact absurd (K0.out (by omega)) h)
      go_wp2_with fail
      go_ret
      exact ⟨ret_int (by rw [Z.out]), HG.out⟩
/-! The sort. -/
abbrev SQ := SM × Option Addr × Nat × Nat
def SQ.enc (p : SQ) : List Value := [.string (bs p.1.comp), .bool p.1.closed, .slice p.2.1 p.2.2.1 p.2.2.2]
def toQ (s : SM) : SQ := (s, match s.v with | .slice a n c => (a, n, c) | _ => (none, 0, 0))
instance : Inhabited SM := ⟨⟨[], false, [], .slice none 0 0⟩⟩
def cmpQ (x y : SQ) : Int := cmpS x.1.comp y.1.comp
theorem cmpQ_lt (x y : SQ) : Go.Proofs.ltOf cmpQ x y = Op.bytesLess x.1.comp y.1.comp := by
  unfold Go.Proofs.ltOf cmpQ cmpS
  cases Op.bytesLess x.1.comp y.1.comp with
  | true => simp
  | false =>
    rw [if_neg (by simp)]
    split <;> simp
theorem swoQ : Go.Sort.SWO (Go.Proofs.ltOf cmpQ) where
  irrefl x := by rw [cmpQ_lt]; exact lt_irr _
  trans x y z h1 h2 := by rw [cmpQ_lt] at *; exact lt_trans h1 h2
  ntrans x y z h1 h2 := by
    rw [cmpQ_lt] at *
    rcases lt_tot x.1.comp y.1.comp with h | h | h
    · rw [h] at h1; cases h1
    · rw [h]; exact h2
    · rw [← Bool.not_eq_true]
      intro k
      have := lt_trans h k
      rw [this] at h2; cases h2
theorem mergeQ_any (x y : SQ) (W : World) :
    Calls Tryz.prog 60 #[.agg (SQ.enc x).toArray, .agg (SQ.enc y).toArray] W fun e w' => e = .returned (.int .i64 (cmpQ x y)) ∧ ∃ q os', w' = Sort.grow (W.drewN q) os' := by
  obtain ⟨⟨cx, bx, rx, vx⟩, ax, nx, kx⟩ := x
  obtain ⟨⟨cy, by_, ry, vy⟩, ay, ny, ky⟩ := y
  simp only [SQ.enc, cmpQ]
  go_enter Tryz.func60, Tryz.ntmps60
  go_wp2_with (go_at_call 61; refine (cmpS_any _ _ _).mono ?_; rintro e w' ⟨rfl, rfl⟩)
  go_ret
  exact ⟨rfl, 0, _, by rw [Sort.alloc_eq_grow, Sort.alloc_eq_grow, Sort.grow_grow]; rfl⟩

theorem insNone (p : Option Addr) (cap : Nat) (fv : Value) (w : World) :
    Calls Tryz.prog 112 #[.slice p 0 cap, .int .i64 0, .int .i64 0, fv] w fun e w' => e = .returned (.tuple #[]) ∧ w' = w := by
  go_enter Tryz.func112, Tryz.ntmps112
  go_wp2_with fail
  refine wp_loop_rounds 1 ?_
  rw [rounds_succ]
  go_wp2_with fail
  go_end0
  exact ⟨rfl, rfl⟩
theorem pdqNone (p : Option Addr) (cap : Nat) (lim : Int) (fv : Value) (w : World) :
    Calls Tryz.prog 93 #[.slice p 0 cap, .int .i64 0, .int .i64 0, .int .i64 lim, fv] w fun e w' => e = .returned (.tuple #[]) ∧ w' = w := by
  go_enter Tryz.func93, Tryz.ntmps93
  go_wp2_with fail
  refine wp_loop_rounds 1 ?_
  rw [rounds_succ]
  go_wp2_with (go_at_call 112; refine (insNone _ _ _ _).mono ?_; rintro e w' ⟨rfl, rfl⟩)
  (try simp only [Exit.inBlock, Exit.then]); refine bodyPost_ret (results_none rfl _ _ _) rfl ?_
  exact ⟨rfl, rfl⟩
theorem sortNone (p : Option Addr) (cap : Nat) (fv : Value) (w : World) :
    Calls Tryz.prog 59 #[.slice p 0 cap, fv] w fun e w' => e = .returned (.tuple #[]) ∧ w' = w := by
  have hl : ∀ W, Calls Tryz.prog 94 #[.int .u64 0] W fun e w' => e = .returned (.int .i64 (Lib.bitLen 0 : Nat)) ∧ w' = W := fun W => by
    have h := Any.bits_Len (SlLaysF0.n15.bits (P := Tryz.prog) (ρ := Tryz.sortSch_ren) { Tryz.sortSch with }) 0 W (by omega) (by omega)
    exact h
  go_enter Tryz.func59, Tryz.ntmps59
  go_wp2_with (first | (go_at_call 94; refine (hl _).mono ?_; rintro e w' ⟨rfl, rfl⟩) | (go_at_call 93; refine (pdqNone _ _ _ _ _).mono ?_; rintro e w' ⟨rfl, rfl⟩))
  go_end0
  exact ⟨rfl, rfl⟩
theorem flatK_list (d : List SQ) : (Sort.flatK SQ.enc 3 d.toArray).toList = d.flatMap SQ.enc := by
  apply List.ext_getElem?
  intro t
  by_cases h : t < d.length * 3
  · have h1 : t / 3 < d.length := by omega
    have h2 := flat_at SQ.enc 3 (fun _ => rfl) d (t / 3) (t % 3) h1 (Nat.mod_lt _ (by omega))
    rw [show t / 3 * 3 + t % 3 = t by omega] at h2
    have h3 : t % 3 < (SQ.enc d[t / 3]).length := Nat.mod_lt _ (by omega)
    rw [h2, List.getElem?_eq_getElem h3, Array.getElem?_toList]
    have h4 : t < (Sort.flatK SQ.enc 3 d.toArray).size := by rw [Sort.size_flatK]; simpa using h
    rw [Array.getElem?_eq_getElem h4, ← getElem!_pos (Sort.flatK SQ.enc 3 d.toArray) t h4, Sort.get_flatK SQ.enc 3 d.toArray t (by simpa using h), getElem!_pos d.toArray (t / 3) (by simpa using h1), List.getElem_toArray, getElem!_pos _ (t % 3) h3]
  · rw [List.getElem?_eq_none (by rw [Array.length_toList, Sort.size_flatK]; simpa using h), List.getElem?_eq_none (by rw [flat_len SQ.enc 3 (fun _ => rfl)]; omega)]
theorem putK_block {w : World} {g e q : Nat} {cur : Array Value} (hb : w.heap[g]? = some (.cells cur e (0, 0))) (F : Array Value) (os : Array Obj) :
    (Sort.grow (Sort.putRow id (Sort.ahead w q) g 0 F) os).heap[g]? = some (.cells (Sort.putCells id 0 F cur) e (0, 0)) := by
  have hg := (Array.getElem?_eq_some_iff.1 hb).1
  simp only [Sort.grow, Sort.putRow, Sort.mapBlock, Sort.ahead]
  rw [Array.getElem?_append_left (by simpa using hg), Array.getElem?_modify, if_pos rfl, hb]
  rfl
theorem putK_grown {w : World} {g q : Nat} (F : Array Value) (os : Array Obj) : w.grownBy (Sort.grow (Sort.putRow id (Sort.ahead w q) g 0 F) os) (some g) := by
  refine ⟨rfl, rfl, rfl, ?_, fun k hk hne => ?_⟩
  · simp [Sort.grow, Sort.putRow, Sort.mapBlock, Sort.ahead]
  · simp only [Sort.grow, Sort.putRow, Sort.mapBlock, Sort.ahead]
    rw [Array.getElem?_append_left (by simpa using hk), Array.getElem?_modify, if_neg (fun e => hne (by rw [e]))]
theorem putK_take {cur F : Array Value} {m : Nat} (hd : F.size ≤ cur.size) (hm : m ≤ F.size) : (Sort.putCells id 0 F cur).toList.take m = F.toList.take m := by
  apply List.ext_getElem
  · simp [Sort.putCells]; omega
  · intro k h1 h2
    have hk : k < m := by simp [Sort.putCells] at h1; omega
    simp only [Sort.putCells, List.getElem_take, Array.getElem_toList, Array.getElem_mapIdx]
    rw [if_pos (by omega), Nat.sub_zero, getElem!_pos F k (by omega)]
    rfl
theorem enc_toQ {s : SM} (h : ∃ a n c, s.v = .slice a n c) : SQ.enc (toQ s) = SM.enc s := by
  obtain ⟨a, n, c, h⟩ := h
  unfold toQ SQ.enc SM.enc
  rw [h]
theorem flat_toQ {l : List SM} (h : ∀ s ∈ l, ∃ a n c, s.v = .slice a n c) : (l.map toQ).flatMap SQ.enc = l.flatMap SM.enc := by
  induction l with
  | nil => rfl
  | cons x l ih => rw [List.map_cons, List.flatMap_cons, List.flatMap_cons, enc_toQ (h x (by simp)), ih (fun s hs => h s (List.mem_cons_of_mem _ hs))]
def SortS (w : World) (base : Nat) (v : Value) (out : List SM) (e : Ending) (w' : World) : Prop :=
  e = .returned (.tuple #[]) ∧ w.grownBy w' v.ownBlock ∧ ∃ q : List SM, q.Perm out ∧ (∀ i j (_ : i < j) (hj : j < q.length), Op.bytesLess q[j].comp q[i].comp = false) ∧ w'.ownsRow base 24 3 v out.length (q.flatMap SM.enc)
theorem sortS_any (out : List SM) (v : Value) (base : Nat) (w : World) (h : w.ownsRow base 24 3 v out.length (out.flatMap SM.enc)) (hv : ∀ s ∈ out, ∃ a n c, s.v = .slice a n c) (hf : out.length ≤ 1000000) :
    Calls Tryz.prog 59 #[v, .func (.func 60) #[] #[]] w (SortS w base v out) := by
  obtain ⟨h0, ⟨rfl, hn⟩ | ⟨g, cap, cur, rfl, hb, hg, hnc, hcm, hcs, htk⟩⟩ := h
  · have hn2 : out = [] := List.eq_nil_of_length_eq_zero hn
    subst hn2
    refine (sortNone none 0 _ w).mono ?_
    rintro e w' ⟨rfl, rfl⟩
    exact ⟨rfl, World.grownBy.refl _ _, [], List.Perm.refl _, fun i j hi hj => absurd hj (by simp), World.ownsRow_nil _ _ _ _⟩
  · have hsz : (out.map toQ).toArray.size = out.length := by simp
    have hF : (Sort.flatK SQ.enc 3 (out.map toQ).toArray).toList = out.flatMap SM.enc := by rw [flatK_list, flat_toQ hv]
    have hFs : (Sort.flatK SQ.enc 3 (out.map toQ).toArray).size = out.length * 3 := by rw [Sort.size_flatK, hsz]
    have hr : RowS w g 24 (out.flatMap SM.enc) := ⟨cur.toList.drop (out.length * 3), by rw [← htk, List.take_append_drop]; exact hg⟩
    have hH : Sort.HoldsK SQ.enc 3 w g 0 (out.map toQ).toArray := by
      intro j hj
      rw [Nat.zero_add]
      have hj2 : j < (out.flatMap SM.enc).length := by rw [← hF, Array.length_toList]; exact hj
      refine ⟨?_, hr.free _⟩
      rw [hr.cell j hj2, getElem!_pos _ j hj]
      show some _ = some _
      congr 1
      have : (Sort.flatK SQ.enc 3 (out.map toQ).toArray).toList[j]'(by rw [Array.length_toList]; exact hj) = (out.flatMap SM.enc)[j] := by simp only [hF]
      rw [← this]; rfl
    have hcon := AnyQ.slices_SortFunc Tryz.sortSch 3 (fun w => Tryz.isAgg24 w) (fun w => Tryz.sizeOf24 w) SQ.enc (fun _ => rfl) (fun x v hv => by simp [SQ.enc] at hv; rcases hv with rfl | rfl | rfl <;> rfl) cmpQ swoQ 60 #[] g 0 cap (out.map toQ).toArray w (enters_of Tryz.func60 (by kernel_rfl) rfl) (fun _ _ _ _ x y => mergeQ_any x y _) hH (Array.getElem?_eq_some_iff.1 hg).1 (by rw [hsz]; omega)
    rw [hsz] at hcon
    refine Calls.mono hcon ?_
    rintro e w' ⟨rfl, d', n, os, hp, hs, rfl⟩
    have hds : d'.size = out.length := by rw [hp.1, hsz]
    have hperm : d'.toList.Perm (out.map toQ) := by
      have := hp.2.2
      rw [← hsz] at this
      have e1 : d'.extract 0 (out.map toQ).toArray.size = d' := by rw [hsz, ← hds]; simp
      have e2 : (out.map toQ).toArray.extract 0 (out.map toQ).toArray.size = (out.map toQ).toArray := Array.extract_size
      rw [e1, e2] at this
      simpa using this
    have hq : (d'.toList.map Prod.fst).Perm out := by
      have := hperm.map Prod.fst
      rwa [List.map_map, show (Prod.fst ∘ toQ) = id from rfl, List.map_id] at this
    have hd2 : d'.toList = (d'.toList.map Prod.fst).map toQ := by
      rw [List.map_map]
      symm
      calc d'.toList.map (toQ ∘ Prod.fst) = d'.toList.map id := List.map_congr_left (fun x hx => by
            obtain ⟨s, _, rfl⟩ := List.mem_map.1 (hperm.mem_iff.1 hx)
            rfl)
        _ = d'.toList := List.map_id _
    have hF2 : (Sort.flatK SQ.enc 3 d').toList = (d'.toList.map Prod.fst).flatMap SM.enc := by
      have e := flatK_list d'.toList
      rw [Array.toArray_toList] at e
      rw [e]
      conv => lhs; rw [hd2]
      exact flat_toQ (fun s hs => hv s (hq.mem_iff.1 hs))
    have hFs2 : (Sort.flatK SQ.enc 3 d').size = out.length * 3 := by rw [Sort.size_flatK, hds]
    refine ⟨rfl, putK_grown _ _, d'.toList.map Prod.fst, hq, fun i j hi hj => ?_, ?_⟩
    · have hj2 : j < d'.size := by simpa using hj
      have hi2 : i < d'.size := by omega
      have := hs i j (Nat.zero_le _) hi (by rw [← hds]; exact hj2)
      rw [cmpQ_lt, getElem!_pos d' j hj2, getElem!_pos d' i hi2] at this
      simpa using this
    · refine ⟨?_, .inr ⟨g, cap, _, rfl, hb, putK_block hg _ _, hnc, hcm, by simpa [Sort.putCells] using hcs, ?_⟩⟩
      · rw [flat_len SM.enc 3 (fun _ => rfl), List.length_map, Array.length_toList, hds]
      · have hc3 : out.length * 3 ≤ cur.size := by rw [hcs]; exact Nat.mul_le_mul_right 3 hnc
        rw [putK_take (by rw [hFs2]; exact hc3) (by rw [hFs2]; exact Nat.le_refl _), hF2]
        exact List.take_of_length_le (by rw [flat_len SM.enc 3 (fun _ => rfl), List.length_map, Array.length_toList, hds]; exact Nat.le_refl _)
end Go.Proofs.YtadldblpkgackaaGreatDoor
set_option linter.unusedVariables false
set_option linter.unusedSimpArgs false
namespace Go.Proofs.YtadldblpkgackaaGreatDoor
open Go.RowKit
open Classical

def newOf (l m : List Sch) : List Sch := m.filter (fun s => decide (findC l s.comp = none))
def GivesMrg (l m : List Sch) (w : World) (e : Ending) (w' : World) : Prop :=
  Gr w w' ∧ ((¬ NC l m ∧ e = .returned (.tuple #[.slice none 0 0, .int .i64 8])) ∨ (NC l m ∧ ∃ p c q, e = .returned (.tuple #[.slice p q.length c, .int .i64 0]) ∧ SlOf 3 RSch w' p q ∧ IsMerge l m q))
theorem RlsAt.low {base base' : Nat} {w : World} {s : SM} (h : RlsAt base w s) (hb : base' ≤ base) : RlsAt base' w s := ⟨owns_low h.own hb, h.wds, h.ok, h.len, h.cl⟩
theorem gd_oks {l : List Sch} (h : Gd l) : ∀ s ∈ l, OkS s := (chk_zero (good_chk h.1 h.2)).2
theorem gd_sml {l : List Sch} (h : Gd l) : ∀ s ∈ l, SmlS s := good_sml h.1 h.2
theorem newOf_take (l m : List Sch) (k : Nat) (h : k < m.length) : newOf l (m.take (k + 1)) = newOf l (m.take k) ++ (if findC l m[k].comp = none then [m[k]] else []) := by
  unfold newOf
  rw [List.take_succ_eq_append_getElem h, List.filter_append]
  congr 1
  by_cases q : findC l m[k].comp = none <;> simp [q]
theorem new_apart {base : Nat} {w w' : World} {v : Value} {out : List SM} {m : SM} (h : OutAt base w v out) (hm : RlsAt w.heap.size w' m) : ∀ i (hi : i < out.length), out[i].v.ownBlock = none ∨ out[i].v.ownBlock ≠ m.v.ownBlock := fun i hi => by
  cases hz : out[i].v.ownBlock with
  | none => exact .inl rfl
  | some g =>
    refine .inr (fun e => ?_)
    have h1 := owns_block (h.rls out[i] (List.getElem_mem hi)).own g hz
    have h2 := owns_block hm.own g e.symm
    omega
theorem mrg_fin {base : Nat} {w w' : World} {v : Value} {out q : List SM} {a : Option Addr} {n c : Nat} (h : OutAt base w v out) (hv : v = .slice a n c) (hg : w.grownBy w' v.ownBlock) (hp : q.Perm out) (ho : w'.ownsRow base 24 3 v out.length (q.flatMap SM.enc)) : SlOf 3 RSch w' a (q.map SM.sch) ∧ n = (q.map SM.sch).length := by
  have hl : q.length = out.length := hp.length_eq
  have hr : ∀ s ∈ q, RlsAt base w' s := fun s hs => (h.rls s (hp.mem_iff.1 hs)).kept hg (ty_ne_owns h.own (by decide)) (owns_ne (h.rls s (hp.mem_iff.1 hs)).own h.own (by decide))
  subst hv
  refine ⟨outs_sl (by rw [hl]; exact ho) hr, ?_⟩
  rw [List.length_map, hl]
  exact h.sl.1
set_option maxRecDepth 100000 in
set_option maxHeartbeats 16000000 in
theorem merge_any (l m : List Sch) (hl : Gd l) (hm : Gd m) (a b : Option Addr) (c d : Nat) (w : World) (h1 : SlOf 3 RSch w a l) (h2 : SlOf 3 RSch w b m) :
    Calls Tryz.prog 19 #[.slice a l.length c, .slice b m.length d] w (GivesMrg l m w) := by
  have H1 := Lib.hid h1
  have H2 := Lib.hid h2
  have GL := Lib.hid hl
  have GM := Lib.hid hm
  have l4 := gd_len hl
  have m4 := gd_len hm
  have OKL := Lib.hid (gd_oks hl)
  have OKM := Lib.hid (gd_oks hm)
  have SML := Lib.hid (gd_sml hl)
  have SMM := Lib.hid (gd_sml hm)
  have CL := Lib.hid (good_chk hl.1 hl.2)
  have CM := Lib.hid (good_chk hm.1 hm.2)
  clear h1 h2 hl hm
  obtain ⟨P0, hP0⟩ : ∃ P, P = GivesMrg l m w := ⟨_, rfl⟩
  rw [← hP0]
  have HP0 := Lib.hid hP0
  clear hP0
  obtain ⟨i0, hi, hy0, hy1, hy2⟩ := info_parts infoSch
  go_enter Tryz.func19, Tryz.ntmps19
  have Q1 := Lib.hid (check_any l a c w H1.out (by omega) SML.out)
  rw [CL.out] at Q1
  go_wp2_with fail
  refine Q1.out.mono ?_
  clear Q1
  rintro e w1 ⟨rfl, hg1⟩
  have G1 := Lib.hid hg1
  have Q2 := Lib.hid (check_any m b d w1 (H2.out.giC hg1) (by omega) SMM.out)
  rw [CM.out] at Q2
  clear hg1
  go_wp2_with fail
  refine Q2.out.mono ?_
  clear Q2
  rintro e w2 ⟨rfl, hg2⟩
  have G2 := Lib.hid (G1.out.trans hg2)
  clear hg2 G1
  have RO := Lib.hid (Row.new w2 #[.int .i64 0, .int .i64 0] 30)
  go_wp2_with fail
  refine (or2_any0 0 0 0 _ _ _ RO.out (.inl ⟨rfl, rfl⟩)).mono ?_
  rintro e w3 ⟨rfl, hg3⟩
  have G3 : Hid (Gr w w3) := Lib.hid ((G2.out.alloc _).trans hg3)
  clear hg3 RO G2
  go_wp2_with fail
  go_loopw [25, 7] (fun i v wr => ∃ (k : Nat) (out : List SM), k ≤ l.length ∧ i = .int .i64 k ∧ OutAt w.heap.size wr v out ∧ out.map SM.sch = l.take k ∧ Gr w wr) (fun i _ _ => l.length - (intOf i).toNat)
  case atStart => exact ⟨0, [], Nat.zero_le _, rfl, OutAt.nil _ _, rfl, G3.out⟩
  case round =>
    obtain ⟨k, out, hk, rfl, hoa, hmap, hg⟩ := hrel
    have OA := Lib.hid hoa
    have MP := Lib.hid hmap
    have HG := Lib.hid hg
    obtain ⟨va, vc, hv⟩ := owns_slice hoa.own
    have OL : Hid (out.length = k) := Lib.hid (by have := congrArg List.length hmap; rw [List.length_map, List.length_take] at this; omega)
    clear hoa hmap hg
    by_cases hlt : k < l.length
    · obtain ⟨gb, o, pa, pc, rfl, c0, c1, c2, hsr⟩ := schs_at (H1.out.giC HG.out) k hlt
      have MS : Hid (out.map SM.sch ++ [l[k]] = l.take (k + 1)) := Lib.hid (by rw [MP.out, List.take_succ_eq_append_getElem hlt])
      have OKK := Lib.hid (OKL.out _ (List.getElem_mem hlt))
      obtain ⟨s, hs⟩ : ∃ s, l[k] = s := ⟨_, rfl⟩
      rw [hs] at c0 c1 c2 hsr MS OKK
      have SR := Lib.hid hsr
      have hh := has_of_cell c0
      have kk : (k : Int) < l.length := by omega
      have BX := Lib.hid (row_cells (Row.new wr #[.string (bs s.comp), .bool s.closed, .slice pa s.rules.length pc] 24))
      clear hs hsr
      go_wp2_with fail
      refine (copied_any s pa pc _ (SR.out.giU ((Gr.refl _).alloc _)) OKK.out).mono ?_
      rintro e w5 ⟨sm, rfl, hsch, hrl, hg5⟩
      obtain ⟨mc, mcl, mrs, mv⟩ := sm
      obtain ⟨ra, rc, hmv⟩ := owns_slice hrl.own
      simp only at hmv
      subst hmv
      have SC := Lib.hid hsch
      have RL := Lib.hid hrl
      have OA4 := Lib.hid (OA.out.gr ((Gr.refl wr).alloc (.cells #[.string (bs s.comp), .bool s.closed, .slice pa s.rules.length pc] 24)))
      have AP := Lib.hid (new_apart OA4.out hrl)
      have OA5 := Lib.hid (OA4.out.gr hg5)
      have G5 : Hid (Gr w w5) := Lib.hid ((HG.out.alloc _).trans hg5)
      have HS5 : Hid (w.heap.size ≤ (wr.alloc (.cells #[.string (bs s.comp), .bool s.closed, .slice pa s.rules.length pc] 24)).heap.size) := Lib.hid ((HG.out.alloc _).size)
      have NR := Lib.hid (row_cells (Row.new w5 #[.string (bs mc), .bool mcl, .slice ra mrs.length rc] 24))
      have OWX := Lib.hid (OA5.out.own.alloc (.cells #[.string (bs mc), .bool mcl, .slice ra mrs.length rc] 24))
      have o24 : Hid (out.length < 24) := Lib.hid (by rw [OL.out]; omega)
      clear hsch hrl hg5 OA4 BX
      simp only [SM.enc]
      subst hv
      go_wp2_with (at_builtin; refine wpList_append_own _ rfl _ _ 29 rfl w.heap.size 24 i0 (.agg #[.string (bs []), .bool false, .slice none 0 0]) 3 48 Tryz.underlying29 hi hy0 hy1 hy2 rfl (by decide) _ out.length (out.flatMap SM.enc) rfl OWX.out ⟨w5.heap.size, 0, none⟩ 1 1 [.string (bs mc), .bool mcl, .slice ra mrs.length rc] rfl rfl NR.out (SM.enc_one ⟨mc, mcl, mrs, .slice ra mrs.length rc⟩ rfl) (by unfold maxLen; have := o24.out; omega) (by have := o24.out; omega) (by have := G5.out.size; simp; omega) ?_; intro v' wz hown' hgrow hnil; have HOz := Lib.hid hown'; have HGz := Lib.hid hgrow; clear hown' hgrow hnil)
      go_roundw
      case rel =>
        have ga : Gr w5 (w5.alloc (.cells #[.string (bs mc), .bool mcl, .slice ra mrs.length rc] 24)) := (Gr.refl w5).alloc _
        have OAX := OA5.out.gr ga
        refine ⟨k + 1, out ++ [⟨mc, mcl, mrs, .slice ra mrs.length rc⟩], by omega, by go_num, OAX.snoc2 (s := ⟨mc, mcl, mrs, .slice ra mrs.length rc⟩) o24.out HGz.out HOz.out ((RL.out.low HS5.out).gr ga) AP.out, ?_, (G5.out.trans ga).grown HGz.out (fun j e => (OAX.own.lt j e).1)⟩
        rw [List.map_append, ← MS.out, ← SC.out]
        rfl
      case measure => simp [intOf]; omega
    · obtain rfl : k = l.length := by omega
      rw [List.take_length] at MP
      have MP1 := Lib.hid MP.out
      have HG1 := Lib.hid HG.out
      have OA1 := Lib.hid OA.out
      clear MP HG OA OL hk hlt hv
      obtain ⟨w4, rfl⟩ : ∃ wo, wo = wr := ⟨_, rfl⟩
      go_wp2_with fail
      go_loopw [37, 7] (fun i v wr => ∃ (k : Nat) (o2 : List SM), k ≤ m.length ∧ i = .int .i64 k ∧ OutAt w.heap.size wr v o2 ∧ o2.map SM.sch = l ++ newOf l (m.take k) ∧ (∀ j (hj : j < m.length), j < k → ∀ s ∈ l, s.comp = m[j].comp → s = m[j]) ∧ Gr w wr) (fun i _ _ => m.length - (intOf i).toNat)
      case atStart => exact ⟨0, out, Nat.zero_le _, rfl, OA1.out, by rw [MP1.out]; simp [newOf], fun j _ h => absurd h (by omega), HG1.out⟩
      case round =>
        obtain ⟨k, o2, hk, rfl, hoa, hmap, hno, hg⟩ := hrel
        have OA := Lib.hid hoa
        have MP := Lib.hid hmap
        have HG := Lib.hid hg
        have NO := Lib.hid hno
        obtain ⟨va, vc, hv⟩ := owns_slice hoa.own
        have OL : Hid (o2.length ≤ 8) := Lib.hid (by
          have := congrArg List.length hmap
          have h3 : (newOf l (m.take k)).length ≤ (m.take k).length := List.length_filter_le _ _
          rw [List.length_take] at h3
          rw [List.length_map, List.length_append] at this; omega)
        clear hoa hmap hg hno
        by_cases hlt : k < m.length
        · obtain ⟨gb, o, pa, pc, rfl, c0, c1, c2, hsr⟩ := schs_at (H2.out.giC HG.out) k hlt
          have NT := Lib.hid (newOf_take l m k hlt)
          have OKK := Lib.hid (OKM.out _ (List.getElem_mem hlt))
          have SMK := Lib.hid (SMM.out _ (List.getElem_mem hlt))
          obtain ⟨s, hs⟩ : ∃ s, m[k] = s := ⟨_, rfl⟩
          have SEQ := Lib.hid hs
          rw [hs] at c0 c1 c2 hsr NT OKK SMK
          have SR := Lib.hid hsr
          have hh := has_of_cell c0
          have kk : (k : Int) < m.length := by omega
          have BX := Lib.hid (Row.new wr #[.string (bs s.comp), .bool s.closed, .slice pa s.rules.length pc] 24)
          clear hs hsr
          go_wp2_with fail
          obtain ⟨W5, hW5⟩ : ∃ W : World, Hid (W = wr.alloc (.cells #[.string (bs s.comp), .bool s.closed, .slice pa s.rules.length pc] 24)) := ⟨_, Lib.hid rfl⟩
          have G5 : Hid (Gr wr W5) := Lib.hid (by rw [hW5.out]; exact (Gr.refl _).alloc _)
          rw [← hW5.out] at BX ⊢
          obtain ⟨PX, hPX⟩ : ∃ N : Nat, Hid (wr.heap.size = N) := ⟨_, Lib.hid rfl⟩
          rw [hPX.out] at BX ⊢
          clear hW5 hPX c0 c1 c2 hh
          refine (find_any l a c s.comp W5 (H1.out.giC (HG.out.trans G5.out)) (by omega)).mono ?_
          rintro e w6 ⟨rfl, hg6⟩
          have G6 := Lib.hid (G5.out.trans hg6)
          have BX6 := Lib.hid (BX.out.gr hg6)
          have HG6 := Lib.hid (HG.out.trans G6.out)
          have OA6 := Lib.hid (OA.out.gr G6.out)
          clear hg6 BX G5
          have b0 : w6.cell? ⟨PX, 0, none⟩ = some (.string (bs s.comp)) := BX6.out.cell 0 (by simp)
          have b1 : w6.cell? ⟨PX, 1, none⟩ = some (.bool s.closed) := BX6.out.cell 1 (by simp)
          have b2 : w6.cell? ⟨PX, 2, none⟩ = some (.slice pa s.rules.length pc) := BX6.out.cell 2 (by simp)
          have hb := has_of_cell b0
          cases hz : findC l s.comp with
          | none =>
            have FZ := Lib.hid hz
            clear hz
            go_wp2_with fail
            go_quiet (fail)
            go_wp2_with fail
            obtain ⟨W7, hW7⟩ : ∃ W : World, Hid (W = w6.drewN nq) := ⟨_, Lib.hid rfl⟩
            have G67 : Hid (Gr w6 W7) := Lib.hid (by rw [hW7.out]; exact (Gr.refl _).drewN _)
            rw [← hW7.out]
            have OA7 := Lib.hid (OA6.out.gr G67.out)
            have HG7 := Lib.hid (HG6.out.trans G67.out)
            have SR7 := Lib.hid (SR.out.giU (G6.out.trans G67.out))
            clear hW7 OA6 HG6 b0 b1 b2 hb BX6
            refine (copied_any s pa pc W7 SR7.out OKK.out).mono ?_
            rintro e w8 ⟨sm, rfl, hsch, hrl, hg8⟩
            obtain ⟨mc, mcl, mrs, mv⟩ := sm
            obtain ⟨ra, rc, hmv⟩ := owns_slice hrl.own
            simp only at hmv
            subst hmv
            have SC := Lib.hid hsch
            have RL := Lib.hid (hrl.low HG7.out.size)
            have AP := Lib.hid (new_apart OA7.out hrl)
            have OA8 := Lib.hid (OA7.out.gr hg8)
            have G8 : Hid (Gr w w8) := Lib.hid (HG7.out.trans hg8)
            have NR := Lib.hid (row_cells (Row.new w8 #[.string (bs mc), .bool mcl, .slice ra mrs.length rc] 24))
            have OWX := Lib.hid (OA8.out.own.alloc (.cells #[.string (bs mc), .bool mcl, .slice ra mrs.length rc] 24))
            have o24 : Hid (o2.length < 24) := Lib.hid (by have := OL.out; omega)
            clear hsch hrl hg8 OA7
            simp only [SM.enc]
            subst hv
            go_wp2_with (at_builtin; refine wpList_append_own _ rfl _ _ 29 rfl w.heap.size 24 i0 (.agg #[.string (bs []), .bool false, .slice none 0 0]) 3 48 Tryz.underlying29 hi hy0 hy1 hy2 rfl (by decide) _ o2.length (o2.flatMap SM.enc) rfl OWX.out ⟨w8.heap.size, 0, none⟩ 1 1 [.string (bs mc), .bool mcl, .slice ra mrs.length rc] rfl rfl NR.out (SM.enc_one ⟨mc, mcl, mrs, .slice ra mrs.length rc⟩ rfl) (by unfold maxLen; have := o24.out; omega) (by have := o24.out; omega) (by have := G8.out.size; simp; omega) ?_; intro v' wz hown' hgrow hnil; have HOz := Lib.hid hown'; have HGz := Lib.hid hgrow; clear hown' hgrow hnil)
            go_roundw
            case rel =>
              have ga : Gr w8 (w8.alloc (.cells #[.string (bs mc), .bool mcl, .slice ra mrs.length rc] 24)) := (Gr.refl w8).alloc _
              have OAX := OA8.out.gr ga
              refine ⟨k + 1, o2 ++ [⟨mc, mcl, mrs, .slice ra mrs.length rc⟩], by omega, by go_num, OAX.snoc2 (s := ⟨mc, mcl, mrs, .slice ra mrs.length rc⟩) o24.out HGz.out HOz.out (RL.out.gr ga) AP.out, ?_, fun j hj hjk s1 hs1 he => ?_, (G8.out.trans ga).grown HGz.out (fun j e => (OAX.own.lt j e).1)⟩
              · rw [NT.out, if_pos FZ.out, List.map_append, MP.out, List.append_assoc, ← SC.out]
                rfl
              · by_cases q : j = k
                · subst q
                  exfalso
                  have hz := FZ.out
                  unfold findC at hz
                  rw [List.findIdx?_eq_none_iff] at hz
                  have := hz s1 hs1
                  rw [he, SEQ.out] at this
                  simp at this
                · exact NO.out j hj (by omega) s1 hs1 he
            case measure => simp [intOf]; omega
          | some j =>
            have FZ := Lib.hid hz
            have FA := Lib.hid (find_at hz)
            obtain ⟨hjl, hjc⟩ := FA.out
            clear hz
            obtain ⟨gl, ol, qa, qc, rfl, d0, d1, d2, hsj⟩ := schs_at (H1.out.giC HG6.out) j hjl
            have SMJ := Lib.hid (SML.out _ (List.getElem_mem hjl))
            have MEM := Lib.hid (List.getElem_mem hjl)
            obtain ⟨t, ht⟩ : ∃ t, l[j] = t := ⟨_, rfl⟩
            rw [ht] at d0 d1 d2 hsj SMJ hjc MEM
            have HS : Hid (∀ V, Gr w6 V → Calls Tryz.prog 58 #[.agg #[.string (bs t.comp), .bool t.closed, .slice qa t.rules.length qc], .agg #[.string (bs s.comp), .bool s.closed, .slice pa s.rules.length pc]] V (Grows V (.bool (decide (t = s))))) := Lib.hid (fun V hg => ss_any t s qa pa qc pc V (hsj.giU hg) (SR.out.giU (G6.out.trans hg)) (fun r hr => (SMJ.out.2.2 r hr).2.1) (fun r hr => (SMK.out.2.2 r hr).2.1) SMJ.out.2.1 SMK.out.2.1)
            have JC := Lib.hid hjc
            have hd := has_of_cell d0
            have jl : (j : Int) < l.length := by omega
            have jl2 : Hid (j < l.length) := Lib.hid hjl
            clear ht hsj hjl hjc FA
            by_cases hq : t = s
            · rw [decide_eq_true hq] at HS
              have QE := Lib.hid hq
              clear hq
              go_wp2_with fail
              refine wp_region_grows (by kernel_rfl) (by kernel_rfl) ?_
              repeat (go_big_quiet_step (first | (go_at_call 58; exact calls_grows (HS.out _ (by repeat (first | with_reducible exact Gr.refl _ | with_reducible refine Gr.xt _ _ ?_ | with_reducible refine Gr.alloc _ ?_))))))
              refine wpQuiet_nil ?_
              rintro _ ⟨⟨O, d9⟩, rfl⟩
              go_wp2_with fail
              go_roundw
              case rel =>
                refine ⟨k + 1, o2, by omega, by go_num, by rw [← hv]; exact OA6.out.gr ((Gr.refl _).xt _ _), ?_, fun i hi hik s1 hs1 he => ?_, HG6.out.xt _ _⟩
                · rw [NT.out, if_neg (by rw [FZ.out]; simp), List.append_nil]
                  exact MP.out
                · by_cases q : i = k
                  · subst q
                    rw [SEQ.out] at he ⊢
                    rw [← QE.out]
                    exact gd_one GL.out hs1 MEM.out (by rw [he, JC.out])
                  · exact NO.out i hi (by omega) s1 hs1 he
              case measure => simp [intOf]; omega
            · rw [decide_eq_false hq] at HS
              have QE := Lib.hid hq
              clear hq
              go_wp2_with fail
              refine wp_region_grows (by kernel_rfl) (by kernel_rfl) ?_
              repeat (go_big_quiet_step (first | (go_at_call 58; exact calls_grows (HS.out _ (by repeat (first | with_reducible exact Gr.refl _ | with_reducible refine Gr.xt _ _ ?_ | with_reducible refine Gr.alloc _ ?_))))))
              refine wpQuiet_nil ?_
              rintro _ ⟨⟨O, d9⟩, rfl⟩
              go_wp2_with fail
              rw [HP0.out]
              refine ⟨HG6.out.xt _ _, .inl ⟨fun h => QE.out (h t MEM.out s ?_ JC.out), by rfl⟩⟩
              rw [← SEQ.out]
              exact List.getElem_mem hlt
        · obtain rfl : k = m.length := by omega
          rw [List.take_length] at MP
          have NCC : Hid (NC l m) := Lib.hid (fun s1 h1 t1 h2 he => by
            obtain ⟨j, hj, rfl⟩ := List.getElem_of_mem h2
            exact NO.out j hj hj s1 h1 he)
          have hl8 := OL.out
          subst hv
          go_wp2_with fail
          have ALL : Hid (∀ s ∈ o2, ∃ a n c, s.v = .slice a n c) := Lib.hid (fun s hs => by
            obtain ⟨x, y, z⟩ := owns_slice (OA.out.rls s hs).own
            exact ⟨_, _, _, z⟩)
          refine (sortS_any o2 _ _ wr OA.out.own ALL.out (by omega)).mono ?_
          rintro e w5 ⟨rfl, hgr, q, hp, hso, how⟩
          obtain ⟨hsl, hnl⟩ := mrg_fin OA.out rfl hgr hp how
          have IM : Hid (IsMerge l m (q.map SM.sch)) := Lib.hid (merge_of GL.out GM.out NCC.out (by have := hp.map SM.sch; rw [MP.out] at this; exact this) (fun i j hi hj => by
            have hj2 : j < q.length := by simpa using hj
            rw [List.getElem_map, List.getElem_map]
            exact hso i j hi hj2))
          have SL := Lib.hid hsl
          have HN := Lib.hid hnl
          have G5 : Hid (Gr w w5) := Lib.hid (HG.out.grown hgr (fun j e => (OA.out.own.lt j e).1))
          clear hsl hnl hgr hp hso how
          go_wp2_with fail
          rw [HP0.out]
          refine ⟨G5.out, .inr ⟨NCC.out, va, vc, q.map SM.sch, ?_, SL.out, IM.out⟩⟩
          rw [← HN.out]
          rfl
end Go.Proofs.YtadldblpkgackaaGreatDoor
set_option linter.unusedVariables false
set_option linter.unusedSimpArgs false
namespace Go.Proofs.YtadldblpkgackaaGreatDoor
open Go.RowKit
open Classical

theorem sameG (l : List Sch) (hl : Gd l) (a b : Option Addr) (c d : Nat) (w : World) (h1 : SlOf 3 RSch w a l) (h2 : SlOf 3 RSch w b l) :
    Calls Tryz.prog 10 #[.slice a l.length c, .slice b l.length d] w (Grows w (.bool true)) := by
  have l4 := gd_len hl
  have hs := gd_sml hl
  have q := Same_any l l a b c d w h1 h2 (by omega) (by omega) (fun s h => ⟨(hs s h).2.1, fun r hr => ((hs s h).2.2 r hr).2.1⟩) (fun s h => ⟨(hs s h).2.1, fun r hr => ((hs s h).2.2 r hr).2.1⟩)
  rw [decide_eq_true rfl] at q
  exact q
theorem mergeOk (l m : List Sch) (hl : Gd l) (hm : Gd m) (hn : NC l m) (a b : Option Addr) (c d : Nat) (w : World) (h1 : SlOf 3 RSch w a l) (h2 : SlOf 3 RSch w b m) :
    Calls Tryz.prog 19 #[.slice a l.length c, .slice b m.length d] w fun e w' => ∃ p c' q, e = .returned (.tuple #[.slice p q.length c', .int .i64 0]) ∧ Gr w w' ∧ SlOf 3 RSch w' p q ∧ IsMerge l m q :=
  (merge_any l m hl hm a b c d w h1 h2).mono (by
    rintro e w' ⟨hg, ⟨hx, _⟩ | ⟨_, p, c', q, he, hs, hi⟩⟩
    · exact absurd hn hx
    · exact ⟨p, c', q, he, hg, hs, hi⟩)
theorem mergeNo (l m : List Sch) (hl : Gd l) (hm : Gd m) (hn : ¬ NC l m) (a b : Option Addr) (c d : Nat) (w : World) (h1 : SlOf 3 RSch w a l) (h2 : SlOf 3 RSch w b m) :
    Calls Tryz.prog 19 #[.slice a l.length c, .slice b m.length d] w (Grows w (.tuple #[.slice none 0 0, .int .i64 8])) :=
  (merge_any l m hl hm a b c d w h1 h2).mono (by
    rintro e w' ⟨hg, ⟨_, he⟩ | ⟨hx, _⟩⟩
    · exact ⟨he, hg⟩
    · exact absurd hx hn)
/-- A merge that gives what is known. -/
theorem mergeIs (l m r : List Sch) (hl : Gd l) (hm : Gd m) (hn : NC l m) (hr : ∀ q, IsMerge l m q → q = r) (a b : Option Addr) (c d : Nat) (w : World) (h1 : SlOf 3 RSch w a l) (h2 : SlOf 3 RSch w b m) :
    Calls Tryz.prog 19 #[.slice a l.length c, .slice b m.length d] w fun e w' => ∃ p c', e = .returned (.tuple #[.slice p r.length c', .int .i64 0]) ∧ Gr w w' ∧ SlOf 3 RSch w' p r :=
  (mergeOk l m hl hm hn a b c d w h1 h2).mono (by
    rintro e w' ⟨p, c', q, he, hg, hs, hi⟩
    have := hr q hi
    subst this
    exact ⟨p, c', he, hg, hs⟩)
theorem gd_nil : Gd [] := ⟨List.nil_sublist _, fun s h => by cases h⟩
theorem nc_nil (l : List Sch) : NC l [] := fun s _ t h => by cases h
theorem sl_nilS (w : World) : SlOf 3 RSch w none [] := fun k h => absurd h (by simp)
theorem sl_valS {w : World} {base n c : Nat} {a : Option Addr} {l : List SM} (h : w.ownsRow base 24 3 (.slice a n c) l.length (l.flatMap SM.enc)) : n = l.length := by
  rcases h.2 with ⟨e, z⟩ | ⟨g, cap, cur, e, _⟩
  · cases e; exact z.symm
  · cases e; rfl
/-- The two parts so far. -/
structure PartAt (b n0 : Nat) (w2 wr : World) (vb vc : Value) (bl cl : List SM) : Prop where
  ob : wr.ownsRow w2.heap.size 24 3 vb bl.length (bl.flatMap SM.enc)
  oc : wr.ownsRow w2.heap.size 24 3 vc cl.length (cl.flatMap SM.enc)
  ap : vb.ownBlock = none ∨ vb.ownBlock ≠ vc.ownBlock
  mv : Mv b n0 w2 wr
theorem PartAt.gr {b n0 : Nat} {w2 wr w' : World} {vb vc : Value} {bl cl : List SM} (h : PartAt b n0 w2 wr vb vc bl cl) (hg : Gr wr w') : PartAt b n0 w2 w' vb vc bl cl := ⟨Gr.owns h.ob hg, Gr.owns h.oc hg, h.ap, h.mv.gr hg⟩
theorem PartAt.moved {b n0 : Nat} {w2 wr w' : World} {vb vc : Value} {bl cl : List SM} (h : PartAt b n0 w2 wr vb vc bl cl) (hb : b < w2.heap.size) (hg : Mv b n0 wr w') : PartAt b n0 w2 w' vb vc bl cl := ⟨hg.owns h.ob hb, hg.owns h.oc hb, h.ap, h.mv.trans hb hg⟩
theorem PartAt.flip {b n0 : Nat} {w2 wr : World} {vb vc : Value} {bl cl : List SM} (h : PartAt b n0 w2 wr vb vc bl cl) : PartAt b n0 w2 wr vc vb cl bl := ⟨h.oc, h.ob, by
  cases hz : vc.ownBlock with
  | none => exact .inl rfl
  | some g => exact .inr (fun e => h.ap.elim (fun q => by rw [q] at e; cases e) (fun q => q (by rw [hz, e]))), h.mv⟩
theorem PartAt.push {b n0 : Nat} {w2 wr wz : World} {vb vc v' : Value} {bl cl : List SM} {s : SM} (h : PartAt b n0 w2 wr vb vc bl cl) (hg : wr.grownBy wz vb.ownBlock) (ho : wz.ownsRow w2.heap.size 24 3 v' (bl.length + 1) (bl.flatMap SM.enc ++ s.enc))
    (hat : v'.ownBlock = vb.ownBlock ∨ v'.ownBlock = some wr.heap.size) : PartAt b n0 w2 wz v' vc (bl ++ [s]) cl := by
  have ap2 : vc.ownBlock = none ∨ vc.ownBlock ≠ vb.ownBlock := h.flip.ap
  refine ⟨by rw [List.length_append, List.flatMap_append, List.flatMap_cons, List.flatMap_nil, List.append_nil]; exact ho, h.oc.kept hg ap2, ?_, h.mv.grown hg (fun k e => (h.ob.lt k e).1)⟩
  rcases hat with q | q
  · rw [q]; exact h.ap
  · refine .inr (fun e => ?_)
    have := owns_block h.oc wr.heap.size (by rw [← e, q])
    omega
theorem sub_push {α : Type} {l out : List α} {k : Nat} (h : l.Sublist (out.take k)) (hk : k < out.length) : (l ++ [out[k]]).Sublist (out.take (k + 1)) := by
  rw [List.take_succ_eq_append_getElem hk]; exact h.append (List.Sublist.refl _)
theorem sub_more {α : Type} {l out : List α} {k : Nat} (h : l.Sublist (out.take k)) : l.Sublist (out.take (k + 1)) := h.trans (List.take_sublist_take_left (Nat.le_succ _))
set_option maxRecDepth 100000 in
set_option maxHeartbeats 32000000 in
theorem merges_walk (a : Option Addr) (len cap : Nat) (zs : List Int) (w : World) (h : RowIn w a len cap zs) (hl : Libs w) :
    Calls Tryz.prog 7 #[.slice a len cap] w (Grows w (.bool true)) := by
  have H := Lib.hid h
  have L := Lib.hid hl
  clear h hl
  obtain ⟨i0, hi, hy0, hy1, hy2⟩ := info_parts infoSch
  go_enter Tryz.func7, Tryz.ntmps7
  go_wp2_with fail
  refine (newTape_any w a len cap zs H.out).mono ?_
  rintro e w1 ⟨b, n0, rfl, ht, hg, hb, _⟩
  have TP := Lib.hid (show Tp w1 b n0 from ⟨0, ht⟩)
  have G1 := Lib.hid hg
  have BW := Lib.hid hb
  clear ht hg hb
  go_wp2_with fail
  refine (schemas_any w1 b n0 TP.out).mono ?_
  rintro e w2 ⟨v, out, rfl, hoa, hsub, hgo, hmv⟩
  obtain ⟨va, vac, rfl⟩ := owns_slice hoa.own
  have OA := Lib.hid hoa
  have GO := Lib.hid hgo
  have G2 : Hid (Gr w w2) := Lib.hid (hmv.out G1.out BW.out)
  have TP2 := Lib.hid (hmv.tp TP.out)
  have B1 : Hid (b < w1.heap.size) := Lib.hid TP.out.has
  have B2 : Hid (b < w2.heap.size) := Lib.hid TP2.out.has
  have GA : Hid (Gd (out.map SM.sch)) := Lib.hid ⟨by rw [comp_sch]; exact hsub, fun s hs => by
    obtain ⟨m, hm, rfl⟩ := List.mem_map.1 hs
    exact good_data (hgo m hm) (hoa.rls m hm)⟩
  have LO : Hid (out.length ≤ 4) := Lib.hid (by have := gd_len GA.out; rwa [List.length_map] at this)
  clear hoa hsub hgo hmv
  obtain ⟨n, hn⟩ : ∃ n, out.length = n := ⟨_, rfl⟩
  have NL := Lib.hid hn
  rw [hn] at LO ⊢
  have n4 := LO.out
  clear hn
  go_wp2_with fail
  go_loopw [27, 5, 6] (fun i vb vc wr => ∃ (k : Nat) (bl cl : List SM), k ≤ n ∧ i = .int .i64 k ∧ PartAt b n0 w2 wr vb vc bl cl ∧ bl.Sublist (out.take k) ∧ cl.Sublist (out.take k)) (fun i _ _ _ => n - (intOf i).toNat)
  case atStart => exact ⟨0, [], [], Nat.zero_le _, rfl, ⟨World.ownsRow_nil _ _ _ _, World.ownsRow_nil _ _ _ _, .inl rfl, Mv.refl TP2.out⟩, List.nil_sublist _, List.nil_sublist _⟩
  case round =>
    obtain ⟨k, bl, cl, hk, rfl, hpa, hsb, hsc⟩ := hrel
    have PA := Lib.hid hpa
    have SB := Lib.hid hsb
    have SC := Lib.hid hsc
    obtain ⟨xb, yb, hvb⟩ := owns_slice hpa.ob
    obtain ⟨xc, yc, hvc⟩ := owns_slice hpa.oc
    subst hvb hvc
    have BLE : Hid (bl.length ≤ 4) := Lib.hid (by have := hsb.length_le; rw [List.length_take, NL.out] at this; omega)
    have CLE : Hid (cl.length ≤ 4) := Lib.hid (by have := hsc.length_le; rw [List.length_take, NL.out] at this; omega)
    clear hpa hsb hsc
    by_cases hlt : k < n
    · have hko : k < out.length := by rw [NL.out]; exact hlt
      have OR := OA.out.mv (fun s hs => (GO.out s hs).hi) B1.out PA.out.mv
      obtain ⟨g, cap2, e1, _, _, hc⟩ := owns_cell OR.own (by omega)
      obtain ⟨rfl, rfl⟩ : va = some ⟨g, 0, none⟩ ∧ vac = cap2 := by cases e1; exact ⟨rfl, rfl⟩
      have hf := fun j (hj : j < 3) => flat_at SM.enc 3 (fun _ => rfl) out k j hko hj
      have h2 : ∀ j, j < 3 → wr.cell? ⟨g, k * 3 + j, none⟩ = (SM.enc (out[k]'hko))[j]? := fun j hj => by
        rw [hc (k * 3 + j) (by omega)]; exact hf j hj
      obtain ⟨ra, rc, hrv⟩ := owns_slice (OR.rls (out[k]'hko) (List.getElem_mem hko)).own
      have SB1 := Lib.hid (sub_push SB.out hko)
      have SC1 := Lib.hid (sub_push SC.out hko)
      obtain ⟨sm, hsm⟩ : ∃ s, (out[k]'hko) = s := ⟨_, rfl⟩
      have d0 : wr.cell? ⟨g, k * 3, none⟩ = some (.string (bs (out[k]'hko).comp)) := h2 0 (by omega)
      have d1 : wr.cell? ⟨g, k * 3 + 1, none⟩ = some (.bool (out[k]'hko).closed) := h2 1 (by omega)
      have d2 : wr.cell? ⟨g, k * 3 + 2, none⟩ = some (out[k]'hko).v := h2 2 (by omega)
      clear h2 hc hf OR
      rw [hsm] at d0 d1 d2 hrv SB1 SC1
      obtain ⟨mc, mcl, mrs, mv⟩ := sm
      simp only at hrv
      subst hrv
      have c0 : wr.cell? ⟨g, k * 3, none⟩ = some (.string (bs mc)) := d0
      have c1 : wr.cell? ⟨g, k * 3 + 1, none⟩ = some (.bool mcl) := d1
      have c2 : wr.cell? ⟨g, k * 3 + 2, none⟩ = some (.slice ra mrs.length rc) := d2
      have hh := has_of_cell c0
      have kk : (k : Int) < n := by omega
      have BX := Lib.hid (Row.new wr #[.string (bs mc), .bool mcl, .slice ra mrs.length rc] 24)
      have PXB : Hid (some wr.heap.size ≠ (Value.slice xb bl.length yb).ownBlock) := Lib.hid (fun e => by have := owns_block PA.out.ob _ e.symm; omega)
      have PXC : Hid (some wr.heap.size ≠ (Value.slice xc cl.length yc).ownBlock) := Lib.hid (fun e => by have := owns_block PA.out.oc _ e.symm; omega)
      clear e1 hsm d0 d1 d2
      go_wp2_with fail
      obtain ⟨W4, hW4⟩ : ∃ W : World, Hid (W = wr.alloc (.cells #[.string (bs mc), .bool mcl, .slice ra mrs.length rc] 24)) := ⟨_, Lib.hid rfl⟩
      have G4 : Hid (Gr wr W4) := Lib.hid (by rw [hW4.out]; exact (Gr.refl _).alloc _)
      rw [← hW4.out] at BX ⊢
      obtain ⟨PX, hPX⟩ : ∃ N : Nat, Hid (wr.heap.size = N) := ⟨_, Lib.hid rfl⟩
      rw [hPX.out] at BX PXB PXC ⊢
      have PA4 := Lib.hid (PA.out.gr G4.out)
      have BP : Hid (b < PX) := Lib.hid (by rw [← hPX.out]; exact Nat.lt_of_lt_of_le B2.out PA.out.mv.size)
      clear hW4 hPX c0 c1 c2 hh G4
      have TP4 : Hid (Tp W4 b n0) := Lib.hid (PA4.out.mv.tp TP2.out)
      refine (nM_any W4 b n0 2 TP4.out (by omega) (by omega)).mono ?_
      rintro e w5 ⟨x, rfl, hx, hm5⟩
      have PA5 := Lib.hid (PA4.out.moved B2.out hm5)
      have BX5 := Lib.hid (hm5.row BX.out (by have := BP.out; omega))
      clear hm5 BX PA4 TP4
      by_cases hx2 : x = 0
      · subst hx2
        have OWX := Lib.hid (PA5.out.ob.alloc (.cells #[.string (bs mc), .bool mcl, .slice ra mrs.length rc] 24))
        have NR := Lib.hid (row_cells (Row.new w5 #[.string (bs mc), .bool mcl, .slice ra mrs.length rc] 24))
        have b0 : w5.cell? ⟨PX, 0, none⟩ = some (.string (bs mc)) := BX5.out.cell 0 (by simp)
        have b1 : w5.cell? ⟨PX, 1, none⟩ = some (.bool mcl) := BX5.out.cell 1 (by simp)
        have b2 : w5.cell? ⟨PX, 2, none⟩ = some (.slice ra mrs.length rc) := BX5.out.cell 2 (by simp)
        have hb := has_of_cell b0
        go_wp2_with (at_builtin; refine wpList_append_own_at _ rfl _ _ 29 rfl w2.heap.size 24 i0 (.agg #[.string (bs []), .bool false, .slice none 0 0]) 3 48 Tryz.underlying29 hi hy0 hy1 hy2 rfl (by decide) _ bl.length (bl.flatMap SM.enc) rfl OWX.out ⟨w5.heap.size, 0, none⟩ 1 1 [.string (bs mc), .bool mcl, .slice ra mrs.length rc] rfl rfl NR.out (SM.enc_one (⟨mc, mcl, mrs, .slice ra mrs.length rc⟩ : SM) rfl) (by unfold maxLen; have := BLE.out; have := CLE.out; omega) (by have := BLE.out; have := CLE.out; omega) (by have := PA5.out.mv.size; simp; omega) ?_; intro v' wz hown' hgrow hnil hat; have HOz := Lib.hid hown'; have HGz := Lib.hid hgrow; have HAz := Lib.hid hat; clear hown' hgrow hnil hat b0 b1 b2 hb)
        have ga : Hid (Gr w5 (w5.alloc (.cells #[.string (bs mc), .bool mcl, .slice ra mrs.length rc] 24))) := Lib.hid ((Gr.refl w5).alloc _)
        have PA6 : Hid (PartAt b n0 w2 wz v' (.slice xc cl.length yc) (bl ++ [(⟨mc, mcl, mrs, .slice ra mrs.length rc⟩ : SM)]) cl) := Lib.hid ((PA5.out.gr ga.out).push (s := (⟨mc, mcl, mrs, .slice ra mrs.length rc⟩ : SM)) HGz.out HOz.out HAz.out)
        have BX6 := Lib.hid ((BX5.out.gr ga.out).kept HGz.out PXB.out)
        clear HGz HOz HAz ga OWX NR
        have TP6 : Hid (Tp wz b n0) := Lib.hid (PA6.out.mv.tp TP2.out)
        refine (nM_any wz b n0 2 TP6.out (by omega) (by omega)).mono ?_
        rintro e w7 ⟨y, rfl, hy, hm7⟩
        have PA7 := Lib.hid (PA6.out.moved B2.out hm7)
        have BX7 := Lib.hid (hm7.row BX6.out (by have := BP.out; omega))
        clear hm7 TP6
        by_cases hy2 : y = 0
        · subst hy2
          have OWX := Lib.hid (PA7.out.oc.alloc (.cells #[.string (bs mc), .bool mcl, .slice ra mrs.length rc] 24))
          have NR := Lib.hid (row_cells (Row.new w7 #[.string (bs mc), .bool mcl, .slice ra mrs.length rc] 24))
          have b0 : w7.cell? ⟨PX, 0, none⟩ = some (.string (bs mc)) := BX7.out.cell 0 (by simp)
          have b1 : w7.cell? ⟨PX, 1, none⟩ = some (.bool mcl) := BX7.out.cell 1 (by simp)
          have b2 : w7.cell? ⟨PX, 2, none⟩ = some (.slice ra mrs.length rc) := BX7.out.cell 2 (by simp)
          have hb := has_of_cell b0
          go_wp2_with (at_builtin; refine wpList_append_own_at _ rfl _ _ 29 rfl w2.heap.size 24 i0 (.agg #[.string (bs []), .bool false, .slice none 0 0]) 3 48 Tryz.underlying29 hi hy0 hy1 hy2 rfl (by decide) _ cl.length (cl.flatMap SM.enc) rfl OWX.out ⟨w7.heap.size, 0, none⟩ 1 1 [.string (bs mc), .bool mcl, .slice ra mrs.length rc] rfl rfl NR.out (SM.enc_one (⟨mc, mcl, mrs, .slice ra mrs.length rc⟩ : SM) rfl) (by unfold maxLen; have := BLE.out; have := CLE.out; omega) (by have := BLE.out; have := CLE.out; omega) (by have := PA7.out.mv.size; simp; omega) ?_; intro v' wz hown' hgrow hnil hat; have HOz := Lib.hid hown'; have HGz := Lib.hid hgrow; have HAz := Lib.hid hat; clear hown' hgrow hnil hat b0 b1 b2 hb)
          go_roundw
          case rel =>
            have ga : Gr w7 (w7.alloc (.cells #[.string (bs mc), .bool mcl, .slice ra mrs.length rc] 24)) := (Gr.refl w7).alloc _
            exact ⟨k + 1, (bl ++ [(⟨mc, mcl, mrs, .slice ra mrs.length rc⟩ : SM)]), cl ++ [(⟨mc, mcl, mrs, .slice ra mrs.length rc⟩ : SM)], by omega, by go_num, ((PA7.out.gr ga).flip.push (s := (⟨mc, mcl, mrs, .slice ra mrs.length rc⟩ : SM)) HGz.out HOz.out HAz.out).flip, SB1.out, SC1.out⟩
          case measure => simp [intOf]; omega
        · have hyb : (y == 0) = false := by rw [beq_eq_false_iff_ne]; exact hy2
          go_wp2_with fail
          go_roundw
          case rel => exact ⟨k + 1, (bl ++ [(⟨mc, mcl, mrs, .slice ra mrs.length rc⟩ : SM)]), cl, by omega, by go_num, PA7.out, SB1.out, sub_more SC.out⟩
          case measure => simp [intOf]; omega
      · have hxb : (x == 0) = false := by rw [beq_eq_false_iff_ne]; exact hx2
        go_wp2_with fail
        have TP6 : Hid (Tp w5 b n0) := Lib.hid (PA5.out.mv.tp TP2.out)
        refine (nM_any w5 b n0 2 TP6.out (by omega) (by omega)).mono ?_
        rintro e w7 ⟨y, rfl, hy, hm7⟩
        have PA7 := Lib.hid (PA5.out.moved B2.out hm7)
        have BX7 := Lib.hid (hm7.row BX5.out (by have := BP.out; omega))
        clear hm7 TP6
        by_cases hy2 : y = 0
        · subst hy2
          have OWX := Lib.hid (PA7.out.oc.alloc (.cells #[.string (bs mc), .bool mcl, .slice ra mrs.length rc] 24))
          have NR := Lib.hid (row_cells (Row.new w7 #[.string (bs mc), .bool mcl, .slice ra mrs.length rc] 24))
          have b0 : w7.cell? ⟨PX, 0, none⟩ = some (.string (bs mc)) := BX7.out.cell 0 (by simp)
          have b1 : w7.cell? ⟨PX, 1, none⟩ = some (.bool mcl) := BX7.out.cell 1 (by simp)
          have b2 : w7.cell? ⟨PX, 2, none⟩ = some (.slice ra mrs.length rc) := BX7.out.cell 2 (by simp)
          have hb := has_of_cell b0
          go_wp2_with (at_builtin; refine wpList_append_own_at _ rfl _ _ 29 rfl w2.heap.size 24 i0 (.agg #[.string (bs []), .bool false, .slice none 0 0]) 3 48 Tryz.underlying29 hi hy0 hy1 hy2 rfl (by decide) _ cl.length (cl.flatMap SM.enc) rfl OWX.out ⟨w7.heap.size, 0, none⟩ 1 1 [.string (bs mc), .bool mcl, .slice ra mrs.length rc] rfl rfl NR.out (SM.enc_one (⟨mc, mcl, mrs, .slice ra mrs.length rc⟩ : SM) rfl) (by unfold maxLen; have := BLE.out; have := CLE.out; omega) (by have := BLE.out; have := CLE.out; omega) (by have := PA7.out.mv.size; simp; omega) ?_; intro v' wz hown' hgrow hnil hat; have HOz := Lib.hid hown'; have HGz := Lib.hid hgrow; have HAz := Lib.hid hat; clear hown' hgrow hnil hat b0 b1 b2 hb)
          go_roundw
          case rel =>
            have ga : Gr w7 (w7.alloc (.cells #[.string (bs mc), .bool mcl, .slice ra mrs.length rc] 24)) := (Gr.refl w7).alloc _
            exact ⟨k + 1, bl, cl ++ [(⟨mc, mcl, mrs, .slice ra mrs.length rc⟩ : SM)], by omega, by go_num, ((PA7.out.gr ga).flip.push (s := (⟨mc, mcl, mrs, .slice ra mrs.length rc⟩ : SM)) HGz.out HOz.out HAz.out).flip, sub_more SB.out, SC1.out⟩
          case measure => simp [intOf]; omega
        · have hyb : (y == 0) = false := by rw [beq_eq_false_iff_ne]; exact hy2
          go_wp2_with fail
          go_roundw
          case rel => exact ⟨k + 1, bl, cl, by omega, by go_num, PA7.out, sub_more SB.out, sub_more SC.out⟩
          case measure => simp [intOf]; omega
    · obtain rfl : k = n := by omega
      rw [List.take_of_length_le (by rw [NL.out]; exact Nat.le_refl _)] at SB SC
      have TP4 : Hid (Tp wr b n0) := Lib.hid (PA.out.mv.tp TP2.out)
      go_wp2_with fail
      refine (nM_any wr b n0 3 TP4.out (by omega) (by omega)).mono ?_
      rintro e w5 ⟨x, rfl, hx, hm5⟩
      have PA5 := Lib.hid (PA.out.moved B2.out hm5)
      clear hm5 TP4 PA
      obtain ⟨la, hla⟩ : ∃ l, out.map SM.sch = l := ⟨_, rfl⟩
      obtain ⟨lb, hlb⟩ : ∃ l, bl.map SM.sch = l := ⟨_, rfl⟩
      have LA := Lib.hid hla
      have LB := Lib.hid hlb
      have e1 : k = la.length := by rw [← hla, List.length_map, NL.out]
      have e2 : bl.length = lb.length := by rw [← hlb, List.length_map]
      have GDA : Hid (Gd la) := Lib.hid (by rw [← hla]; exact GA.out)
      have GDB : Hid (Gd lb) := Lib.hid (by rw [← hlb]; exact gd_sub GA.out (SB.out.map _))
      have SUBM : Hid (∀ s ∈ lb, s ∈ la) := Lib.hid (fun s hs => by rw [← hla]; rw [← hlb] at hs; exact (SB.out.map _).subset hs)
      rw [e2]
      clear hla hlb hk hlt
      subst e1
      by_cases hx2 : x = 0
      · subst hx2
        have TP5 : Hid (Tp w5 b n0) := Lib.hid (PA5.out.mv.tp TP2.out)
        go_wp2_with fail
        refine (schemas_any w5 b n0 TP5.out).mono ?_
        rintro e w6 ⟨v6, out6, rfl, hoa6, hsub6, hgo6, hmv6⟩
        obtain ⟨v6a, v6c, rfl⟩ := owns_slice hoa6.own
        have PA6 := Lib.hid (PA5.out.moved B2.out hmv6)
        have OR := OA.out.mv (fun s hs => (GO.out s hs).hi) B1.out PA6.out.mv
        have SLA : Hid (SlOf 3 RSch w6 va la) := Lib.hid (by rw [← LA.out]; exact OR.sl.2)
        have SLB : Hid (SlOf 3 RSch w6 xb lb) := Lib.hid (by rw [← LB.out]; exact outs_sl PA6.out.ob (fun s hs => OR.rls s (SB.out.subset hs)))
        obtain ⟨lc, hlc⟩ : ∃ l, out6.map SM.sch = l := ⟨_, rfl⟩
        have e3 : out6.length = lc.length := by rw [← hlc, List.length_map]
        have SLC : Hid (SlOf 3 RSch w6 v6a lc) := Lib.hid (by rw [← hlc]; exact hoa6.sl.2)
        have GDC : Hid (Gd lc) := Lib.hid (by
          rw [← hlc]
          exact ⟨by rw [comp_sch]; exact hsub6, fun s hs => by
            obtain ⟨m, hm, rfl⟩ := List.mem_map.1 hs
            exact good_data (hgo6 m hm) (hoa6.rls m hm)⟩)
        have GW : Hid (Gr w w6) := Lib.hid (PA6.out.mv.out G2.out BW.out)
        rw [e3]
        clear hoa6 hsub6 hgo6 hmv6 OR hlc e3 e2 LA LB TP5
        have ML := Lib.hid (fun (q : List Sch) => merge_law (ab := q) (ba := q) (aa := q) GDA.out GDB.out GDC.out SUBM.out)
        go_wp2_with fail
        refine (mergeIs la lb la GDA.out GDB.out (ML.out []).1 (fun q h => (ML.out q).2.2.2.1 h) va xb vac yb w6 SLA.out SLB.out).mono ?_
        rintro e wx1 ⟨p1, c1, rfl, hg1, hs1⟩
        have A1 := Lib.hid hs1
        have SLA1 := Lib.hid (SLA.out.giC hg1)
        have SLB1 := Lib.hid (SLB.out.giC hg1)
        have SLC1 := Lib.hid (SLC.out.giC hg1)
        have GW1 := Lib.hid (GW.out.trans hg1)
        clear hg1 hs1
        go_wp2_with fail
        refine (mergeIs lb la la GDB.out GDA.out (ML.out []).2.1 (fun q h => (ML.out q).2.2.2.2.1 h) xb va yb vac wx1 SLB1.out SLA1.out).mono ?_
        rintro e wx2 ⟨p2, c2, rfl, hg2, hs2⟩
        have A2 := Lib.hid hs2
        have SLA2 := Lib.hid (SLA1.out.giC hg2)
        have SLB2 := Lib.hid (SLB1.out.giC hg2)
        have SLC2 := Lib.hid (SLC1.out.giC hg2)
        have A12 := Lib.hid (A1.out.giC hg2)
        have GW2 := Lib.hid (GW1.out.trans hg2)
        clear hg2 hs2
        by_cases hbc : NC lb lc
        · go_wp2_with fail
          refine (mergeOk lb lc GDB.out GDC.out hbc xb v6a yb v6c wx2 SLB2.out SLC2.out).mono ?_
          rintro e wx3 ⟨p3, c3, bc, rfl, hg3, hs3, him3⟩
          have BC := Lib.hid hs3
          have IBC := Lib.hid him3
          have GDbc := Lib.hid him3.1
          have SLA3 := Lib.hid (SLA2.out.giC hg3)
          have SLB3 := Lib.hid (SLB2.out.giC hg3)
          have SLC3 := Lib.hid (SLC2.out.giC hg3)
          have A13 := Lib.hid (A12.out.giC hg3)
          have A23 := Lib.hid (A2.out.giC hg3)
          have GW3 := Lib.hid (GW2.out.trans hg3)
          clear hg3 hs3 him3
          have ML2 := Lib.hid ((ML.out []).2.2.2.2.2.2.2 bc IBC.out)
          by_cases hac : NC la lc
          · go_wp2_with fail
            refine (mergeOk la lc GDA.out GDC.out hac p1 v6a c1 v6c wx3 A13.out SLC3.out).mono ?_
            rintro e wx4 ⟨p4, c4, xq, rfl, hg4, hs4, him4⟩
            have X := Lib.hid hs4
            have IX := Lib.hid him4
            have GDxq := Lib.hid him4.1
            have SLA4 := Lib.hid (SLA3.out.giC hg4)
            have SLB4 := Lib.hid (SLB3.out.giC hg4)
            have SLC4 := Lib.hid (SLC3.out.giC hg4)
            have A14 := Lib.hid (A13.out.giC hg4)
            have A24 := Lib.hid (A23.out.giC hg4)
            have BC4 := Lib.hid (BC.out.giC hg4)
            have GW4 := Lib.hid (GW3.out.trans hg4)
            clear hg4 hs4 him4
            go_wp2_with fail
            refine (mergeOk la bc GDA.out GDbc.out (ML2.out.1.1 hac) va p3 vac c3 wx4 SLA4.out BC4.out).mono ?_
            rintro e wx5 ⟨p5, c5, yq, rfl, hg5, hs5, him5⟩
            have Y := Lib.hid hs5
            have IY := Lib.hid him5
            have GDyq := Lib.hid him5.1
            have SLA5 := Lib.hid (SLA4.out.giC hg5)
            have SLB5 := Lib.hid (SLB4.out.giC hg5)
            have SLC5 := Lib.hid (SLC4.out.giC hg5)
            have A15 := Lib.hid (A14.out.giC hg5)
            have A25 := Lib.hid (A24.out.giC hg5)
            have BC5 := Lib.hid (BC4.out.giC hg5)
            have X5 := Lib.hid (X.out.giC hg5)
            have GW5 := Lib.hid (GW4.out.trans hg5)
            clear hg5 hs5 him5
            go_wp2_with fail
            refine (mergeIs la la la GDA.out GDA.out (ML.out []).2.2.1 (fun q h => (ML.out q).2.2.2.2.2.1 h) va va vac vac wx5 SLA5.out SLA5.out).mono ?_
            rintro e wx6 ⟨p6, c6, rfl, hg6, hs6⟩
            have A3 := Lib.hid hs6
            have SLA6 := Lib.hid (SLA5.out.giC hg6)
            have SLB6 := Lib.hid (SLB5.out.giC hg6)
            have SLC6 := Lib.hid (SLC5.out.giC hg6)
            have A16 := Lib.hid (A15.out.giC hg6)
            have A26 := Lib.hid (A25.out.giC hg6)
            have BC6 := Lib.hid (BC5.out.giC hg6)
            have X6 := Lib.hid (X5.out.giC hg6)
            have Y6 := Lib.hid (Y.out.giC hg6)
            have GW6 := Lib.hid (GW5.out.trans hg6)
            clear hg6 hs6
            have hxy := ML2.out.2 xq yq IX.out IY.out
            subst hxy
            go_wp2_with fail
            refine (sameG la GDA.out p1 p2 c1 c2 wx6 A16.out A26.out).mono ?_
            rintro e wx7 ⟨rfl, hg7⟩
            have SLA7 := Lib.hid (SLA6.out.giC hg7)
            have SLB7 := Lib.hid (SLB6.out.giC hg7)
            have SLC7 := Lib.hid (SLC6.out.giC hg7)
            have A17 := Lib.hid (A16.out.giC hg7)
            have A27 := Lib.hid (A26.out.giC hg7)
            have BC7 := Lib.hid (BC6.out.giC hg7)
            have X7 := Lib.hid (X6.out.giC hg7)
            have Y7 := Lib.hid (Y6.out.giC hg7)
            have A37 := Lib.hid (A3.out.giC hg7)
            have GW7 := Lib.hid (GW6.out.trans hg7)
            clear hg7
            go_wp2_with fail
            refine (sameG la GDA.out p1 va c1 vac wx7 A17.out SLA7.out).mono ?_
            rintro e wx8 ⟨rfl, hg8⟩
            have SLA8 := Lib.hid (SLA7.out.giC hg8)
            have SLB8 := Lib.hid (SLB7.out.giC hg8)
            have SLC8 := Lib.hid (SLC7.out.giC hg8)
            have A18 := Lib.hid (A17.out.giC hg8)
            have A28 := Lib.hid (A27.out.giC hg8)
            have BC8 := Lib.hid (BC7.out.giC hg8)
            have X8 := Lib.hid (X7.out.giC hg8)
            have Y8 := Lib.hid (Y7.out.giC hg8)
            have A38 := Lib.hid (A37.out.giC hg8)
            have GW8 := Lib.hid (GW7.out.trans hg8)
            clear hg8
            go_wp2_with fail
            refine (sameG la GDA.out p6 va c6 vac wx8 A38.out SLA8.out).mono ?_
            rintro e wx9 ⟨rfl, hg9⟩
            have SLA9 := Lib.hid (SLA8.out.giC hg9)
            have SLB9 := Lib.hid (SLB8.out.giC hg9)
            have SLC9 := Lib.hid (SLC8.out.giC hg9)
            have A19 := Lib.hid (A18.out.giC hg9)
            have A29 := Lib.hid (A28.out.giC hg9)
            have BC9 := Lib.hid (BC8.out.giC hg9)
            have X9 := Lib.hid (X8.out.giC hg9)
            have Y9 := Lib.hid (Y8.out.giC hg9)
            have A39 := Lib.hid (A38.out.giC hg9)
            have GW9 := Lib.hid (GW8.out.trans hg9)
            clear hg9
            go_wp2_with fail
            refine (sameG xq GDxq.out p4 p5 c4 c5 wx9 X9.out Y9.out).mono ?_
            rintro e wx10 ⟨rfl, hg10⟩
            have SLA10 := Lib.hid (SLA9.out.giC hg10)
            have SLB10 := Lib.hid (SLB9.out.giC hg10)
            have SLC10 := Lib.hid (SLC9.out.giC hg10)
            have A110 := Lib.hid (A19.out.giC hg10)
            have A210 := Lib.hid (A29.out.giC hg10)
            have BC10 := Lib.hid (BC9.out.giC hg10)
            have X10 := Lib.hid (X9.out.giC hg10)
            have Y10 := Lib.hid (Y9.out.giC hg10)
            have A310 := Lib.hid (A39.out.giC hg10)
            have GW10 := Lib.hid (GW9.out.trans hg10)
            clear hg10
            go_wp2_with fail
            refine (awake09_any _ (L.out.gr GW10.out)).mono ?_
            rintro e wz ⟨rfl, hgz⟩
            have GZ := Lib.hid (GW10.out.trans hgz)
            clear hgz
            go_wp2_with fail
            go_ret
            exact ⟨rfl, GZ.out⟩
          · go_wp2_with fail
            refine (mergeNo la lc GDA.out GDC.out hac p1 v6a c1 v6c wx3 A13.out SLC3.out).mono ?_
            rintro e wx4 ⟨rfl, hg4⟩
            have SLA4 := Lib.hid (SLA3.out.giC hg4)
            have SLB4 := Lib.hid (SLB3.out.giC hg4)
            have SLC4 := Lib.hid (SLC3.out.giC hg4)
            have A14 := Lib.hid (A13.out.giC hg4)
            have A24 := Lib.hid (A23.out.giC hg4)
            have BC4 := Lib.hid (BC.out.giC hg4)
            have GW4 := Lib.hid (GW3.out.trans hg4)
            clear hg4
            go_wp2_with fail
            refine (mergeNo la bc GDA.out GDbc.out (fun h => hac (ML2.out.1.2 h)) va p3 vac c3 wx4 SLA4.out BC4.out).mono ?_
            rintro e wx5 ⟨rfl, hg5⟩
            have SLA5 := Lib.hid (SLA4.out.giC hg5)
            have SLB5 := Lib.hid (SLB4.out.giC hg5)
            have SLC5 := Lib.hid (SLC4.out.giC hg5)
            have A15 := Lib.hid (A14.out.giC hg5)
            have A25 := Lib.hid (A24.out.giC hg5)
            have BC5 := Lib.hid (BC4.out.giC hg5)
            have GW5 := Lib.hid (GW4.out.trans hg5)
            clear hg5
            go_wp2_with fail
            refine (mergeIs la la la GDA.out GDA.out (ML.out []).2.2.1 (fun q h => (ML.out q).2.2.2.2.2.1 h) va va vac vac wx5 SLA5.out SLA5.out).mono ?_
            rintro e wx6 ⟨p6, c6, rfl, hg6, hs6⟩
            have A3 := Lib.hid hs6
            have SLA6 := Lib.hid (SLA5.out.giC hg6)
            have SLB6 := Lib.hid (SLB5.out.giC hg6)
            have SLC6 := Lib.hid (SLC5.out.giC hg6)
            have A16 := Lib.hid (A15.out.giC hg6)
            have A26 := Lib.hid (A25.out.giC hg6)
            have BC6 := Lib.hid (BC5.out.giC hg6)
            have GW6 := Lib.hid (GW5.out.trans hg6)
            clear hg6 hs6
            go_wp2_with fail
            refine (sameG la GDA.out p1 p2 c1 c2 wx6 A16.out A26.out).mono ?_
            rintro e wx7 ⟨rfl, hg7⟩
            have SLA7 := Lib.hid (SLA6.out.giC hg7)
            have SLB7 := Lib.hid (SLB6.out.giC hg7)
            have SLC7 := Lib.hid (SLC6.out.giC hg7)
            have A17 := Lib.hid (A16.out.giC hg7)
            have A27 := Lib.hid (A26.out.giC hg7)
            have BC7 := Lib.hid (BC6.out.giC hg7)
            have A37 := Lib.hid (A3.out.giC hg7)
            have GW7 := Lib.hid (GW6.out.trans hg7)
            clear hg7
            go_wp2_with fail
            refine (sameG la GDA.out p1 va c1 vac wx7 A17.out SLA7.out).mono ?_
            rintro e wx8 ⟨rfl, hg8⟩
            have SLA8 := Lib.hid (SLA7.out.giC hg8)
            have SLB8 := Lib.hid (SLB7.out.giC hg8)
            have SLC8 := Lib.hid (SLC7.out.giC hg8)
            have A18 := Lib.hid (A17.out.giC hg8)
            have A28 := Lib.hid (A27.out.giC hg8)
            have BC8 := Lib.hid (BC7.out.giC hg8)
            have A38 := Lib.hid (A37.out.giC hg8)
            have GW8 := Lib.hid (GW7.out.trans hg8)
            clear hg8
            go_wp2_with fail
            refine (sameG la GDA.out p6 va c6 vac wx8 A38.out SLA8.out).mono ?_
            rintro e wx9 ⟨rfl, hg9⟩
            have SLA9 := Lib.hid (SLA8.out.giC hg9)
            have SLB9 := Lib.hid (SLB8.out.giC hg9)
            have SLC9 := Lib.hid (SLC8.out.giC hg9)
            have A19 := Lib.hid (A18.out.giC hg9)
            have A29 := Lib.hid (A28.out.giC hg9)
            have BC9 := Lib.hid (BC8.out.giC hg9)
            have A39 := Lib.hid (A38.out.giC hg9)
            have GW9 := Lib.hid (GW8.out.trans hg9)
            clear hg9
            go_wp2_with fail
            refine (sameG [] gd_nil none none 0 0 wx9 (sl_nilS _) (sl_nilS _)).mono ?_
            rintro e wx10 ⟨rfl, hg10⟩
            have SLA10 := Lib.hid (SLA9.out.giC hg10)
            have SLB10 := Lib.hid (SLB9.out.giC hg10)
            have SLC10 := Lib.hid (SLC9.out.giC hg10)
            have A110 := Lib.hid (A19.out.giC hg10)
            have A210 := Lib.hid (A29.out.giC hg10)
            have BC10 := Lib.hid (BC9.out.giC hg10)
            have A310 := Lib.hid (A39.out.giC hg10)
            have GW10 := Lib.hid (GW9.out.trans hg10)
            clear hg10
            go_wp2_with fail
            refine (awake09_any _ (L.out.gr GW10.out)).mono ?_
            rintro e wz ⟨rfl, hgz⟩
            have GZ := Lib.hid (GW10.out.trans hgz)
            clear hgz
            go_wp2_with fail
            go_ret
            exact ⟨rfl, GZ.out⟩
        · go_wp2_with fail
          refine (mergeNo lb lc GDB.out GDC.out hbc xb v6a yb v6c wx2 SLB2.out SLC2.out).mono ?_
          rintro e wx3 ⟨rfl, hg3⟩
          have SLA3 := Lib.hid (SLA2.out.giC hg3)
          have SLB3 := Lib.hid (SLB2.out.giC hg3)
          have SLC3 := Lib.hid (SLC2.out.giC hg3)
          have A13 := Lib.hid (A12.out.giC hg3)
          have A23 := Lib.hid (A2.out.giC hg3)
          have GW3 := Lib.hid (GW2.out.trans hg3)
          clear hg3
          have hac : Hid (¬ NC la lc) := Lib.hid ((ML.out []).2.2.2.2.2.2.1 hbc)
          go_wp2_with fail
          refine (mergeNo la lc GDA.out GDC.out hac.out p1 v6a c1 v6c wx3 A13.out SLC3.out).mono ?_
          rintro e wx4 ⟨rfl, hg4⟩
          have SLA4 := Lib.hid (SLA3.out.giC hg4)
          have SLB4 := Lib.hid (SLB3.out.giC hg4)
          have SLC4 := Lib.hid (SLC3.out.giC hg4)
          have A14 := Lib.hid (A13.out.giC hg4)
          have A24 := Lib.hid (A23.out.giC hg4)
          have GW4 := Lib.hid (GW3.out.trans hg4)
          clear hg4
          go_wp2_with fail
          refine (mergeOk la [] GDA.out gd_nil (nc_nil la) va none vac 0 wx4 SLA4.out (sl_nilS _)).mono ?_
          rintro e wx5 ⟨p5, c5, yq, rfl, hg5, hs5, him5⟩
          have SLA5 := Lib.hid (SLA4.out.giC hg5)
          have SLB5 := Lib.hid (SLB4.out.giC hg5)
          have SLC5 := Lib.hid (SLC4.out.giC hg5)
          have A15 := Lib.hid (A14.out.giC hg5)
          have A25 := Lib.hid (A24.out.giC hg5)
          have GW5 := Lib.hid (GW4.out.trans hg5)
          clear hg5 hs5 him5
          go_wp2_with fail
          refine (mergeIs la la la GDA.out GDA.out (ML.out []).2.2.1 (fun q h => (ML.out q).2.2.2.2.2.1 h) va va vac vac wx5 SLA5.out SLA5.out).mono ?_
          rintro e wx6 ⟨p6, c6, rfl, hg6, hs6⟩
          have A3 := Lib.hid hs6
          have SLA6 := Lib.hid (SLA5.out.giC hg6)
          have SLB6 := Lib.hid (SLB5.out.giC hg6)
          have SLC6 := Lib.hid (SLC5.out.giC hg6)
          have A16 := Lib.hid (A15.out.giC hg6)
          have A26 := Lib.hid (A25.out.giC hg6)
          have GW6 := Lib.hid (GW5.out.trans hg6)
          clear hg6 hs6
          go_wp2_with fail
          refine (sameG la GDA.out p1 p2 c1 c2 wx6 A16.out A26.out).mono ?_
          rintro e wx7 ⟨rfl, hg7⟩
          have SLA7 := Lib.hid (SLA6.out.giC hg7)
          have SLB7 := Lib.hid (SLB6.out.giC hg7)
          have SLC7 := Lib.hid (SLC6.out.giC hg7)
          have A17 := Lib.hid (A16.out.giC hg7)
          have A27 := Lib.hid (A26.out.giC hg7)
          have A37 := Lib.hid (A3.out.giC hg7)
          have GW7 := Lib.hid (GW6.out.trans hg7)
          clear hg7
          go_wp2_with fail
          refine (sameG la GDA.out p1 va c1 vac wx7 A17.out SLA7.out).mono ?_
          rintro e wx8 ⟨rfl, hg8⟩
          have SLA8 := Lib.hid (SLA7.out.giC hg8)
          have SLB8 := Lib.hid (SLB7.out.giC hg8)
          have SLC8 := Lib.hid (SLC7.out.giC hg8)
          have A18 := Lib.hid (A17.out.giC hg8)
          have A28 := Lib.hid (A27.out.giC hg8)
          have A38 := Lib.hid (A37.out.giC hg8)
          have GW8 := Lib.hid (GW7.out.trans hg8)
          clear hg8
          go_wp2_with fail
          refine (sameG la GDA.out p6 va c6 vac wx8 A38.out SLA8.out).mono ?_
          rintro e wx9 ⟨rfl, hg9⟩
          have SLA9 := Lib.hid (SLA8.out.giC hg9)
          have SLB9 := Lib.hid (SLB8.out.giC hg9)
          have SLC9 := Lib.hid (SLC8.out.giC hg9)
          have A19 := Lib.hid (A18.out.giC hg9)
          have A29 := Lib.hid (A28.out.giC hg9)
          have A39 := Lib.hid (A38.out.giC hg9)
          have GW9 := Lib.hid (GW8.out.trans hg9)
          clear hg9
          go_wp2_with fail
          refine (awake09_any _ (L.out.gr GW9.out)).mono ?_
          rintro e wz ⟨rfl, hgz⟩
          have GZ := Lib.hid (GW9.out.trans hgz)
          clear hgz
          go_wp2_with fail
          go_ret
          exact ⟨rfl, GZ.out⟩
      · have hxb : (x == 0) = false := by rw [beq_eq_false_iff_ne]; exact hx2
        have OR := OA.out.mv (fun s hs => (GO.out s hs).hi) B1.out PA5.out.mv
        have SLA : Hid (SlOf 3 RSch w5 va la) := Lib.hid (by rw [← LA.out]; exact OR.sl.2)
        have SLB : Hid (SlOf 3 RSch w5 xb lb) := Lib.hid (by rw [← LB.out]; exact outs_sl PA5.out.ob (fun s hs => OR.rls s (SB.out.subset hs)))
        obtain ⟨lc, hlc⟩ : ∃ l, cl.map SM.sch = l := ⟨_, rfl⟩
        have e3 : cl.length = lc.length := by rw [← hlc, List.length_map]
        have SLC : Hid (SlOf 3 RSch w5 xc lc) := Lib.hid (by rw [← hlc]; exact outs_sl PA5.out.oc (fun s hs => OR.rls s (SC.out.subset hs)))
        have GDC : Hid (Gd lc) := Lib.hid (by rw [← hlc]; exact gd_sub GA.out (SC.out.map _))
        have GW : Hid (Gr w w5) := Lib.hid (PA5.out.mv.out G2.out BW.out)
        rw [e3]
        clear OR hlc e3 e2 LA LB
        have ML := Lib.hid (fun (q : List Sch) => merge_law (ab := q) (ba := q) (aa := q) GDA.out GDB.out GDC.out SUBM.out)
        go_wp2_with fail
        refine (mergeIs la lb la GDA.out GDB.out (ML.out []).1 (fun q h => (ML.out q).2.2.2.1 h) va xb vac yb w5 SLA.out SLB.out).mono ?_
        rintro e wx1 ⟨p1, c1, rfl, hg1, hs1⟩
        have A1 := Lib.hid hs1
        have SLA1 := Lib.hid (SLA.out.giC hg1)
        have SLB1 := Lib.hid (SLB.out.giC hg1)
        have SLC1 := Lib.hid (SLC.out.giC hg1)
        have GW1 := Lib.hid (GW.out.trans hg1)
        clear hg1 hs1
        go_wp2_with fail
        refine (mergeIs lb la la GDB.out GDA.out (ML.out []).2.1 (fun q h => (ML.out q).2.2.2.2.1 h) xb va yb vac wx1 SLB1.out SLA1.out).mono ?_
        rintro e wx2 ⟨p2, c2, rfl, hg2, hs2⟩
        have A2 := Lib.hid hs2
        have SLA2 := Lib.hid (SLA1.out.giC hg2)
        have SLB2 := Lib.hid (SLB1.out.giC hg2)
        have SLC2 := Lib.hid (SLC1.out.giC hg2)
        have A12 := Lib.hid (A1.out.giC hg2)
        have GW2 := Lib.hid (GW1.out.trans hg2)
        clear hg2 hs2
        by_cases hbc : NC lb lc
        · go_wp2_with fail
          refine (mergeOk lb lc GDB.out GDC.out hbc xb xc yb yc wx2 SLB2.out SLC2.out).mono ?_
          rintro e wx3 ⟨p3, c3, bc, rfl, hg3, hs3, him3⟩
          have BC := Lib.hid hs3
          have IBC := Lib.hid him3
          have GDbc := Lib.hid him3.1
          have SLA3 := Lib.hid (SLA2.out.giC hg3)
          have SLB3 := Lib.hid (SLB2.out.giC hg3)
          have SLC3 := Lib.hid (SLC2.out.giC hg3)
          have A13 := Lib.hid (A12.out.giC hg3)
          have A23 := Lib.hid (A2.out.giC hg3)
          have GW3 := Lib.hid (GW2.out.trans hg3)
          clear hg3 hs3 him3
          have ML2 := Lib.hid ((ML.out []).2.2.2.2.2.2.2 bc IBC.out)
          by_cases hac : NC la lc
          · go_wp2_with fail
            refine (mergeOk la lc GDA.out GDC.out hac p1 xc c1 yc wx3 A13.out SLC3.out).mono ?_
            rintro e wx4 ⟨p4, c4, xq, rfl, hg4, hs4, him4⟩
            have X := Lib.hid hs4
            have IX := Lib.hid him4
            have GDxq := Lib.hid him4.1
            have SLA4 := Lib.hid (SLA3.out.giC hg4)
            have SLB4 := Lib.hid (SLB3.out.giC hg4)
            have SLC4 := Lib.hid (SLC3.out.giC hg4)
            have A14 := Lib.hid (A13.out.giC hg4)
            have A24 := Lib.hid (A23.out.giC hg4)
            have BC4 := Lib.hid (BC.out.giC hg4)
            have GW4 := Lib.hid (GW3.out.trans hg4)
            clear hg4 hs4 him4
            go_wp2_with fail
            refine (mergeOk la bc GDA.out GDbc.out (ML2.out.1.1 hac) va p3 vac c3 wx4 SLA4.out BC4.out).mono ?_
            rintro e wx5 ⟨p5, c5, yq, rfl, hg5, hs5, him5⟩
            have Y := Lib.hid hs5
            have IY := Lib.hid him5
            have GDyq := Lib.hid him5.1
            have SLA5 := Lib.hid (SLA4.out.giC hg5)
            have SLB5 := Lib.hid (SLB4.out.giC hg5)
            have SLC5 := Lib.hid (SLC4.out.giC hg5)
            have A15 := Lib.hid (A14.out.giC hg5)
            have A25 := Lib.hid (A24.out.giC hg5)
            have BC5 := Lib.hid (BC4.out.giC hg5)
            have X5 := Lib.hid (X.out.giC hg5)
            have GW5 := Lib.hid (GW4.out.trans hg5)
            clear hg5 hs5 him5
            go_wp2_with fail
            refine (mergeIs la la la GDA.out GDA.out (ML.out []).2.2.1 (fun q h => (ML.out q).2.2.2.2.2.1 h) va va vac vac wx5 SLA5.out SLA5.out).mono ?_
            rintro e wx6 ⟨p6, c6, rfl, hg6, hs6⟩
            have A3 := Lib.hid hs6
            have SLA6 := Lib.hid (SLA5.out.giC hg6)
            have SLB6 := Lib.hid (SLB5.out.giC hg6)
            have SLC6 := Lib.hid (SLC5.out.giC hg6)
            have A16 := Lib.hid (A15.out.giC hg6)
            have A26 := Lib.hid (A25.out.giC hg6)
            have BC6 := Lib.hid (BC5.out.giC hg6)
            have X6 := Lib.hid (X5.out.giC hg6)
            have Y6 := Lib.hid (Y.out.giC hg6)
            have GW6 := Lib.hid (GW5.out.trans hg6)
            clear hg6 hs6
            have hxy := ML2.out.2 xq yq IX.out IY.out
            subst hxy
            go_wp2_with fail
            refine (sameG la GDA.out p1 p2 c1 c2 wx6 A16.out A26.out).mono ?_
            rintro e wx7 ⟨rfl, hg7⟩
            have SLA7 := Lib.hid (SLA6.out.giC hg7)
            have SLB7 := Lib.hid (SLB6.out.giC hg7)
            have SLC7 := Lib.hid (SLC6.out.giC hg7)
            have A17 := Lib.hid (A16.out.giC hg7)
            have A27 := Lib.hid (A26.out.giC hg7)
            have BC7 := Lib.hid (BC6.out.giC hg7)
            have X7 := Lib.hid (X6.out.giC hg7)
            have Y7 := Lib.hid (Y6.out.giC hg7)
            have A37 := Lib.hid (A3.out.giC hg7)
            have GW7 := Lib.hid (GW6.out.trans hg7)
            clear hg7
            go_wp2_with fail
            refine (sameG la GDA.out p1 va c1 vac wx7 A17.out SLA7.out).mono ?_
            rintro e wx8 ⟨rfl, hg8⟩
            have SLA8 := Lib.hid (SLA7.out.giC hg8)
            have SLB8 := Lib.hid (SLB7.out.giC hg8)
            have SLC8 := Lib.hid (SLC7.out.giC hg8)
            have A18 := Lib.hid (A17.out.giC hg8)
            have A28 := Lib.hid (A27.out.giC hg8)
            have BC8 := Lib.hid (BC7.out.giC hg8)
            have X8 := Lib.hid (X7.out.giC hg8)
            have Y8 := Lib.hid (Y7.out.giC hg8)
            have A38 := Lib.hid (A37.out.giC hg8)
            have GW8 := Lib.hid (GW7.out.trans hg8)
            clear hg8
            go_wp2_with fail
            refine (sameG la GDA.out p6 va c6 vac wx8 A38.out SLA8.out).mono ?_
            rintro e wx9 ⟨rfl, hg9⟩
            have SLA9 := Lib.hid (SLA8.out.giC hg9)
            have SLB9 := Lib.hid (SLB8.out.giC hg9)
            have SLC9 := Lib.hid (SLC8.out.giC hg9)
            have A19 := Lib.hid (A18.out.giC hg9)
            have A29 := Lib.hid (A28.out.giC hg9)
            have BC9 := Lib.hid (BC8.out.giC hg9)
            have X9 := Lib.hid (X8.out.giC hg9)
            have Y9 := Lib.hid (Y8.out.giC hg9)
            have A39 := Lib.hid (A38.out.giC hg9)
            have GW9 := Lib.hid (GW8.out.trans hg9)
            clear hg9
            go_wp2_with fail
            refine (sameG xq GDxq.out p4 p5 c4 c5 wx9 X9.out Y9.out).mono ?_
            rintro e wx10 ⟨rfl, hg10⟩
            have SLA10 := Lib.hid (SLA9.out.giC hg10)
            have SLB10 := Lib.hid (SLB9.out.giC hg10)
            have SLC10 := Lib.hid (SLC9.out.giC hg10)
            have A110 := Lib.hid (A19.out.giC hg10)
            have A210 := Lib.hid (A29.out.giC hg10)
            have BC10 := Lib.hid (BC9.out.giC hg10)
            have X10 := Lib.hid (X9.out.giC hg10)
            have Y10 := Lib.hid (Y9.out.giC hg10)
            have A310 := Lib.hid (A39.out.giC hg10)
            have GW10 := Lib.hid (GW9.out.trans hg10)
            clear hg10
            go_wp2_with fail
            refine (awake09_any _ (L.out.gr GW10.out)).mono ?_
            rintro e wz ⟨rfl, hgz⟩
            have GZ := Lib.hid (GW10.out.trans hgz)
            clear hgz
            go_wp2_with fail
            go_ret
            exact ⟨rfl, GZ.out⟩
          · go_wp2_with fail
            refine (mergeNo la lc GDA.out GDC.out hac p1 xc c1 yc wx3 A13.out SLC3.out).mono ?_
            rintro e wx4 ⟨rfl, hg4⟩
            have SLA4 := Lib.hid (SLA3.out.giC hg4)
            have SLB4 := Lib.hid (SLB3.out.giC hg4)
            have SLC4 := Lib.hid (SLC3.out.giC hg4)
            have A14 := Lib.hid (A13.out.giC hg4)
            have A24 := Lib.hid (A23.out.giC hg4)
            have BC4 := Lib.hid (BC.out.giC hg4)
            have GW4 := Lib.hid (GW3.out.trans hg4)
            clear hg4
            go_wp2_with fail
            refine (mergeNo la bc GDA.out GDbc.out (fun h => hac (ML2.out.1.2 h)) va p3 vac c3 wx4 SLA4.out BC4.out).mono ?_
            rintro e wx5 ⟨rfl, hg5⟩
            have SLA5 := Lib.hid (SLA4.out.giC hg5)
            have SLB5 := Lib.hid (SLB4.out.giC hg5)
            have SLC5 := Lib.hid (SLC4.out.giC hg5)
            have A15 := Lib.hid (A14.out.giC hg5)
            have A25 := Lib.hid (A24.out.giC hg5)
            have BC5 := Lib.hid (BC4.out.giC hg5)
            have GW5 := Lib.hid (GW4.out.trans hg5)
            clear hg5
            go_wp2_with fail
            refine (mergeIs la la la GDA.out GDA.out (ML.out []).2.2.1 (fun q h => (ML.out q).2.2.2.2.2.1 h) va va vac vac wx5 SLA5.out SLA5.out).mono ?_
            rintro e wx6 ⟨p6, c6, rfl, hg6, hs6⟩
            have A3 := Lib.hid hs6
            have SLA6 := Lib.hid (SLA5.out.giC hg6)
            have SLB6 := Lib.hid (SLB5.out.giC hg6)
            have SLC6 := Lib.hid (SLC5.out.giC hg6)
            have A16 := Lib.hid (A15.out.giC hg6)
            have A26 := Lib.hid (A25.out.giC hg6)
            have BC6 := Lib.hid (BC5.out.giC hg6)
            have GW6 := Lib.hid (GW5.out.trans hg6)
            clear hg6 hs6
            go_wp2_with fail
            refine (sameG la GDA.out p1 p2 c1 c2 wx6 A16.out A26.out).mono ?_
            rintro e wx7 ⟨rfl, hg7⟩
            have SLA7 := Lib.hid (SLA6.out.giC hg7)
            have SLB7 := Lib.hid (SLB6.out.giC hg7)
            have SLC7 := Lib.hid (SLC6.out.giC hg7)
            have A17 := Lib.hid (A16.out.giC hg7)
            have A27 := Lib.hid (A26.out.giC hg7)
            have BC7 := Lib.hid (BC6.out.giC hg7)
            have A37 := Lib.hid (A3.out.giC hg7)
            have GW7 := Lib.hid (GW6.out.trans hg7)
            clear hg7
            go_wp2_with fail
            refine (sameG la GDA.out p1 va c1 vac wx7 A17.out SLA7.out).mono ?_
            rintro e wx8 ⟨rfl, hg8⟩
            have SLA8 := Lib.hid (SLA7.out.giC hg8)
            have SLB8 := Lib.hid (SLB7.out.giC hg8)
            have SLC8 := Lib.hid (SLC7.out.giC hg8)
            have A18 := Lib.hid (A17.out.giC hg8)
            have A28 := Lib.hid (A27.out.giC hg8)
            have BC8 := Lib.hid (BC7.out.giC hg8)
            have A38 := Lib.hid (A37.out.giC hg8)
            have GW8 := Lib.hid (GW7.out.trans hg8)
            clear hg8
            go_wp2_with fail
            refine (sameG la GDA.out p6 va c6 vac wx8 A38.out SLA8.out).mono ?_
            rintro e wx9 ⟨rfl, hg9⟩
            have SLA9 := Lib.hid (SLA8.out.giC hg9)
            have SLB9 := Lib.hid (SLB8.out.giC hg9)
            have SLC9 := Lib.hid (SLC8.out.giC hg9)
            have A19 := Lib.hid (A18.out.giC hg9)
            have A29 := Lib.hid (A28.out.giC hg9)
            have BC9 := Lib.hid (BC8.out.giC hg9)
            have A39 := Lib.hid (A38.out.giC hg9)
            have GW9 := Lib.hid (GW8.out.trans hg9)
            clear hg9
            go_wp2_with fail
            refine (sameG [] gd_nil none none 0 0 wx9 (sl_nilS _) (sl_nilS _)).mono ?_
            rintro e wx10 ⟨rfl, hg10⟩
            have SLA10 := Lib.hid (SLA9.out.giC hg10)
            have SLB10 := Lib.hid (SLB9.out.giC hg10)
            have SLC10 := Lib.hid (SLC9.out.giC hg10)
            have A110 := Lib.hid (A19.out.giC hg10)
            have A210 := Lib.hid (A29.out.giC hg10)
            have BC10 := Lib.hid (BC9.out.giC hg10)
            have A310 := Lib.hid (A39.out.giC hg10)
            have GW10 := Lib.hid (GW9.out.trans hg10)
            clear hg10
            go_wp2_with fail
            refine (awake09_any _ (L.out.gr GW10.out)).mono ?_
            rintro e wz ⟨rfl, hgz⟩
            have GZ := Lib.hid (GW10.out.trans hgz)
            clear hgz
            go_wp2_with fail
            go_ret
            exact ⟨rfl, GZ.out⟩
        · go_wp2_with fail
          refine (mergeNo lb lc GDB.out GDC.out hbc xb xc yb yc wx2 SLB2.out SLC2.out).mono ?_
          rintro e wx3 ⟨rfl, hg3⟩
          have SLA3 := Lib.hid (SLA2.out.giC hg3)
          have SLB3 := Lib.hid (SLB2.out.giC hg3)
          have SLC3 := Lib.hid (SLC2.out.giC hg3)
          have A13 := Lib.hid (A12.out.giC hg3)
          have A23 := Lib.hid (A2.out.giC hg3)
          have GW3 := Lib.hid (GW2.out.trans hg3)
          clear hg3
          have hac : Hid (¬ NC la lc) := Lib.hid ((ML.out []).2.2.2.2.2.2.1 hbc)
          go_wp2_with fail
          refine (mergeNo la lc GDA.out GDC.out hac.out p1 xc c1 yc wx3 A13.out SLC3.out).mono ?_
          rintro e wx4 ⟨rfl, hg4⟩
          have SLA4 := Lib.hid (SLA3.out.giC hg4)
          have SLB4 := Lib.hid (SLB3.out.giC hg4)
          have SLC4 := Lib.hid (SLC3.out.giC hg4)
          have A14 := Lib.hid (A13.out.giC hg4)
          have A24 := Lib.hid (A23.out.giC hg4)
          have GW4 := Lib.hid (GW3.out.trans hg4)
          clear hg4
          go_wp2_with fail
          refine (mergeOk la [] GDA.out gd_nil (nc_nil la) va none vac 0 wx4 SLA4.out (sl_nilS _)).mono ?_
          rintro e wx5 ⟨p5, c5, yq, rfl, hg5, hs5, him5⟩
          have SLA5 := Lib.hid (SLA4.out.giC hg5)
          have SLB5 := Lib.hid (SLB4.out.giC hg5)
          have SLC5 := Lib.hid (SLC4.out.giC hg5)
          have A15 := Lib.hid (A14.out.giC hg5)
          have A25 := Lib.hid (A24.out.giC hg5)
          have GW5 := Lib.hid (GW4.out.trans hg5)
          clear hg5 hs5 him5
          go_wp2_with fail
          refine (mergeIs la la la GDA.out GDA.out (ML.out []).2.2.1 (fun q h => (ML.out q).2.2.2.2.2.1 h) va va vac vac wx5 SLA5.out SLA5.out).mono ?_
          rintro e wx6 ⟨p6, c6, rfl, hg6, hs6⟩
          have A3 := Lib.hid hs6
          have SLA6 := Lib.hid (SLA5.out.giC hg6)
          have SLB6 := Lib.hid (SLB5.out.giC hg6)
          have SLC6 := Lib.hid (SLC5.out.giC hg6)
          have A16 := Lib.hid (A15.out.giC hg6)
          have A26 := Lib.hid (A25.out.giC hg6)
          have GW6 := Lib.hid (GW5.out.trans hg6)
          clear hg6 hs6
          go_wp2_with fail
          refine (sameG la GDA.out p1 p2 c1 c2 wx6 A16.out A26.out).mono ?_
          rintro e wx7 ⟨rfl, hg7⟩
          have SLA7 := Lib.hid (SLA6.out.giC hg7)
          have SLB7 := Lib.hid (SLB6.out.giC hg7)
          have SLC7 := Lib.hid (SLC6.out.giC hg7)
          have A17 := Lib.hid (A16.out.giC hg7)
          have A27 := Lib.hid (A26.out.giC hg7)
          have A37 := Lib.hid (A3.out.giC hg7)
          have GW7 := Lib.hid (GW6.out.trans hg7)
          clear hg7
          go_wp2_with fail
          refine (sameG la GDA.out p1 va c1 vac wx7 A17.out SLA7.out).mono ?_
          rintro e wx8 ⟨rfl, hg8⟩
          have SLA8 := Lib.hid (SLA7.out.giC hg8)
          have SLB8 := Lib.hid (SLB7.out.giC hg8)
          have SLC8 := Lib.hid (SLC7.out.giC hg8)
          have A18 := Lib.hid (A17.out.giC hg8)
          have A28 := Lib.hid (A27.out.giC hg8)
          have A38 := Lib.hid (A37.out.giC hg8)
          have GW8 := Lib.hid (GW7.out.trans hg8)
          clear hg8
          go_wp2_with fail
          refine (sameG la GDA.out p6 va c6 vac wx8 A38.out SLA8.out).mono ?_
          rintro e wx9 ⟨rfl, hg9⟩
          have SLA9 := Lib.hid (SLA8.out.giC hg9)
          have SLB9 := Lib.hid (SLB8.out.giC hg9)
          have SLC9 := Lib.hid (SLC8.out.giC hg9)
          have A19 := Lib.hid (A18.out.giC hg9)
          have A29 := Lib.hid (A28.out.giC hg9)
          have A39 := Lib.hid (A38.out.giC hg9)
          have GW9 := Lib.hid (GW8.out.trans hg9)
          clear hg9
          go_wp2_with fail
          refine (awake09_any _ (L.out.gr GW9.out)).mono ?_
          rintro e wz ⟨rfl, hgz⟩
          have GZ := Lib.hid (GW9.out.trans hgz)
          clear hgz
          go_wp2_with fail
          go_ret
          exact ⟨rfl, GZ.out⟩
end Go.Proofs.YtadldblpkgackaaGreatDoor
