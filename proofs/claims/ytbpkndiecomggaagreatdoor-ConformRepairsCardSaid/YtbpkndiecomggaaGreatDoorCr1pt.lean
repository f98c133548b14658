/- Lemmas and contracts for the proof of ConformRepairs (several texts in one, printed by wip/tools/pack.py): UgC. -/
import Derived.Test.YtbpkndiecomggaaGreatDoorCr1pi
import Derived.Test.YtbpkndiecomggaaGreatDoorCr1ps
set_option maxRecDepth 100000
set_option maxHeartbeats 16000000
set_option linter.unusedVariables false
set_option linter.unusedSimpArgs false
namespace Go.Proofs.YtbpkndiecomggaaGreatDoor
open Go.RowKit
open Classical
theorem wp_drew {P : Program} {c : Code} {fr : Act} {Q : Exit → Act → World → Prop} {w : World} {n : Nat} (h : ∀ W, Gr w W → Code.wp P c Q fr W) : Code.wp P c Q fr (w.drewN n) := h _ ((Gr.refl _).drewN _)
theorem take_sub (l : List St) (k : Nat) : (l.take k).Sublist (l.take (k + 1)) := by
  rw [List.take_add_one]; exact List.sublist_append_left _ _
theorem owns_cap' {w : World} {base e size n c : Nat} {a : Option Addr} {xs : List Value} (h : w.ownsRow base e size (.slice a n c) n xs) : n ≤ c := by
  rcases h.2 with ⟨q, z⟩ | ⟨g, cap, cur, q, _, _, z, _⟩
  · omega
  · cases q; exact z
theorem flatR_len (l : List RM) : (l.flatMap RM.enc).length = l.length * 7 := by
  induction l with
  | nil => rfl
  | cons x xs ih => rw [List.flatMap_cons, List.length_append, ih, RM.enc_len, List.length_cons]; omega
theorem flatR_split (l : List RM) (k : Nat) : l.flatMap RM.enc = (l.take k).flatMap RM.enc ++ (l.drop k).flatMap RM.enc := by
  rw [← List.flatMap_append, List.take_append_drop]
theorem gets_drop {w : World} {base g m c k : Nat} {l : List RM} (h : w.ownsRow base 51 7 (.slice (some ⟨g, 0, none⟩) m c) m (l.flatMap RM.enc)) (hl : l.length = m) (hk : k ≤ m) :
    Gets w (some ⟨g, k * 7, none⟩) (m - k) 7 ((l.drop k).flatMap RM.enc) := by
  refine ⟨by rw [flatR_len, List.length_drop, hl], fun h0 => ⟨_, rfl, fun j u hu => ?_⟩⟩
  obtain ⟨g', cap, e, _, _, hc⟩ := owns_cell h (by omega)
  cases e
  obtain ⟨hj, _⟩ := List.getElem?_eq_some_iff.1 hu
  rw [flatR_len, List.length_drop, hl] at hj
  have hj2 : k * 7 + j < m * 7 := by have := Nat.sub_mul m k 7; omega
  rw [Addr.add_lit, hc (k * 7 + j) hj2, flatR_split l k, List.getElem?_append_right (by rw [flatR_len, List.length_take]; omega)]
  rw [flatR_len, List.length_take, hl, Nat.min_eq_left hk, Nat.add_sub_cancel_left, hu]
theorem cells_take {w : World} {base m c k : Nat} {a : Option Addr} {l : List RM} (h : w.ownsRow base 51 7 (.slice a m c) m (l.flatMap RM.enc)) (hl : l.length = m) (hk : k ≤ m) :
    ∀ bb, a = some bb → ∀ j u, ((l.take k).flatMap RM.enc)[j]? = some u → w.cell? (bb.add j) = some u := by
  rintro bb rfl j u hu
  obtain ⟨hj, _⟩ := List.getElem?_eq_some_iff.1 hu
  rw [flatR_len, List.length_take, hl, Nat.min_eq_left hk] at hj
  obtain ⟨g', cap, e, _, _, hc⟩ := owns_cell h (by omega)
  cases e
  rw [Addr.add_lit, Nat.zero_add, hc j (by have := Nat.mul_le_mul_right 7 hk; omega), flatR_split l k, List.getElem?_append_left (by rw [flatR_len, List.length_take, hl, Nat.min_eq_left hk]; exact hj), hu]
theorem ins_flat (l : List RM) (x : RM) (k : Nat) : (l.take k ++ x :: l.drop k).flatMap RM.enc = (l.take k).flatMap RM.enc ++ (x.enc ++ (l.drop k).flatMap RM.enc) := by
  rw [List.flatMap_append, List.flatMap_cons]
theorem ins_len {l : List RM} (x : RM) {k m : Nat} (hl : l.length = m) (hk : k ≤ m) : (l.take k ++ x :: l.drop k).length = m + 1 := by
  rw [List.length_append, List.length_cons, List.length_take, List.length_drop, hl]; omega
theorem ins_mem {l : List RM} {x y : RM} {k : Nat} (h : y ∈ l.take k ++ x :: l.drop k) : y = x ∨ y ∈ l := by
  rcases List.mem_append.1 h with q | q
  · exact .inr (List.mem_of_mem_take q)
  · rcases List.mem_cons.1 q with q | q
    · exact .inl q
    · exact .inr (List.mem_of_mem_drop q)
theorem ins_good {base : Nat} {l : List RM} {x : RM} {c : St} {cl : Bool} {v v' : Value} {k m : Nat} (h : GoodS base ⟨c, cl, l, v⟩) (hl : l.length = m) (hk : k ≤ m) (hm : m + 1 ≤ 3) (hx : NmR x.r) (ha : ∀ A, x.a = some A → base ≤ A.block)
    (hlow : ∀ j (hj : j < k) (hjl : j < l.length), ltS l[j].r.name x.r.name = true) (hup : ∀ (q : k < l.length), ltS x.r.name l[k].r.name = true) : GoodS base ⟨c, cl, l.take k ++ x :: l.drop k, v'⟩ := by
  refine ⟨fun y hy => ?_, ?_, fun y hy => ?_, by simp only; rw [ins_len x hl hk]; exact hm⟩
  · rcases ins_mem hy with rfl | q
    · exact ha
    · exact h.hi y q
  · have := asc_put (l := l.map (fun x => x.r.name)) (x := x.r.name) (k := k) h.asc (by rw [List.length_map, hl]; exact hk) (fun j hj hjl => by rw [List.length_map] at hjl; simp only [List.getElem_map]; exact hlow j hj hjl) (fun q => by rw [List.length_map] at q; simp only [List.getElem_map]; exact hup q)
    simpa using this
  · rcases ins_mem hy with rfl | q
    · exact hx
    · exact h.nam y q
theorem schemas_any (w : World) (b len : Nat) (h : Tp w b len) :
    Calls Tryz.prog 9 #[.pointer (some ⟨b, 0, none⟩)] w (GivesSch b len w) := by
  have H := Lib.hid h
  have HBS := Lib.hid h.has
  clear h
  go_enter Tryz.func9, Tryz.ntmps9
  go_wp2_with fail
  have RN0 : Hid (Row (w.alloc (.cells #[.string ⟨#[97, 44, 120]⟩, .string ⟨#[98]⟩, .string ⟨#[99, 44, 100, 101, 118]⟩, .string ⟨#[102, 105, 120, 101, 100, 45, 99, 108, 111, 99, 107]⟩] 9)) w.heap.size 9 (strV compsL)) := Lib.hid (Row.new w #[.string ⟨#[97, 44, 120]⟩, .string ⟨#[98]⟩, .string ⟨#[99, 44, 100, 101, 118]⟩, .string ⟨#[102, 105, 120, 101, 100, 45, 99, 108, 111, 99, 107]⟩] 9)
  obtain ⟨W, hW⟩ : ∃ W : World, Hid (W = w.alloc (.cells #[.string ⟨#[97, 44, 120]⟩, .string ⟨#[98]⟩, .string ⟨#[99, 44, 100, 101, 118]⟩, .string ⟨#[102, 105, 120, 101, 100, 45, 99, 108, 111, 99, 107]⟩] 9)) := ⟨_, Lib.hid rfl⟩
  have M0 : Hid (Mv b len w W) := Lib.hid (by rw [hW.out]; exact Mv.of_gr H.out ((Gr.refl _).alloc _))
  rw [← hW.out] at RN0 ⊢
  obtain ⟨NR, hNR⟩ : ∃ N : Nat, Hid (w.heap.size = N) := ⟨_, Lib.hid rfl⟩
  have NRB : Hid (NR ≠ b) := Lib.hid (by have := hNR.out; have := HBS.out; omega)
  rw [hNR.out] at RN0 ⊢
  clear hW hNR
  go_loopw [13, 3] (fun i v wr => ∃ (k : Nat) (out : List SM), k ≤ 4 ∧ i = .int .i64 k ∧ OutAt w.heap.size wr v out ∧ (out.map SM.comp).Sublist (compsL.take k) ∧ (∀ s ∈ out, GoodS w.heap.size s) ∧ Row wr NR 9 (strV compsL) ∧ Mv b len w wr) (fun i _ _ => 4 - (intOf i).toNat)
  case atStart => exact ⟨0, [], by omega, rfl, OutAt.nil _ _, List.nil_sublist _, (fun s hs => by cases hs), RN0.out, M0.out⟩
  case round =>
    clear RN0 M0
    obtain ⟨k, out, hk, rfl, hoa, hsub, hgo, hrn, hmv⟩ := hrel
    obtain ⟨va, vc, rfl⟩ := owns_slice hoa.own
    have OA := Lib.hid hoa
    have SB := Lib.hid hsub
    have GO := Lib.hid hgo
    have RN := Lib.hid hrn
    have MV := Lib.hid hmv
    have HI : Hid (∀ s ∈ out, HiW w.heap.size s.rs) := Lib.hid (fun s hs => (hgo s hs).hi)
    clear hoa hsub hgo hrn hmv
    by_cases hlt : k < 4
    · have hkc : k < compsL.length := hlt
      have c0 := RN.out.cell k (by simpa [strV] using hkc)
      rw [strV_get hkc] at c0
      have SB1 : Hid ((out.map SM.comp ++ [compsL[k]]).Sublist (compsL.take (k + 1))) := Lib.hid (by rw [List.take_succ_eq_append_getElem hkc]; exact List.Sublist.append SB.out (List.Sublist.refl _))
      have SB2 : Hid ((out.map SM.comp).Sublist (compsL.take (k + 1))) := Lib.hid (SB.out.trans (take_sub _ _))
      have o24 : Hid (out.length < 24) := Lib.hid (by have := SB.out.length_le; rw [List.length_map, List.length_take] at this; omega)
      have hcl : compsL[k].length ≤ 1000000 := (show ∀ z ∈ compsL, z.length ≤ 1000000 by decide) _ (List.getElem_mem hkc)
      obtain ⟨c, hc⟩ : ∃ c, compsL[k] = c := ⟨_, rfl⟩
      rw [hc] at c0 SB1 hcl
      have hh := has_of_cell c0
      have k4 : (k : Int) < 4 := by omega
      have CLN := Lib.hid hcl
      clear hc hkc SB hcl
      go_wp2_with fail
      refine (nM_any wr b len 3 (MV.out.tp H.out) (by omega) (by omega)).mono ?_
      rintro e w1 ⟨x0, rfl, ⟨_, _⟩, hm⟩
      have OA1 := Lib.hid (OA.out.mv HI.out HBS.out hm)
      have RN1 := Lib.hid (hm.row RN.out NRB.out)
      have M1 := Lib.hid (MV.out.trans HBS.out hm)
      clear hm OA RN MV c0 hh
      by_cases hx0 : x0 = 0
      · have e0 : (x0 == 0) = true := by rw [beq_iff_eq]; exact hx0
        clear hx0
        go_wp2_with fail
        go_roundw
        case rel => exact ⟨k + 1, out, by omega, by go_num, OA1.out, SB2.out, GO.out, RN1.out, M1.out⟩
        case measure => simp [intOf]; omega
      · have e0 : (x0 == 0) = false := by rw [beq_eq_false_iff_ne]; exact hx0
        clear hx0 SB2
        go_wp2_with fail
        refine (nM_any w1 b len 3 (M1.out.tp H.out) (by omega) (by omega)).mono ?_
        rintro e w2 ⟨y0, rfl, ⟨_, _⟩, hm⟩
        have OA2 := Lib.hid (OA1.out.mv HI.out HBS.out hm)
        have RN2 := Lib.hid (hm.row RN1.out NRB.out)
        have M2 := Lib.hid (M1.out.trans HBS.out hm)
        clear hm OA1 RN1 M1
        obtain ⟨cl, hcl⟩ : ∃ q : Bool, (y0 == 0) = q := ⟨_, rfl⟩
        go_wp2_with fail
        clear hcl
        have BX0 := Lib.hid (Row.new w2 #[.string (bs c), .bool cl, .slice none 0 0] 48)
        obtain ⟨W3, hW3⟩ : ∃ W : World, Hid (W = w2.alloc (.cells #[.string (bs c), .bool cl, .slice none 0 0] 48)) := ⟨_, Lib.hid rfl⟩
        have G3 : Hid (Gr w2 W3) := Lib.hid (by rw [hW3.out]; exact (Gr.refl _).alloc _)
        rw [← hW3.out] at BX0 ⊢
        obtain ⟨PX, hPX⟩ : ∃ N : Nat, Hid (w2.heap.size = N) := ⟨_, Lib.hid rfl⟩
        have PXL : Hid (w.heap.size ≤ PX) := Lib.hid (by have := M2.out.size; have := hPX.out; omega)
        have PXB : Hid (PX ≠ b) := Lib.hid (by have := PXL.out; have := HBS.out; omega)
        have VNE : Hid ((Value.slice va out.length vc).ownBlock = none ∨ (Value.slice va out.length vc).ownBlock ≠ some PX) := Lib.hid (by
          cases hz : (Value.slice va out.length vc).ownBlock with
          | none => exact .inl rfl
          | some g => exact .inr (fun e => by have := (OA2.out.own.lt g hz).2; have := hPX.out; injection e with e; omega))
        rw [hPX.out] at BX0 ⊢
        have OA3 := Lib.hid (OA2.out.gr G3.out)
        have RN3 := Lib.hid (RN2.out.gr G3.out)
        have M3 := Lib.hid (M2.out.gr G3.out)
        clear hW3 hPX G3 OA2 RN2 M2
        refine (nM_any W3 b len 4 (M3.out.tp H.out) (by omega) (by omega)).mono ?_
        rintro e w4 ⟨z0, rfl, ⟨z1, z2⟩, hm⟩
        have OA4 := Lib.hid (OA3.out.mv HI.out HBS.out hm)
        have RN4 := Lib.hid (hm.row RN3.out NRB.out)
        have M4 := Lib.hid (M3.out.trans HBS.out hm)
        have BX4 := Lib.hid (hm.row BX0.out PXB.out)
        clear hm OA3 RN3 M3 BX0
        obtain ⟨j0, rfl⟩ : ∃ j : Nat, z0 = j := ⟨z0.toNat, by omega⟩
        go_wp2_with fail
        go_loopw [7] (fun i wr => ∃ (j : Nat) (rs : List RM) (rv : Value), i = .int .i64 j ∧ rs.length + j ≤ 3 ∧ Row wr PX 48 [.string (bs c), .bool cl, rv] ∧ RlsAt w.heap.size wr ⟨c, cl, rs, rv⟩ ∧ GoodS w.heap.size ⟨c, cl, rs, rv⟩ ∧ OutAt w.heap.size wr (.slice va out.length vc) out ∧ (∀ i (hi : i < out.length), out[i].v.ownBlock = none ∨ out[i].v.ownBlock ≠ rv.ownBlock) ∧ Row wr NR 9 (strV compsL) ∧ Mv b len w wr) (fun i _ => (intOf i).toNat)
        case atStart =>
          refine ⟨j0, [], .slice none 0 0, rfl, by simp; omega, BX4.out, ⟨World.ownsRow_nil _ _ _ _, (fun x hx => by cases hx), (fun x hx => by cases hx), by simp, CLN.out⟩, ⟨(fun x hx => by cases hx), rfl, (fun x hx => by cases hx), by simp⟩, OA4.out, fun i hi => ?_, RN4.out, M4.out⟩
          cases hz : out[i].v.ownBlock with
          | none => exact .inl rfl
          | some g => exact .inr (fun e => by cases e)
        case round =>
          clear OA4 RN4 M4 BX4
          obtain ⟨j, rs, rv, rfl, hj, hbx, hrl, hgd, hoa, hap, hrn, hmv⟩ := hrel
          obtain ⟨ra, rc, hrv⟩ := owns_slice hrl.own
          obtain rfl : rv = .slice ra rs.length rc := hrv
          have BX5 := Lib.hid hbx
          have RL5 := Lib.hid hrl
          have GD5 := Lib.hid hgd
          have OA5 := Lib.hid hoa
          have AP5 := Lib.hid hap
          have RN5 := Lib.hid hrn
          have M5 := Lib.hid hmv
          clear hbx hrl hgd hoa hap hrn hmv
          by_cases hj0 : j = 0
          · subst hj0
            have p0 : wr.cell? ⟨PX, 0, none⟩ = some (.string (bs c)) := BX5.out.cell 0 (by simp)
            have p1 : wr.cell? ⟨PX, 1, none⟩ = some (.bool cl) := BX5.out.cell 1 (by simp)
            have p2 : wr.cell? ⟨PX, 2, none⟩ = some (.slice ra rs.length rc) := BX5.out.cell 2 (by simp)
            have ph := has_of_cell p0
            obtain ⟨i0, hi, hy0, hy1, hy2⟩ := info_parts infoSch
            have NR1 := Lib.hid (row_cells (Row.new wr #[.string (bs c), .bool cl, .slice ra rs.length rc] 48))
            have OWX := Lib.hid (OA5.out.own.alloc (.cells #[.string (bs c), .bool cl, .slice ra rs.length rc] 48))
            go_wp2_with (at_builtin; refine wpList_append_own _ rfl _ _ 25 rfl w.heap.size 48 i0 (.agg #[.string (bs []), .bool false, .slice none 0 0]) 3 48 Tryz.underlying25 hi hy0 hy1 hy2 rfl (by decide) _ out.length (out.flatMap SM.enc) rfl OWX.out ⟨wr.heap.size, 0, none⟩ 1 1 [.string (bs c), .bool cl, .slice ra rs.length rc] rfl rfl NR1.out (SM.enc_one ⟨c, cl, rs, .slice ra rs.length rc⟩ rfl) (by unfold maxLen; have := o24.out; omega) (by have := o24.out; omega) (by have := M5.out.size; simp; omega) ?_; intro v' wz hown' hgrow hnil; have HOz := Lib.hid hown'; have HGz := Lib.hid hgrow; clear hown' hgrow hnil)
            go_roundw
            case rel =>
              have ga : Gr wr (wr.alloc (.cells #[.string (bs c), .bool cl, .slice ra rs.length rc] 48)) := (Gr.refl wr).alloc _
              have OAX := OA5.out.gr ga
              refine ⟨k + 1, out ++ [⟨c, cl, rs, .slice ra rs.length rc⟩], by omega, by go_num, OAX.snoc2 (s := ⟨c, cl, rs, .slice ra rs.length rc⟩) o24.out HGz.out HOz.out (RL5.out.gr ga) AP5.out, ?_, ?_, (RN5.out.gr ga).kept HGz.out (RN5.out.ty.gr ga |>.ne OAX.own (by decide)), (M5.out.gr ga).grown HGz.out (fun j e => (OAX.own.lt j e).1)⟩
              · rw [List.map_append]; exact SB1.out
              · intro s hs
                rcases List.mem_append.1 hs with q | q
                · exact GO.out s q
                · rw [List.mem_singleton.1 q]; exact GD5.out
            case measure => simp [intOf]; omega
          · obtain ⟨j, rfl⟩ : ∃ j2, j = j2 + 1 := ⟨j - 1, by omega⟩
            clear hj0
            go_wp2_with fail
            refine (growRule_any wr b len (M5.out.tp H.out)).mono ?_
            rintro e w6 ⟨x, rfl, hxr, hxn, hxc, hxa, hxw, hm⟩
            have XA : Hid (∀ A, x.a = some A → w.heap.size ≤ A.block) := Lib.hid (fun A q => Nat.le_trans M5.out.size (hxa A q))
            have OA6 := Lib.hid (OA5.out.mv HI.out HBS.out hm)
            have RN6 := Lib.hid (hm.row RN5.out NRB.out)
            have M6 := Lib.hid (M5.out.trans HBS.out hm)
            have BX6 := Lib.hid (hm.row BX5.out PXB.out)
            have RL6 := Lib.hid (RL5.out.mv GD5.out.hi HBS.out hm)
            have XR := Lib.hid hxr
            have XN := Lib.hid hxn
            have XC := Lib.hid hxc
            have XW := Lib.hid hxw
            clear hm OA5 RN5 M5 BX5 RL5 hxr hxn hxc hxa hxw
            go_wp2_with fail
            have RX0 : Hid (Row (w6.alloc (.cells #[.string (bs x.r.name), .bool x.r.req, .int .i64 x.r.kind, .int .i64 x.r.low, .int .i64 x.r.high, .int .i64 x.r.count, .slice x.a x.r.words.length x.c] 51)) w6.heap.size 51 x.enc) := Lib.hid (Row.new w6 #[.string (bs x.r.name), .bool x.r.req, .int .i64 x.r.kind, .int .i64 x.r.low, .int .i64 x.r.high, .int .i64 x.r.count, .slice x.a x.r.words.length x.c] 51)
            obtain ⟨W7, hW7⟩ : ∃ W : World, Hid (W = w6.alloc (.cells #[.string (bs x.r.name), .bool x.r.req, .int .i64 x.r.kind, .int .i64 x.r.low, .int .i64 x.r.high, .int .i64 x.r.count, .slice x.a x.r.words.length x.c] 51)) := ⟨_, Lib.hid rfl⟩
            have G7 : Hid (Gr w6 W7) := Lib.hid (by rw [hW7.out]; exact (Gr.refl _).alloc _)
            rw [← hW7.out] at RX0 ⊢
            obtain ⟨RX, hRX⟩ : ∃ N : Nat, Hid (w6.heap.size = N) := ⟨_, Lib.hid rfl⟩
            rw [hRX.out] at RX0 ⊢
            have OA7 := Lib.hid (OA6.out.gr G7.out)
            have RN7 := Lib.hid (RN6.out.gr G7.out)
            have M7 := Lib.hid (M6.out.gr G7.out)
            have BX7 := Lib.hid (BX6.out.gr G7.out)
            have RL7 := Lib.hid (RL6.out.gr G7.out)
            have XW7 := Lib.hid (XW.out.gr G7.out)
            clear hW7 hRX G7 OA6 RN6 M6 BX6 RL6 XW
            have mlen := GD5.out.few
            simp only at mlen
            obtain ⟨m, hm⟩ : ∃ m, rs.length = m := ⟨_, rfl⟩
            have ML := Lib.hid hm
            rw [hm] at mlen hj BX7
            clear hm
            go_loopw [9] (fun i wr => ∃ (k : Nat), k ≤ m ∧ i = .int .i64 k ∧ (∀ j (hj : j < k) (hjl : j < rs.length), ltS rs[j].r.name x.r.name = true) ∧ Gr W7 wr) (fun i _ => m - (intOf i).toNat)
            case atStart => exact ⟨0, Nat.zero_le _, rfl, fun j h => absurd h (by omega), Gr.refl _⟩
            case round =>
              obtain ⟨n, hn, rfl, hlow, hg⟩ := hrel
              have LOW := Lib.hid hlow
              have HG := Lib.hid hg
              have bx := BX7.out.gr hg
              have p2 : wr.cell? ⟨PX, 2, none⟩ = some (.slice ra m rc) := bx.cell 2 (by simp)
              have ph := has_of_cell p2
              have rx := RX0.out.gr hg
              have x0 : wr.cell? ⟨RX, 0, none⟩ = some (.string (bs x.r.name)) := rx.cell 0 (by simp [RM.enc])
              have xh := has_of_cell x0
              clear hlow hg bx rx
              by_cases hnm : n < m
              · obtain ⟨g, cap, er, _, _, hcell⟩ := owns_cell (Gr.owns RL7.out.own HG.out) (by simp only; have := ML.out; omega)
                cases er
                have hnl : n < rs.length := by rw [ML.out]; exact hnm
                have hf := flat_at RM.enc 7 (fun _ => rfl) rs n 0 hnl (by omega)
                have d0 : wr.cell? ⟨g, n * 7, none⟩ = some (.string (bs rs[n].r.name)) := by
                  have := (hcell (n * 7) (by simp only; omega)).trans hf
                  rw [this]; rfl
                have dh := has_of_cell d0
                have YN : Hid (rs[n].r.name ∈ propsL) := Lib.hid (GD5.out.nam _ (List.getElem_mem hnl)).1
                obtain ⟨y, hy⟩ : ∃ y, rs[n].r.name = y := ⟨_, rfl⟩
                rw [hy] at d0 YN
                have HY := Lib.hid hy
                have nm2 : (n : Int) < m := by omega
                clear hcell hf hy
                by_cases hv : ltS y x.r.name = true
                · have hv' : Op.bytesLess y x.r.name = true := hv
                  have V := Lib.hid hv
                  clear hv
                  go_wp2_with fail
                  go_quiet (fail)
                  go_wp2_with fail
                  go_roundw
                  case rel =>
                    refine ⟨n + 1, by omega, by go_num, fun j hj hjl => ?_, HG.out.drewN _⟩
                    by_cases e : j = n
                    · subst e; rw [HY.out]; exact V.out
                    · exact LOW.out j (by omega) hjl
                  case measure => simp [intOf]; omega
                · rw [Bool.not_eq_true] at hv
                  have hv' : Op.bytesLess y x.r.name = false := hv
                  have V := Lib.hid hv
                  clear hv
                  by_cases hyx : y = x.r.name
                  · have e1 : (y == x.r.name) = true := by rw [beq_iff_eq]; exact hyx
                    have e2 : (y != x.r.name) = false := by rw [bne_eq_false_iff_eq]; exact hyx
                    have NM1 : ((n : Int) == (m : Int)) = false := by rw [beq_eq_false_iff_ne]; omega
                    clear hyx
                    go_wp2_with fail
                    go_quiet (fail)
                    go_wp2_with fail
                    go_quiet (fail)
                    go_wp2_with fail
                    go_roundw
                    case rel => exact ⟨j, rs, .slice (some ⟨g, 0, none⟩) m rc, rfl, by rw [ML.out]; omega, BX7.out.gr (HG.out.drewN _), by rw [← ML.out]; exact RL7.out.gr (HG.out.drewN _), ⟨GD5.out.hi, GD5.out.asc, GD5.out.nam, GD5.out.few⟩, OA7.out.gr (HG.out.drewN _), AP5.out, RN7.out.gr (HG.out.drewN _), M7.out.gr (HG.out.drewN _)⟩
                    case measure => simp [intOf]
                  · have e1 : (y == x.r.name) = false := by rw [beq_eq_false_iff_ne]; exact hyx
                    have e2 : (y != x.r.name) = true := by rw [bne_iff_ne]; exact hyx
                    have NM1 : ((n : Int) == (m : Int)) = false := by rw [beq_eq_false_iff_ne]; omega
                    have HYX := Lib.hid hyx
                    clear hyx
                    have CAP : Hid (m ≤ rc) := Lib.hid (by have q := owns_cap' (by have q := RL7.out.own; simp only at q; exact q); have := ML.out; omega)
                    go_wp2_with fail
                    go_quiet (fail)
                    go_wp2_with fail
                    go_quiet (fail)
                    go_wp2_with fail
                    refine wp_drew fun W8 hg8 => ?_
                    have G8 := Lib.hid (HG.out.trans hg8)
                    clear hg8
                    have OW8 := Lib.hid (by have q := Gr.owns RL7.out.own G8.out; simp only at q; rw [ML.out] at q; exact q)
                    have BX8 := Lib.hid (BX7.out.gr G8.out)
                    have RX8 := Lib.hid (RX0.out.gr G8.out)
                    refine wp_code_eq (c := Code.region 15 (regIn 15 Tryz.f9) true) (by kernel_rfl) (gs15S (g := g) (m := m) (c := rc) (k := n) (x := x) (xs := rs) (PX := PX) (RX := RX) (wr := W8) RX8.out BX8.out rfl (fun W hg => gets_drop (Gr.owns OW8.out hg) ML.out (by omega)) (by omega) ⟨by omega, CAP.out, by have := CAP.out; omega⟩ ?_)
                    intro t10 t67 t68 t69 t70 t71 t72 t73 WX hgx hown
                    obtain ⟨g1, c1, rfl, _, hg1, hcell⟩ := owns_cell hown (by omega)
                    have GX := Lib.hid (G8.out.trans hgx)
                    have OT := Lib.hid (fun (j : Nat) (u : Value) (hu : (x.enc ++ (rs.drop n).flatMap RM.enc)[j]? = some u) => (show WX.cell? ((⟨g1, 0, none⟩ : Addr).add j) = some u from by
                      obtain ⟨hj, _⟩ := List.getElem?_eq_some_iff.1 hu
                      rw [List.length_append, flatR_len, List.length_drop, ML.out, RM.enc_len] at hj
                      rw [Addr.add_lit, Nat.zero_add, hcell j (by have := Nat.sub_mul m n 7; omega), hu]))
                    have LN : Hid ((x.enc ++ (rs.drop n).flatMap RM.enc).length = (1 + (m - n)) * 7) := Lib.hid (by rw [List.length_append, flatR_len, List.length_drop, ML.out, RM.enc_len] <;> omega)
                    have LT : Hid (((rs.take n).flatMap RM.enc).length = n * 7) := Lib.hid (by rw [flatR_len, List.length_take, ML.out] <;> (congr 1 <;> omega))
                    have OWX := Lib.hid (Gr.owns OW8.out hgx)
                    have BXX := Lib.hid (BX8.out.gr hgx)
                    have q2 : WX.cell? ⟨PX, 2, none⟩ = some (.slice (some ⟨g, 0, none⟩) m rc) := BXX.out.cell 2 (by simp)
                    have qh := has_of_cell q2
                    have CT := Lib.hid (cells_take OWX.out ML.out (k := n) (by omega))
                    have ONE := Lib.hid (show ∀ u ∈ x.enc ++ (rs.drop n).flatMap RM.enc, u.oneCell' = true from fun u hu => (List.mem_append.1 hu).elim (x.enc_one u) (flatR_one _ u))
                    have kc : (n : Int) ≤ rc := by have := CAP.out; omega
                    obtain ⟨i0, hi, hy0, hy1, hy2⟩ := info_parts infoRul
                    clear hgx hown hcell hg1
                    unfold gs15SA
                    go_wp2_with (at_builtin; refine wpList_append_grows _ rfl _ _ 46 rfl 51 i0 (.agg #[.string (bs []), .bool false, .int .i64 0, .int .i64 0, .int .i64 0, .int .i64 0, .slice none 0 0]) 7 80 Tryz.underlying46 hi hy0 hy1 hy2 rfl (by decide) (some ⟨g, 0, none⟩) n n ((rs.take n).flatMap RM.enc) rfl (fun q => by cases q <;> exact ⟨rfl, rfl⟩) LT.out CT.out ⟨g1, 0, none⟩ (1 + (m - n)) c1 (x.enc ++ (rs.drop n).flatMap RM.enc) rfl LN.out OT.out ONE.out (by omega) (by unfold maxLen; omega) (by omega) ?_; intro v' wz hown' hgrow; obtain ⟨a', c', rfl⟩ := owns_slice hown'; have HOz := Lib.hid hown'; have HGz := Lib.hid hgrow; have BZ := Lib.hid (BXX.out.kept hgrow (by simp)); have z2 : wz.cell? ⟨PX, 2, none⟩ = some (.slice (some ⟨g, 0, none⟩) m rc) := BZ.out.cell 2 (by simp); have zf := BZ.out.free 2; have zh := has_of_cell z2; clear hown' hgrow)
                    go_roundw
                    case rel =>
                      have GZ : Gr W7 wz := (GX.out.grown HGz.out (fun k e => by cases e))
                      have own2 : wz.ownsRow WX.heap.size 51 7 (.slice a' (n + (1 + (m - n))) c') (rs.take n ++ x :: rs.drop n).length ((rs.take n ++ x :: rs.drop n).flatMap RM.enc) := by
                        have q := HOz.out
                        rw [show n + (1 + (m - n)) = m + 1 by omega] at q
                        rw [ins_len x ML.out (by omega), ins_flat, show (n + (1 + (m - n))) = m + 1 by omega]
                        exact q
                      have own3 := owns_low own2 (base' := w.heap.size) (Nat.le_trans M7.out.size GX.out.size)
                      have nb : ∀ i (hi : i < out.length), out[i].v.ownBlock = none ∨ out[i].v.ownBlock ≠ (Value.slice a' (n + (1 + (m - n))) c').ownBlock := fun i hi => by
                        cases hz : out[i].v.ownBlock with
                        | none => exact .inl rfl
                        | some g3 => exact .inr (fun e => by have h1 := (own2.lt g3 e.symm).1; have h2 := ((OA7.out.rls out[i] (List.getElem_mem hi)).own.lt g3 hz).2; have h3 := GX.out.size; omega)
                      have tyP := BZ.out.ty
                      have gst := grownBy_set wz PX 2 (.slice a' (n + (1 + (m - n))) c')
                      refine ⟨j, rs.take n ++ x :: rs.drop n, .slice a' (n + (1 + (m - n))) c', by go_num, by rw [ins_len x ML.out (by omega)]; omega, BZ.out.set 2 _, ?_, ins_good GD5.out ML.out (by omega) (by omega) XN.out XA.out LOW.out (fun q => by rw [HY.out]; exact prop_tot YN.out XN.out.1 V.out HYX.out), (OA7.out.gr GZ).kep gst tyP VNE.out, nb, (RN7.out.gr GZ).oth (tyP.apart (RN7.out.gr GZ).ty (by decide)), (M7.out.gr GZ).setc PXL.out⟩
                      refine RlsAt.kep (w := wz) (B := PX) ⟨own3, fun y hy => ?_, fun y hy => ?_, by simp only; rw [ins_len x ML.out (by omega)]; omega, CLN.out⟩ gst tyP
                      · rcases ins_mem hy with rfl | q
                        · exact XW7.out.gr GZ
                        · exact (RL7.out.wds y q).gr GZ
                      · rcases ins_mem hy with rfl | q
                        · exact ⟨XR.out, Nat.le_trans (rule_name XR.out) (by omega), XC.out⟩
                        · exact RL7.out.ok y q
                    case measure => simp [intOf]
              · obtain rfl : n = m := by omega
                have NM1 : ((n : Int) == (n : Int)) = true := by simp
                cases ra with
                | none =>
                  obtain ⟨rfl, rfl⟩ : n = 0 ∧ rc = 0 := by
                    have q := RL7.out.own
                    simp only at q
                    rw [ML.out] at q
                    rcases q.2 with ⟨e, z⟩ | ⟨g, cap, cur, e, _⟩
                    · cases e; exact ⟨rfl, rfl⟩
                    · cases e
                  have CAP : Hid (0 ≤ 0) := Lib.hid (Nat.le_refl _)
                  go_wp2_with fail
                  go_quiet (fail)
                  go_wp2_with fail
                  go_quiet (fail)
                  go_wp2_with fail
                  refine wp_drew fun W8 hg8 => ?_
                  have G8 := Lib.hid (HG.out.trans hg8)
                  clear hg8
                  have OW8 := Lib.hid (by have q := Gr.owns RL7.out.own G8.out; simp only at q; rw [ML.out] at q; exact q)
                  have BX8 := Lib.hid (BX7.out.gr G8.out)
                  have RX8 := Lib.hid (RX0.out.gr G8.out)
                  refine wp_code_eq (c := Code.region 15 (regIn 15 Tryz.f9) true) (by kernel_rfl) (gs15N (x := x) (xs := rs) (PX := PX) (RX := RX) (wr := W8) RX8.out BX8.out rfl (fun W hg => ⟨by rw [List.eq_nil_of_length_eq_zero ML.out]; rfl, fun q => absurd rfl q⟩) (by omega) ?_)
                  intro t10 t67 t68 t69 t70 t71 t72 t73 WX hgx hown0
                  have hown : WX.ownsRow W8.heap.size 51 7 t10 (1 + (0 - 0)) (x.enc ++ (rs.drop 0).flatMap RM.enc) := hown0
                  obtain ⟨g1, c1, rfl, _, hg1, hcell⟩ := owns_cell hown (by omega)
                  have GX := Lib.hid (G8.out.trans hgx)
                  have OT := Lib.hid (fun (j : Nat) (u : Value) (hu : (x.enc ++ (rs.drop 0).flatMap RM.enc)[j]? = some u) => (show WX.cell? ((⟨g1, 0, none⟩ : Addr).add j) = some u from by
                    obtain ⟨hj, _⟩ := List.getElem?_eq_some_iff.1 hu
                    rw [List.length_append, flatR_len, List.length_drop, ML.out, RM.enc_len] at hj
                    rw [Addr.add_lit, Nat.zero_add, hcell j (by have := Nat.sub_mul 0 0 7; omega), hu]))
                  have LN : Hid ((x.enc ++ (rs.drop 0).flatMap RM.enc).length = (1 + (0 - 0)) * 7) := Lib.hid (by rw [List.length_append, flatR_len, List.length_drop, ML.out, RM.enc_len] <;> omega)
                  have LT : Hid (((rs.take 0).flatMap RM.enc).length = 0 * 7) := Lib.hid (by rw [flatR_len, List.length_take, ML.out] <;> (congr 1 <;> omega))
                  have OWX := Lib.hid (Gr.owns OW8.out hgx)
                  have BXX := Lib.hid (BX8.out.gr hgx)
                  have q2 : WX.cell? ⟨PX, 2, none⟩ = some (.slice none 0 0) := BXX.out.cell 2 (by simp)
                  have qh := has_of_cell q2
                  have CT := Lib.hid (cells_take OWX.out ML.out (k := 0) (by omega))
                  have ONE := Lib.hid (show ∀ u ∈ x.enc ++ (rs.drop 0).flatMap RM.enc, u.oneCell' = true from fun u hu => (List.mem_append.1 hu).elim (x.enc_one u) (flatR_one _ u))
                  have kc : (0 : Int) ≤ 0 := by have := CAP.out; omega
                  obtain ⟨i0, hi, hy0, hy1, hy2⟩ := info_parts infoRul
                  clear hgx hown hown0 hcell hg1
                  unfold gs15NA
                  go_wp2_with (at_builtin; refine wpList_append_grows _ rfl _ _ 46 rfl 51 i0 (.agg #[.string (bs []), .bool false, .int .i64 0, .int .i64 0, .int .i64 0, .int .i64 0, .slice none 0 0]) 7 80 Tryz.underlying46 hi hy0 hy1 hy2 rfl (by decide) none 0 0 ((rs.take 0).flatMap RM.enc) rfl (fun q => by cases q <;> exact ⟨rfl, rfl⟩) LT.out CT.out ⟨g1, 0, none⟩ (1 + (0 - 0)) c1 (x.enc ++ (rs.drop 0).flatMap RM.enc) rfl LN.out OT.out ONE.out (by omega) (by unfold maxLen; omega) (by omega) ?_; intro v' wz hown' hgrow; obtain ⟨a', c', rfl⟩ := owns_slice hown'; have HOz := Lib.hid hown'; have HGz := Lib.hid hgrow; have BZ := Lib.hid (BXX.out.kept hgrow (by simp)); have z2 : wz.cell? ⟨PX, 2, none⟩ = some (.slice none 0 0) := BZ.out.cell 2 (by simp); have zf := BZ.out.free 2; have zh := has_of_cell z2; clear hown' hgrow)
                  go_roundw
                  case rel =>
                    have GZ : Gr W7 wz := (GX.out.grown HGz.out (fun k e => by cases e))
                    have own2 : wz.ownsRow WX.heap.size 51 7 (.slice a' 1 c') (rs.take 0 ++ x :: rs.drop 0).length ((rs.take 0 ++ x :: rs.drop 0).flatMap RM.enc) := by
                      have q := HOz.out
                      rw [show 0 + (1 + (0 - 0)) = 0 + 1 by omega] at q
                      rw [ins_len x ML.out (by omega), ins_flat, show 1 = 0 + 1 by omega]
                      exact q
                    have own3 := owns_low own2 (base' := w.heap.size) (Nat.le_trans M7.out.size GX.out.size)
                    have nb : ∀ i (hi : i < out.length), out[i].v.ownBlock = none ∨ out[i].v.ownBlock ≠ (Value.slice a' 1 c').ownBlock := fun i hi => by
                      cases hz : out[i].v.ownBlock with
                      | none => exact .inl rfl
                      | some g3 => exact .inr (fun e => by have h1 := (own2.lt g3 e.symm).1; have h2 := ((OA7.out.rls out[i] (List.getElem_mem hi)).own.lt g3 hz).2; have h3 := GX.out.size; omega)
                    have tyP := BZ.out.ty
                    have gst := grownBy_set wz PX 2 (.slice a' 1 c')
                    refine ⟨j, rs.take 0 ++ x :: rs.drop 0, .slice a' 1 c', by go_num, by rw [ins_len x ML.out (by omega)]; omega, BZ.out.set 2 _, ?_, ins_good GD5.out ML.out (by omega) (by omega) XN.out XA.out LOW.out (fun q => absurd q (by rw [ML.out]; omega)), (OA7.out.gr GZ).kep gst tyP VNE.out, nb, (RN7.out.gr GZ).oth (tyP.apart (RN7.out.gr GZ).ty (by decide)), (M7.out.gr GZ).setc PXL.out⟩
                    refine RlsAt.kep (w := wz) (B := PX) ⟨own3, fun y hy => ?_, fun y hy => ?_, by simp only; rw [ins_len x ML.out (by omega)]; omega, CLN.out⟩ gst tyP
                    · rcases ins_mem hy with rfl | q
                      · exact XW7.out.gr GZ
                      · exact (RL7.out.wds y q).gr GZ
                    · rcases ins_mem hy with rfl | q
                      · exact ⟨XR.out, Nat.le_trans (rule_name XR.out) (by omega), XC.out⟩
                      · exact RL7.out.ok y q
                  case measure => simp [intOf]
                | some A =>
                  obtain ⟨g, rfl⟩ : ∃ g, A = ⟨g, 0, none⟩ := by
                    have q := RL7.out.own
                    simp only at q
                    rcases q.2 with ⟨e, z⟩ | ⟨g, cap, cur, e, _⟩
                    · cases e
                    · cases e; exact ⟨g, rfl⟩
                  have CAP : Hid (n ≤ rc) := Lib.hid (by have q := owns_cap' (by have q := RL7.out.own; simp only at q; exact q); have := ML.out; omega)
                  by_cases hnc : n < rc
                  · have hnc2 : (n : Int) < rc := by omega
                    go_wp2_with fail
                    go_quiet (fail)
                    go_wp2_with fail
                    go_quiet (fail)
                    go_wp2_with fail
                    refine wp_drew fun W8 hg8 => ?_
                    have G8 := Lib.hid (HG.out.trans hg8)
                    clear hg8
                    have OW8 := Lib.hid (by have q := Gr.owns RL7.out.own G8.out; simp only at q; rw [ML.out] at q; exact q)
                    have BX8 := Lib.hid (BX7.out.gr G8.out)
                    have RX8 := Lib.hid (RX0.out.gr G8.out)
                    refine wp_code_eq (c := Code.region 15 (regIn 15 Tryz.f9) true) (by kernel_rfl) (gs15S (g := g) (m := n) (c := rc) (k := n) (x := x) (xs := rs) (PX := PX) (RX := RX) (wr := W8) RX8.out BX8.out rfl (fun W hg => gets_drop (Gr.owns OW8.out hg) ML.out (by omega)) (by omega) ⟨Nat.le_refl _, CAP.out, hnc⟩ ?_)
                    intro t10 t67 t68 t69 t70 t71 t72 t73 WX hgx hown
                    obtain ⟨g1, c1, rfl, _, hg1, hcell⟩ := owns_cell hown (by omega)
                    have GX := Lib.hid (G8.out.trans hgx)
                    have OT := Lib.hid (fun (j : Nat) (u : Value) (hu : (x.enc ++ (rs.drop n).flatMap RM.enc)[j]? = some u) => (show WX.cell? ((⟨g1, 0, none⟩ : Addr).add j) = some u from by
                      obtain ⟨hj, _⟩ := List.getElem?_eq_some_iff.1 hu
                      rw [List.length_append, flatR_len, List.length_drop, ML.out, RM.enc_len] at hj
                      rw [Addr.add_lit, Nat.zero_add, hcell j (by have := Nat.sub_mul n n 7; omega), hu]))
                    have LN : Hid ((x.enc ++ (rs.drop n).flatMap RM.enc).length = (1 + (n - n)) * 7) := Lib.hid (by rw [List.length_append, flatR_len, List.length_drop, ML.out, RM.enc_len] <;> omega)
                    have LT : Hid (((rs.take n).flatMap RM.enc).length = n * 7) := Lib.hid (by rw [flatR_len, List.length_take, ML.out] <;> (congr 1 <;> omega))
                    have OWX := Lib.hid (Gr.owns OW8.out hgx)
                    have BXX := Lib.hid (BX8.out.gr hgx)
                    have q2 : WX.cell? ⟨PX, 2, none⟩ = some (.slice (some ⟨g, 0, none⟩) n rc) := BXX.out.cell 2 (by simp)
                    have qh := has_of_cell q2
                    have CT := Lib.hid (cells_take OWX.out ML.out (k := n) (by omega))
                    have ONE := Lib.hid (show ∀ u ∈ x.enc ++ (rs.drop n).flatMap RM.enc, u.oneCell' = true from fun u hu => (List.mem_append.1 hu).elim (x.enc_one u) (flatR_one _ u))
                    have kc : (n : Int) ≤ rc := by have := CAP.out; omega
                    obtain ⟨i0, hi, hy0, hy1, hy2⟩ := info_parts infoRul
                    clear hgx hown hcell hg1
                    unfold gs15SA
                    go_wp2_with (at_builtin; refine wpList_append_grows _ rfl _ _ 46 rfl 51 i0 (.agg #[.string (bs []), .bool false, .int .i64 0, .int .i64 0, .int .i64 0, .int .i64 0, .slice none 0 0]) 7 80 Tryz.underlying46 hi hy0 hy1 hy2 rfl (by decide) (some ⟨g, 0, none⟩) n n ((rs.take n).flatMap RM.enc) rfl (fun q => by cases q <;> exact ⟨rfl, rfl⟩) LT.out CT.out ⟨g1, 0, none⟩ (1 + (n - n)) c1 (x.enc ++ (rs.drop n).flatMap RM.enc) rfl LN.out OT.out ONE.out (by omega) (by unfold maxLen; omega) (by omega) ?_; intro v' wz hown' hgrow; obtain ⟨a', c', rfl⟩ := owns_slice hown'; have HOz := Lib.hid hown'; have HGz := Lib.hid hgrow; have BZ := Lib.hid (BXX.out.kept hgrow (by simp)); have z2 : wz.cell? ⟨PX, 2, none⟩ = some (.slice (some ⟨g, 0, none⟩) n rc) := BZ.out.cell 2 (by simp); have zf := BZ.out.free 2; have zh := has_of_cell z2; clear hown' hgrow)
                    go_roundw
                    case rel =>
                      have GZ : Gr W7 wz := (GX.out.grown HGz.out (fun k e => by cases e))
                      have own2 : wz.ownsRow WX.heap.size 51 7 (.slice a' (n + 1) c') (rs.take n ++ x :: rs.drop n).length ((rs.take n ++ x :: rs.drop n).flatMap RM.enc) := by
                        have q := HOz.out
                        rw [show n + (1 + (n - n)) = n + 1 by omega] at q
                        rw [ins_len x ML.out (by omega), ins_flat, show (n + 1) = n + 1 by omega]
                        exact q
                      have own3 := owns_low own2 (base' := w.heap.size) (Nat.le_trans M7.out.size GX.out.size)
                      have nb : ∀ i (hi : i < out.length), out[i].v.ownBlock = none ∨ out[i].v.ownBlock ≠ (Value.slice a' (n + 1) c').ownBlock := fun i hi => by
                        cases hz : out[i].v.ownBlock with
                        | none => exact .inl rfl
                        | some g3 => exact .inr (fun e => by have h1 := (own2.lt g3 e.symm).1; have h2 := ((OA7.out.rls out[i] (List.getElem_mem hi)).own.lt g3 hz).2; have h3 := GX.out.size; omega)
                      have tyP := BZ.out.ty
                      have gst := grownBy_set wz PX 2 (.slice a' (n + 1) c')
                      refine ⟨j, rs.take n ++ x :: rs.drop n, .slice a' (n + 1) c', by go_num, by rw [ins_len x ML.out (by omega)]; omega, BZ.out.set 2 _, ?_, ins_good GD5.out ML.out (by omega) (by omega) XN.out XA.out LOW.out (fun q => absurd q (by rw [ML.out]; omega)), (OA7.out.gr GZ).kep gst tyP VNE.out, nb, (RN7.out.gr GZ).oth (tyP.apart (RN7.out.gr GZ).ty (by decide)), (M7.out.gr GZ).setc PXL.out⟩
                      refine RlsAt.kep (w := wz) (B := PX) ⟨own3, fun y hy => ?_, fun y hy => ?_, by simp only; rw [ins_len x ML.out (by omega)]; omega, CLN.out⟩ gst tyP
                      · rcases ins_mem hy with rfl | q
                        · exact XW7.out.gr GZ
                        · exact (RL7.out.wds y q).gr GZ
                      · rcases ins_mem hy with rfl | q
                        · exact ⟨XR.out, Nat.le_trans (rule_name XR.out) (by omega), XC.out⟩
                        · exact RL7.out.ok y q
                    case measure => simp [intOf]
                  · obtain rfl : rc = n := by have := CAP.out; omega
                    go_wp2_with fail
                    go_quiet (fail)
                    go_wp2_with fail
                    go_quiet (fail)
                    go_wp2_with fail
                    refine wp_drew fun W8 hg8 => ?_
                    have G8 := Lib.hid (HG.out.trans hg8)
                    clear hg8
                    have OW8 := Lib.hid (by have q := Gr.owns RL7.out.own G8.out; simp only at q; rw [ML.out] at q; exact q)
                    have BX8 := Lib.hid (BX7.out.gr G8.out)
                    have RX8 := Lib.hid (RX0.out.gr G8.out)
                    refine wp_code_eq (c := Code.region 15 (regIn 15 Tryz.f9) true) (by kernel_rfl) (gs15E (g := g) (k := rc) (x := x) (xs := rs) (PX := PX) (RX := RX) (wr := W8) RX8.out BX8.out rfl (fun W hg => ⟨by rw [List.drop_eq_nil_of_le (by rw [ML.out]; exact Nat.le_refl _)]; rfl, fun q => absurd rfl q⟩) (by omega) ?_)
                    intro t10 t67 t68 t69 t70 t71 t72 t73 WX hgx hown0
                    have hown : WX.ownsRow W8.heap.size 51 7 t10 (1 + (rc - rc)) (x.enc ++ (rs.drop rc).flatMap RM.enc) := by rw [Nat.sub_self]; exact hown0
                    obtain ⟨g1, c1, rfl, _, hg1, hcell⟩ := owns_cell hown (by omega)
                    have GX := Lib.hid (G8.out.trans hgx)
                    have OT := Lib.hid (fun (j : Nat) (u : Value) (hu : (x.enc ++ (rs.drop rc).flatMap RM.enc)[j]? = some u) => (show WX.cell? ((⟨g1, 0, none⟩ : Addr).add j) = some u from by
                      obtain ⟨hj, _⟩ := List.getElem?_eq_some_iff.1 hu
                      rw [List.length_append, flatR_len, List.length_drop, ML.out, RM.enc_len] at hj
                      rw [Addr.add_lit, Nat.zero_add, hcell j (by have := Nat.sub_mul rc rc 7; omega), hu]))
                    have LN : Hid ((x.enc ++ (rs.drop rc).flatMap RM.enc).length = (1 + (rc - rc)) * 7) := Lib.hid (by rw [List.length_append, flatR_len, List.length_drop, ML.out, RM.enc_len] <;> omega)
                    have LT : Hid (((rs.take rc).flatMap RM.enc).length = rc * 7) := Lib.hid (by rw [flatR_len, List.length_take, ML.out] <;> (congr 1 <;> omega))
                    have OWX := Lib.hid (Gr.owns OW8.out hgx)
                    have BXX := Lib.hid (BX8.out.gr hgx)
                    have q2 : WX.cell? ⟨PX, 2, none⟩ = some (.slice (some ⟨g, 0, none⟩) rc rc) := BXX.out.cell 2 (by simp)
                    have qh := has_of_cell q2
                    have CT := Lib.hid (cells_take OWX.out ML.out (k := rc) (by omega))
                    have ONE := Lib.hid (show ∀ u ∈ x.enc ++ (rs.drop rc).flatMap RM.enc, u.oneCell' = true from fun u hu => (List.mem_append.1 hu).elim (x.enc_one u) (flatR_one _ u))
                    have kc : (rc : Int) ≤ rc := by have := CAP.out; omega
                    obtain ⟨i0, hi, hy0, hy1, hy2⟩ := info_parts infoRul
                    clear hgx hown hown0 hcell hg1
                    unfold gs15EA
                    go_wp2_with (at_builtin; refine wpList_append_grows _ rfl _ _ 46 rfl 51 i0 (.agg #[.string (bs []), .bool false, .int .i64 0, .int .i64 0, .int .i64 0, .int .i64 0, .slice none 0 0]) 7 80 Tryz.underlying46 hi hy0 hy1 hy2 rfl (by decide) (some ⟨g, 0, none⟩) rc rc ((rs.take rc).flatMap RM.enc) rfl (fun q => by cases q <;> exact ⟨rfl, rfl⟩) LT.out CT.out ⟨g1, 0, none⟩ (1 + (rc - rc)) c1 (x.enc ++ (rs.drop rc).flatMap RM.enc) rfl LN.out OT.out ONE.out (by omega) (by unfold maxLen; omega) (by omega) ?_; intro v' wz hown' hgrow; obtain ⟨a', c', rfl⟩ := owns_slice hown'; have HOz := Lib.hid hown'; have HGz := Lib.hid hgrow; have BZ := Lib.hid (BXX.out.kept hgrow (by simp)); have z2 : wz.cell? ⟨PX, 2, none⟩ = some (.slice (some ⟨g, 0, none⟩) rc rc) := BZ.out.cell 2 (by simp); have zf := BZ.out.free 2; have zh := has_of_cell z2; clear hown' hgrow)
                    go_roundw
                    case rel =>
                      have GZ : Gr W7 wz := (GX.out.grown HGz.out (fun k e => by cases e))
                      have own2 : wz.ownsRow WX.heap.size 51 7 (.slice a' (rc + 1) c') (rs.take rc ++ x :: rs.drop rc).length ((rs.take rc ++ x :: rs.drop rc).flatMap RM.enc) := by
                        have q := HOz.out
                        rw [show rc + (1 + (rc - rc)) = rc + 1 by omega] at q
                        rw [ins_len x ML.out (by omega), ins_flat, show (rc + 1) = rc + 1 by omega]
                        exact q
                      have own3 := owns_low own2 (base' := w.heap.size) (Nat.le_trans M7.out.size GX.out.size)
                      have nb : ∀ i (hi : i < out.length), out[i].v.ownBlock = none ∨ out[i].v.ownBlock ≠ (Value.slice a' (rc + 1) c').ownBlock := fun i hi => by
                        cases hz : out[i].v.ownBlock with
                        | none => exact .inl rfl
                        | some g3 => exact .inr (fun e => by have h1 := (own2.lt g3 e.symm).1; have h2 := ((OA7.out.rls out[i] (List.getElem_mem hi)).own.lt g3 hz).2; have h3 := GX.out.size; omega)
                      have tyP := BZ.out.ty
                      have gst := grownBy_set wz PX 2 (.slice a' (rc + 1) c')
                      refine ⟨j, rs.take rc ++ x :: rs.drop rc, .slice a' (rc + 1) c', by go_num, by rw [ins_len x ML.out (by omega)]; omega, BZ.out.set 2 _, ?_, ins_good GD5.out ML.out (by omega) (by omega) XN.out XA.out LOW.out (fun q => absurd q (by rw [ML.out]; omega)), (OA7.out.gr GZ).kep gst tyP VNE.out, nb, (RN7.out.gr GZ).oth (tyP.apart (RN7.out.gr GZ).ty (by decide)), (M7.out.gr GZ).setc PXL.out⟩
                      refine RlsAt.kep (w := wz) (B := PX) ⟨own3, fun y hy => ?_, fun y hy => ?_, by simp only; rw [ins_len x ML.out (by omega)]; omega, CLN.out⟩ gst tyP
                      · rcases ins_mem hy with rfl | q
                        · exact XW7.out.gr GZ
                        · exact (RL7.out.wds y q).gr GZ
                      · rcases ins_mem hy with rfl | q
                        · exact ⟨XR.out, Nat.le_trans (rule_name XR.out) (by omega), XC.out⟩
                        · exact RL7.out.ok y q
                    case measure => simp [intOf]
    · obtain rfl : k = 4 := by omega
      go_wp2_with fail
      refine bodyPost_ret (v := .slice va out.length vc) (by simp [results, Tryz.results9, go_sem]) rfl ?_
      exact ⟨_, out, rfl, OA.out, SB.out, GO.out, MV.out⟩
end Go.Proofs.YtbpkndiecomggaaGreatDoor
