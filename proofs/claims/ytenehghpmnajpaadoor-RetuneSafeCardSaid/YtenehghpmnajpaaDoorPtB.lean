/- Contract of the reference's Settings, for right writes. -/
import Derived.Test.YtenehghpmnajpaaDoorPtA
import Derived.Test.YtenehghpmnajpaaDoorPtC
import Derived.Test.YtenehghpmnajpaaDoorCoA
import Derived.Laws.OwnMore
set_option linter.unusedVariables false
set_option linter.unusedSimpArgs false
namespace Go.Proofs.YtenehghpmnajpaaDoor
open Go.RowKit
open Classical

def OsIn (base : Nat) (w : World) (os : List OT) : Prop := ∀ o ∈ os, RowS w o.B 3 (nums o.t) ∧ base ≤ o.B
theorem OsIn.gr {base : Nat} {w w' : World} {os : List OT} (h : OsIn base w os) (hg : Gr w w') : OsIn base w' os := fun o ho => ⟨(h o ho).1.gr hg, (h o ho).2⟩
/-- The settings of a sequence of writes. -/
def GivesPath (w : World) (s : List Int) (ps : List (Int × Int)) (e : Ending) (w' : World) : Prop :=
  ∃ (os : List OT) (a : Option Addr) (c : Nat), e = .returned (.tuple #[.slice a (ps.length + 1) c, .int .i64 0]) ∧ os.map OT.t = pathS s ps ∧
    w'.ownsRow w.heap.size 22 1 (.slice a (ps.length + 1) c) (ps.length + 1) (os.map (encO s.length)) ∧ OsIn w.heap.size w' os ∧ Gr w w'
/-- What holds after some writes. -/
structure PathSt (w : World) (s : List Int) (ps : List (Int × Int)) (k : Nat) (os : List OT) (a : Option Addr) (c : Nat) (wr : World) : Prop where
  path : os.map OT.t = pathS s (ps.take k)
  own : wr.ownsRow w.heap.size 22 1 (.slice a (k + 1) c) (k + 1) (os.map (encO s.length))
  rows : OsIn w.heap.size wr os
  gr : Gr w wr
theorem pathS_take_succ (s : List Int) (ps : List (Int × Int)) (k : Nat) (hk : k < ps.length) : pathS s (ps.take (k + 1)) = pathS s (ps.take k) ++ [putS ((pathS s ps)[k]'(by rw [pathS_len]; omega)) ps[k]] := by
  have app : ∀ (qs : List (Int × Int)) (s : List Int) (p : Int × Int), pathS s (qs ++ [p]) = pathS s qs ++ [putS ((pathS s qs)[qs.length]'(by rw [pathS_len]; omega)) p] := by
    intro qs
    induction qs with
    | nil => intro s p; simp [pathS, tailS]
    | cons q qs ih =>
      intro s p
      have := ih (putS s q) p
      simp only [pathS, tailS, List.cons_append, List.cons.injEq, true_and, List.length_cons, List.getElem_cons_succ] at this ⊢
      exact this
  have pre : ∀ (k : Nat) (h : k ≤ ps.length), (pathS s (ps.take k))[k]'(by rw [pathS_len, List.length_take]; omega) = (pathS s ps)[k]'(by rw [pathS_len]; omega) := by
    intro k
    induction k with
    | zero => intro _; simp [pathS]
    | succ k ih =>
      intro h
      have e1 := pathS_step (ps.take (k + 1)) s k (by rw [List.length_take]; omega)
      have e2 := pathS_step ps s k (by omega)
      rw [e1, e2]
      have ht : ps.take (k + 1) = ps.take k ++ [ps[k]] := by rw [List.take_add_one, List.getElem?_eq_getElem (by omega)]; rfl
      have e3 : (ps.take (k + 1))[k]'(by rw [List.length_take]; omega) = ps[k] := by simp
      rw [e3]
      congr 1
      rw [← ih (by omega)]
      have e4 : pathS s (ps.take (k + 1)) = pathS s (ps.take k) ++ [putS ((pathS s (ps.take k))[(ps.take k).length]'(by rw [pathS_len]; omega)) ps[k]] := by rw [ht]; exact app _ _ _
      simp only [e4]
      rw [List.getElem_append_left (by rw [pathS_len, List.length_take]; omega)]
  have ht : ps.take (k + 1) = ps.take k ++ [ps[k]] := by rw [List.take_add_one, List.getElem?_eq_getElem hk]; rfl
  rw [ht, app]
  have e5 : (ps.take k).length = k := by rw [List.length_take]; omega
  simp only [e5, pre k (by omega)]
theorem PathSt.last {w wr : World} {s : List Int} {ps : List (Int × Int)} {k : Nat} {os : List OT} {a : Option Addr} {c : Nat} (h : PathSt w s ps k os a c wr) (hk : k ≤ ps.length) :
    ∃ (g B cx : Nat), a = some ⟨g, 0, none⟩ ∧ wr.cell? ⟨g, k, none⟩ = some (.slice (some ⟨B, 0, none⟩) s.length cx) ∧ RowS wr B 3 (nums ((pathS s ps)[k]'(by rw [pathS_len]; omega))) := by
  obtain ⟨g, cap, e, _, _, hc⟩ := owns_cell h.own (by omega)
  cases e
  have hl : os.length = k + 1 := by have := congrArg List.length h.path; rw [List.length_map, pathS_len, List.length_take] at this; omega
  have q := hc k (by omega)
  rw [List.getElem?_eq_getElem (by rw [List.length_map]; omega), List.getElem_map] at q
  have hr := (h.rows os[k] (List.getElem_mem _)).1
  have et : os[k].t = (pathS s ps)[k]'(by rw [pathS_len]; omega) := by
    have e1 : (os.map OT.t)[k]'(by rw [List.length_map]; omega) = (pathS s (ps.take k))[k]'(by rw [pathS_len, List.length_take]; omega) := by simp only [h.path]
    rw [List.getElem_map] at e1
    rw [e1]
    by_cases e : k = ps.length
    · subst e; simp
    · have e2 := pathS_take_succ s ps k (by omega)
      cases k with
      | zero => simp [pathS]
      | succ j =>
        have e4 := pathS_take_succ s ps j (by omega)
        simp only [e4]
        rw [List.getElem_append_right (by rw [pathS_len, List.length_take]; omega)]
        simp only [pathS_len, List.length_take]
        rw [pathS_step ps s j (by omega)]
        simp
  rw [et] at hr
  exact ⟨g, os[k].B, os[k].c, rfl, q, hr⟩
set_option maxRecDepth 100000 in
set_option maxHeartbeats 2000000 in
theorem refSettings_any (l : List Clk) (s : List Int) (ps : List (Int × Int)) (al aS ap : Option Addr) (cl cs cp : Nat) (w : World) (h : SlOf 5 RClk w al l) (hs : SlOf 1 RI w aS s) (hp : SlOf 3 RWc w ap ps) (hc : cchk l = 0) (hset : SetOk l s) (hw : ∀ p ∈ ps, WrOk l p) (h1 : 1 ≤ l.length) (hpl : ps.length ≤ 4096) :
    Calls Tryd.prog 19 #[.slice al l.length cl, .slice aS s.length cs, .slice ap ps.length cp] w (GivesPath w s ps) := by
  have hl := small_len (cchk_zero hc).1
  have HSL := Lib.hid hset.1
  have hs1 : 0 < s.length := by have := hset.1; omega
  have hs2 : s.length ≤ 16 := by have := hset.1; omega
  obtain ⟨i0, hi, hz0, hz1, hz2⟩ := info_parts infoInt
  obtain ⟨k0, hk0, hx0, hx1, hx2⟩ := info_parts infoSl
  obtain ⟨bs, os, rfl, h00⟩ := hs 0 (by omega)
  have CS := Lib.hid (slI_cells (b := bs) (o := os) (s := none) (vs := s) (w := w) hs)
  have gE : Gr w (w.alloc (.cells #[] 3)) := (Gr.refl _).alloc _
  have CS1 : Hid (∀ j u, (nums s)[j]? = some u → (w.alloc (.cells #[] 3)).cell? ((⟨bs, os, none⟩ : Addr).add j) = some u) := Lib.hid (fun j u hu => cell_gr gE (CS.out j u hu))
  have H := Lib.hid h
  have HP := Lib.hid hp
  have HC := Lib.hid hc
  have HT := Lib.hid hset
  have HW := Lib.hid hw
  clear h00 hs gE CS h hp hc hset hw
  go_enter Tryd.func19, Tryd.ntmps19
  go_wp2_with (first
    | (at_builtin; refine wpList_append_fresh _ rfl _ _ 22 rfl 3 i0 (.int .i64 0) 8 Tryd.underlying22 hi hz0 hz1 hz2 ⟨w.heap.size, 0, none⟩ ⟨bs, os, none⟩ s.length cs (nums s) rfl rfl (by rw [nums_len]) CS1.out (by omega) (by omega) (by omega) (w.heap.size + 1) (by simp) ?_; intro cap Z hcap
       have R2 := Lib.hid (row_fresh' (w.alloc (.cells #[] 3)).drew (nums s) Z 3 (w.heap.size + 1) (by simp [World.drew]))
       have G2 : Hid (Gr w ((w.alloc (.cells #[] 3)).drew.alloc (.cells ((nums s).toArray ++ Z) 3))) := Lib.hid (((Gr.refl _).alloc _).drew.alloc _)
       obtain ⟨N2, hN2⟩ : ∃ N2 : Nat, Hid (w.heap.size + 1 = N2) := ⟨_, Lib.hid rfl⟩
       rw [hN2.out] at R2 ⊢
       obtain ⟨W2, hW2⟩ : ∃ W2 : World, ((w.alloc (.cells #[] 3)).drew.alloc (.cells ((nums s).toArray ++ Z) 3)) = W2 := ⟨_, rfl⟩
       rw [hW2] at R2 G2 ⊢
       clear hW2)
    | fail)
  have hW2 : Hid (w.heap.size ≤ W2.heap.size) := Lib.hid G2.out.size
  have O2 : Hid ((W2.alloc (.cells #[.slice (some ⟨N2, 0, none⟩) s.length cap] 22)).ownsRow w.heap.size 22 1 (.slice (some ⟨W2.heap.size, 0, none⟩) 1 1) 1 [.slice (some ⟨N2, 0, none⟩) s.length cap]) := Lib.hid (World.ownsRow_lit W2 #[.slice (some ⟨N2, 0, none⟩) s.length cap] 1 hW2.out (by unfold maxLen; omega) rfl)
  have P0 : Hid (PathSt w s ps 0 [⟨s, N2, cap⟩] (some ⟨W2.heap.size, 0, none⟩) 1 (W2.alloc (.cells #[.slice (some ⟨N2, 0, none⟩) s.length cap] 22))) := Lib.hid
    ⟨by simp [pathS, tailS], O2.out, (fun o ho => by
      have : o = ⟨s, N2, cap⟩ := by simpa using ho
      subst this
      exact ⟨R2.out.alloc _, by have := hN2.out; simp only; omega⟩), G2.out.alloc _⟩
  clear R2 G2 hN2 O2 CS1
  go_loopw [8, 19] (fun s8 s19 wr => ∃ (k : Nat) (os : List OT) (a : Option Addr) (c : Nat), s19 = .int .i64 (k : Int) ∧ s8 = .slice a (k + 1) c ∧ k ≤ ps.length ∧ PathSt w s ps k os a c wr) (fun _ s19 _ => ps.length - (intOf s19).toNat)
  case atStart => exact ⟨0, _, _, _, rfl, rfl, Nat.zero_le _, P0.out⟩
  case round =>
    clear P0
    obtain ⟨k, os', a, c, rfl, rfl, hk, hst⟩ := hrel
    have S := Lib.hid hst
    by_cases hlt : k < ps.length
    · obtain ⟨u, v, epk, hu, hv⟩ := HW.out _ (List.getElem_mem hlt)
      obtain ⟨g, B, cx, rfl, q0, qr⟩ := hst.last hk
      obtain ⟨bp, op, rfl, ⟨p0, _⟩, ⟨p1, _⟩, ⟨p2, _⟩⟩ := HP.out.gr RWc.mono hst.gr k hlt
      rw [epk] at p1 p2
      have hxk := pathS_ok ps HT.out HW.out k (by rw [pathS_len]; omega)
      have stp := pathS_step ps s k hlt
      obtain ⟨x, hx⟩ : ∃ x, (pathS s ps)[k]'(by rw [pathS_len]; omega) = x := ⟨_, rfl⟩
      rw [hx] at qr hxk stp
      rw [epk] at stp
      have XL : Hid (x.length = s.length) := Lib.hid (by rw [hxk.1, HSL.out])
      have QR := Lib.hid qr
      have XK := Lib.hid hxk
      have ST := Lib.hid stp
      have EP := Lib.hid epk
      have HX := Lib.hid hx
      have k2 : (k : Int) < ps.length := by omega
      have hgg := has_of_cell q0
      have hgp := has_of_cell p0
      clear hst qr hxk stp epk hx
      go_wp2_with fail
      obtain ⟨W5, hW5⟩ : ∃ W5 : World, Hid (W5 = wr.alloc (.cells #[.int .i64 1, .int .i64 u, .int .i64 v] 35)) := ⟨_, Lib.hid rfl⟩
      have RW : Hid (Row W5 wr.heap.size 35 [.int .i64 1, .int .i64 u, .int .i64 v]) := Lib.hid (by rw [hW5.out]; exact Row.new wr #[.int .i64 1, .int .i64 u, .int .i64 v] 35)
      have g5 : Hid (Gr wr W5) := Lib.hid (by rw [hW5.out]; exact (Gr.refl _).alloc _)
      obtain ⟨P, hP⟩ : ∃ P, wr.heap.size = P := ⟨_, rfl⟩
      rw [← hW5.out]
      rw [hP] at RW ⊢
      have q05 := cell_gr g5.out q0
      rw [← XL.out] at q05
      have hk4 : k ≤ 4096 := by omega
      clear hW5 hP q0 p0 p1 p2
      refine wp_code_eq (c := Code.region 5 (regIn 5 Tryd.f19) true) (by kernel_rfl) (r5 (wr := W5) (l := l) (x := x) (u := u) (v := v) (k := k) (al := al) (cl := cl) (cx := cx) (c := c) (g := g) (B := B) (P := P) RW.out (clks_gr H.out (S.out.gr.trans g5.out)) HC.out XK.out q05 (QR.out.gr g5.out) hu hv hk4 ?_)
      intro t23 t24 t25 t26 t27 t28 t29 t30 t31 t32 t33 t34 B2 c2 W6 hg6 hr2 hb2
      simp only [r5A]
      rw [XL.out]
      have g6 : Hid (Gr wr (W6.alloc (.cells #[.slice (some ⟨B2, 0, none⟩) s.length c2] 22))) := Lib.hid ((g5.out.trans hg6).alloc _)
      have O6 := Lib.hid (Gr.owns S.out.own g6.out)
      have I6 := Lib.hid (S.out.rows.gr g6.out)
      have N6 := Lib.hid (hr2.gr ((Gr.refl W6).alloc (.cells #[.slice (some ⟨B2, 0, none⟩) s.length c2] 22)))
      have GW6 := Lib.hid (S.out.gr.trans g6.out)
      have B26 : Hid (w.heap.size ≤ B2) := Lib.hid (Nat.le_trans (Nat.le_trans S.out.gr.size g5.out.size) hb2)
      have CC : Hid (∀ j y, ([Value.slice (some ⟨B2, 0, none⟩) s.length c2])[j]? = some y → (W6.alloc (.cells #[.slice (some ⟨B2, 0, none⟩) s.length c2] 22)).cell? ((⟨W6.heap.size, 0, none⟩ : Addr).add j) = some y) := Lib.hid (row_cells (Row.new W6 #[.slice (some ⟨B2, 0, none⟩) s.length c2] 22))
      have base := Lib.hid GW6.out.size
      clear hg6 hr2 hb2 g5 g6 RW QR q05 hgg hgp
      go_wp2_with (first
        | (at_builtin; refine wpList_append_own _ rfl _ _ 42 rfl w.heap.size 22 k0 (.slice none 0 0) 1 24 Tryd.underlying42 hk0 hx0 hx1 hx2 rfl (by decide) (.slice (some ⟨g, 0, none⟩) (k + 1) c) (k + 1) (os'.map (encO s.length)) rfl O6.out ⟨W6.heap.size, 0, none⟩ 1 1 [.slice (some ⟨B2, 0, none⟩) s.length c2] rfl rfl CC.out (by simp [Value.oneCell']) (by unfold maxLen; omega) (by omega) base.out ?_; intro v' W7 hown hgrow hnil; obtain ⟨a7, c7, rfl⟩ := owns_slice hown; have O7 := Lib.hid hown; have G7 := Lib.hid (GW6.out.grown hgrow (fun k e => (O6.out.lt k e).1)); have I7 : Hid (OsIn w.heap.size W7 os') := Lib.hid (fun o ho => ⟨(I6.out o ho).1.grown hgrow (owns_apart O6.out (I6.out o ho).1 (by decide)), (I6.out o ho).2⟩); have N7 := Lib.hid (N6.out.grown hgrow (owns_apart O6.out N6.out (by decide))); clear hown hgrow hnil)
        | fail)
      go_roundw
      case rel =>
        refine ⟨k + 1, os' ++ [⟨x.set u (v : Int), B2, c2⟩], a7, c7, by go_num, rfl, by omega, ?_, ?_, ?_, G7.out⟩
        · rw [List.map_append, S.out.path, pathS_take_succ s ps k hlt, HX.out, EP.out]
          simp [putS]
        · have := O7.out
          simpa [encO] using this
        · intro o ho
          rcases List.mem_append.1 ho with ho | ho
          · exact I7.out o ho
          · have : o = ⟨x.set u (v : Int), B2, c2⟩ := by simpa using ho
            subst this
            exact ⟨N7.out, B26.out⟩
      case measure => simp [intOf]; omega
    · have hk' : k = ps.length := by omega
      subst hk'
      clear hst
      go_wp2_with fail
      go_ret2
      have hP := S.out.path
      rw [List.take_length] at hP
      exact ⟨os', a, c, rfl, hP, S.out.own, S.out.rows, S.out.gr⟩
end Go.Proofs.YtenehghpmnajpaaDoor
