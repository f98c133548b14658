/- Lemmas and contracts for the proof of RetuneAnswers (several texts in one, printed by wip/tools/pack.py): DsB RsS CdA RpS. -/
import Derived.Test.YtenehghpmnajpaaGreatDoorRa8pq
import Derived.Test.YtenehghpmnajpaaGreatDoorRa8pp
import Derived.Test.YtenehghpmnajpaaGreatDoorRa8ph
import Derived.Test.YtenehghpmnajpaaGreatDoorRa8pm
set_option maxRecDepth 100000
set_option maxHeartbeats 16000000
set_option linter.unusedVariables false
set_option linter.unusedSimpArgs false
namespace Go.Proofs.YtenehghpmnajpaaGreatDoor
open Go.RowKit
open Classical
def QE (w : World) (base : Nat) (wr : World) (v : Value) (s : List Int) : Prop := ∃ (a : Option Addr) (c : Nat), v = .slice a s.length c ∧ (SlOf 1 RI w a s ∨ ∃ B, a = some ⟨B, 0, none⟩ ∧ RowS wr B 3 (nums s) ∧ base ≤ B)
theorem QE.gr {w wr wr' : World} {base : Nat} {v : Value} {s : List Int} (h : QE w base wr v s) (hg : Gr wr wr') : QE w base wr' v s := by
  obtain ⟨a, c, e, h | ⟨B, e2, r, b⟩⟩ := h
  · exact ⟨a, c, e, .inl h⟩
  · exact ⟨a, c, e, .inr ⟨B, e2, r.gr hg, b⟩⟩
theorem QE.set {w wr : World} {base D : Nat} {v x : Value} {j : Nat} {s : List Int} (h : QE w base wr v s) (hd : D < base) : QE w base (wr.setCell ⟨D, j, none⟩ x) v s := by
  obtain ⟨a, c, e, h | ⟨B, e2, ⟨r, hr⟩, b⟩⟩ := h
  · exact ⟨a, c, e, .inl h⟩
  · exact ⟨a, c, e, .inr ⟨B, e2, ⟨r, hr.oth (by omega)⟩, b⟩⟩
theorem QE.sl {w wr : World} {base : Nat} {v : Value} {s : List Int} (h : QE w base wr v s) (hg : Gr w wr) (hw : ∀ k (hk : k < s.length), Wide s[k]) : ∃ a c, v = .slice a s.length c ∧ SlOf 1 RI wr a s := by
  obtain ⟨a, c, e, h | ⟨B, e2, r, b⟩⟩ := h
  · exact ⟨a, c, e, h.giI hg⟩
  · subst e2
    exact ⟨_, c, e, r.slI hw⟩
theorem QE.grown {w wr W : World} {base b2 n : Nat} {v V : Value} {us : List Value} {s : List Int} (h : QE w base wr v s) (o : wr.ownsRow b2 22 1 V n us) (hg : wr.grownBy W V.ownBlock) : QE w base W v s := by
  obtain ⟨a, c, e, h | ⟨B, e2, r, b⟩⟩ := h
  · exact ⟨a, c, e, .inl h⟩
  · exact ⟨a, c, e, .inr ⟨B, e2, r.grown hg (owns_apart o r (by decide)), b⟩⟩
structure QS (w : World) (D : Nat) (V : List (List Int × Int)) (vs : List Value) (ao : Option Addr) (co : Nat) (wr : World) : Prop where
  len : vs.length = V.length
  own : wr.ownsRow (D + 1) 22 1 (.slice ao vs.length co) vs.length vs
  qs : ∀ i (h : i < vs.length) (h' : i < V.length), QE w (D + 1) wr vs[i] V[i].1
  gr : Gr w wr
section
variable {w wr wr' : World} {D : Nat} {V : List (List Int × Int)} {vs : List Value} {ao : Option Addr} {co : Nat}
theorem QS.g (h : QS w D V vs ao co wr) (hg : Gr wr wr') : QS w D V vs ao co wr' :=
  ⟨h.len, Gr.owns h.own hg, fun i hi hi' => (h.qs i hi hi').gr hg, h.gr.trans hg⟩
theorem QS.set (h : QS w D V vs ao co wr) (hd : w.heap.size ≤ D) {us : List Value} (r : Row wr D 3 us) {j : Nat} {x : Value} : QS w D V vs ao co (wr.setCell ⟨D, j, none⟩ x) :=
  ⟨h.len, owns_set h.own r.s (by decide), fun i hi hi' => (h.qs i hi hi').set (by omega), h.gr.setc hd⟩
theorem QS.app (h : QS w D V vs ao co wr) (hd : w.heap.size ≤ D) {W : World} {a6 : Option Addr} {c6 : Nat} {xv : Value} {x : List Int} {d : Int} (ho : W.ownsRow (D + 1) 22 1 (.slice a6 (vs.length + 1) c6) (vs.length + 1) (vs ++ [xv])) (hg : wr.grownBy W (Value.slice ao vs.length co).ownBlock) (hx : QE w (D + 1) wr xv x) :
    QS w D (V ++ [(x, d)]) (vs ++ [xv]) a6 c6 W := by
  refine ⟨by simp [h.len], by simpa using ho, fun i hi hi' => ?_, h.gr.grown hg (fun k e => by have := (h.own.lt k e).1; omega)⟩
  by_cases q : i < vs.length
  · rw [List.getElem_append_left q, List.getElem_append_left (by rw [← h.len]; exact q)]
    exact (h.qs i q (by rw [← h.len]; exact q)).grown h.own hg
  · have e : i = vs.length := by simp at hi; omega
    subst e
    have e2 : vs.length = V.length := h.len
    simp only [List.getElem_append_right (Nat.le_refl _), Nat.sub_self, List.getElem_cons_zero]
    have : (V ++ [(x, d)])[vs.length]'hi' = (x, d) := by simp [e2]
    rw [this]
    exact hx.grown h.own hg
end
theorem neg_step {k N : Nat} (h : k < N) : List.replicate (k + 1) (-1 : Int) ++ List.replicate (N - (k + 1)) 0 = (List.replicate k (-1) ++ List.replicate (N - k) 0).set k (-1) := by
  obtain ⟨r, rfl⟩ : ∃ r, N = k + 1 + r := ⟨N - (k + 1), by omega⟩
  rw [show k + 1 + r - (k + 1) = r by omega, show k + 1 + r - k = r + 1 by omega, List.set_append_right _ _ (by simp), List.length_replicate, Nat.sub_self, List.replicate_succ (n := r), List.set_cons_zero, List.replicate_succ', List.append_assoc]
  rfl
def VF (l : List Clk) (N p : Nat) (h : List Int) (dd : Int) (V : List (List Int × Int)) : Prop := KeysOk l V ∧ look V h = some dd ∧ V.length ≤ N ∧ ∀ q ∈ V, 0 ≤ q.2 ∧ q.2 ≤ (p + 1 : Int)
theorem vf_of {l : List Clk} {cal : List Int → Bool} {f : List Int} (hf : SetOk l f) (hc : cal f = true) {p : Nat} {h : List Int} {dd : Int} (hp : (afterB (nbS l cal) f p)[p]? = some (h, dd)) {u v : Nat} (hu : u < l.length) (hv : (v : Int) ≤ kOf l u) : VF l (prodC l) p h dd (vis l cal h dd (afterB (nbS l cal) f p) u v) := by
  obtain ⟨E, e⟩ := vis_after hp hu hv
  obtain ⟨E2, e2⟩ := vis_ext (l := l) (cal := cal) (V := afterB (nbS l cal) f p) h dd u v
  have hm : ∀ q ∈ vis l cal h dd (afterB (nbS l cal) f p) u v, q ∈ afterB (nbS l cal) f (p + 1) := fun q hq => by rw [e]; exact List.mem_append.2 (.inl hq)
  refine ⟨fun q hq => (after_ok hf hc (p + 1) q (hm q hq)).1, ?_, ?_, fun q hq => ?_⟩
  · rw [e2]
    have h1 : look (afterB (nbS l cal) f p) h = some dd := look_mem (BInv.after (nbS l cal) f p).nodup (List.mem_of_getElem? hp)
    rw [look_ext (by rw [h1]; rfl), h1]
  · have := after_len hf hc (p + 1)
    rw [e, List.length_append] at this
    omega
  · have := after_bnd (l := l) (cal := cal) f (p + 1) q (hm q hq)
    omega
theorem distances_any (l : List Clk) (ms : List Lmt) (f : List Int) (al am af : Option Addr) (cl cm cf : Nat) (w : World) (henv : Env w l ms al am) (hf : SetOk l f) (sf : SlOf 1 RI w af f) (hcal : calS l ms f = true) :
    Calls Tryz.prog 94 #[.slice al l.length cl, .slice af f.length cf, .slice am ms.length cm] w fun e w' => ∃ (D : Nat) (V : List (List Int × Int)), e = .returned (.slice (some ⟨D, 0, none⟩) (prodC l) (prodC l)) ∧ KeysOk l V ∧ DistOk l (calS l ms) f (look V) ∧ (∀ q ∈ V, 0 ≤ q.2 ∧ q.2 ≤ 4096) ∧ Row w' D 3 (nums (dA l (prodC l) V)) ∧ w.heap.size ≤ D ∧ Gr w w' := by
  have hnb := small_len (cchk_zero henv.chk).1
  have PR := (cchk_zero henv.chk).2.2.1
  have HE := Lib.hid henv
  have SF := Lib.hid sf
  have TF := Lib.hid hf
  have HC := Lib.hid hcal
  have CN := Lib.hid (fun W (hW : Gr w W) => refCount_any l al cl W (clks_gr henv.clks hW) henv.chk)
  have NB := Lib.hid (cchk_zero henv.chk).1
  have N1 := Lib.hid (fun W (hW : Gr w W) s a c (hs : SetOk l s) (hsl : SlOf 1 RI W a s) => refNumber_any l s al a cl c W (clks_gr henv.clks hW) hsl henv.chk hs)
  obtain ⟨N, hN⟩ : ∃ N, prodC l = N := ⟨_, rfl⟩
  have EN := Lib.hid hN
  rw [hN] at PR CN ⊢
  have hmk := run_make_row' (P := Tryz.prog) 22 3 (.int .i64 0) 8 Tryz.underlying22 infoInt rfl .i64 .i64 N (by omega) (by omega)
  obtain ⟨i0, hi, hz0, hz1, hz2⟩ := info_parts infoSl
  clear henv hf sf hcal hN
  go_enter Tryz.func94, Tryz.ntmps94
  go_wp2_with fail
  refine (CN.out w (Gr.refl _)).mono ?_
  rintro e w1 ⟨rfl, hg1⟩
  have G1 := Lib.hid hg1
  clear hg1 CN
  go_wp2_with fail
  obtain ⟨D, hD⟩ : ∃ D : Nat, Hid (w1.heap.size = D) := ⟨_, Lib.hid rfl⟩
  obtain ⟨W2, hW2⟩ : ∃ W2 : World, Hid (W2 = w1.alloc (.cells (madeCells #[.int .i64 0] N) 3)) := ⟨_, Lib.hid rfl⟩
  rw [← hW2.out, hD.out]
  have R2 : Hid (Row W2 D 3 (nums (List.replicate N 0))) := Lib.hid (by
    rw [hW2.out]
    have := row_new' w1 (madeCells #[.int .i64 0] N) 3 D hD.out.symm
    rw [made_zero] at this
    have e : nums (List.replicate N 0) = List.replicate N (.int .i64 0) := by simp [nums]
    rw [e]; exact this)
  have G2 : Hid (Gr w W2) := Lib.hid (by rw [hW2.out]; exact G1.out.alloc _)
  have LD : Hid (w.heap.size ≤ D) := Lib.hid (by have := hD.out; have := G1.out.size; omega)
  clear hW2 hD hmk G1
  go_loopw [22] (fun i wr => ∃ k : Nat, k ≤ N ∧ i = .int .i64 k ∧ Row wr D 3 (nums (List.replicate k (-1) ++ List.replicate (N - k) 0)) ∧ Gr w wr) (fun i _ => N - (intOf i).toNat)
  case atStart => exact ⟨0, Nat.zero_le _, rfl, by simpa using R2.out, G2.out⟩
  case round =>
    clear R2 G2
    obtain ⟨k, hk, rfl, hr, hg⟩ := hrel
    have RR := Lib.hid hr
    have GG := Lib.hid hg
    by_cases hlt : k < N
    · have k2 : (k : Int) < N := by omega
      have c0 := hr.iat k (by rw [List.length_append, List.length_replicate, List.length_replicate]; omega)
      have cf := hr.free k
      have ch := hr.has
      clear hr hg
      go_wp2_with fail
      go_roundw
      case rel =>
        refine ⟨k + 1, by omega, by go_num, ?_, GG.out.setc LD.out⟩
        have := RR.out.iset k (-1)
        rw [neg_step hlt]
        exact this
      case measure => simp [intOf]; omega
    · obtain rfl : k = N := by omega
      have RD : Hid (Row wr D 3 (nums (dA l k []))) := Lib.hid (by rw [dA_nil]; simpa using hr)
      clear hr hg RR
      go_wp2_with fail
      refine (N1.out wr GG.out f af cf TF.out (SF.out.giI GG.out)).mono ?_
      rintro e w3 ⟨rfl, hg3⟩
      have nbs := num_bound TF.out
      rw [EN.out] at nbs
      obtain ⟨mf, hmf⟩ : ∃ m : Nat, num l f = (m : Int) := ⟨(num l f).toNat, by omega⟩
      have RD3 := Lib.hid (RD.out.gr hg3)
      have G3 := Lib.hid (GG.out.trans hg3)
      have HMF := Lib.hid hmf
      rw [hmf] at nbs ⊢
      have c0 := RD3.out.iat mf (by rw [dA_len]; omega)
      have c1 := RD3.out.free mf
      have ch := RD3.out.has
      have m2 : (mf : Int) < k := by omega
      clear hg3 RD GG
      have LW3 : Hid (D < w3.heap.size) := Lib.hid (by have := RD3.out.has; unfold Has at this; exact this)
      obtain ⟨Wa, hWa⟩ : ∃ Wa : World, Hid (Wa = w3.setCell ⟨D, mf, none⟩ (.int .i64 0)) := ⟨_, Lib.hid rfl⟩
      obtain ⟨Wb, hWb⟩ : ∃ Wb : World, Hid (Wb = Wa.alloc (.cells #[.slice af f.length cf] 22)) := ⟨_, Lib.hid rfl⟩
      obtain ⟨Q0, hQ0⟩ : ∃ Q0 : Nat, Hid (w3.heap.size = Q0) := ⟨_, Lib.hid rfl⟩
      go_wp2_with fail
      rw [← hWa.out, ← hWb.out, hQ0.out]
      have GAB : Hid (Gr Wa Wb) := Lib.hid (by rw [hWb.out]; exact (Gr.refl _).alloc _)
      have GWb : Hid (Gr w Wb) := Lib.hid (by rw [hWb.out, hWa.out]; exact (G3.out.setc LD.out).alloc _)
      have AR0 : Hid (Row Wb D 3 (nums (dA l k [(f, 0)]))) := Lib.hid (by
        refine Row.gr ?_ GAB.out
        rw [hWa.out]
        have := RD3.out.iset mf 0
        rw [dA_snoc (V := []) (fun q hq => by cases hq) TF.out HMF.out rfl] at this
        exact this)
      have QS0 : Hid (QS w D [(f, 0)] [.slice af f.length cf] (some ⟨Q0, 0, none⟩) 1 Wb) := Lib.hid ⟨rfl, by
        rw [hWb.out]
        have := World.ownsRow_lit (base := D + 1) (e := 22) (size := 1) Wa #[.slice af f.length cf] 1 (by rw [hWa.out, size_set]; have := LW3.out; omega) (by unfold maxLen; omega) (by simp)
        rw [hWa.out, size_set, hQ0.out] at this
        rw [hWa.out]
        exact this, fun i hi hi' => by
        have : i = 0 := by simpa using hi
        subst this
        exact ⟨af, cf, rfl, .inl SF.out⟩, GWb.out⟩
      clear hWa hWb hQ0 G3 RD3 c0 c1 ch GAB LW3
      go_loopw [9, 10] (fun s9 s10 wr => ∃ (p : Nat) (vs : List Value) (ao : Option Addr) (co : Nat), s9 = .slice ao vs.length co ∧ s10 = .int .i64 (p : Int) ∧ p ≤ vs.length ∧ QS w D (afterB (nbS l (calS l ms)) f p) vs ao co wr ∧ Row wr D 3 (nums (dA l k (afterB (nbS l (calS l ms)) f p)))) (fun _ s10 _ => k - (intOf s10).toNat)
      case atStart => exact ⟨0, [.slice af f.length cf], some ⟨Q0, 0, none⟩, 1, rfl, rfl, by simp, QS0.out, AR0.out⟩
      case round =>
        clear QS0 AR0 GWb
        obtain ⟨p, vs, ao, co, rfl, rfl, hp, hq, ha⟩ := hrel
        have QQ := Lib.hid hq
        have AA := Lib.hid ha
        have hlen := after_len (l := l) TF.out HC.out p
        rw [EN.out, ← hq.len] at hlen
        clear hq ha
        by_cases hlt2 : p < vs.length
        · have p2 : (p : Int) < vs.length := by omega
          obtain ⟨gq, _, e, _, _, hcell⟩ := owns_cell QQ.out.own (by omega)
          cases e
          have c0 := hcell (p * 1) (by omega)
          rw [Nat.mul_one, List.getElem?_eq_getElem hlt2] at c0
          have hpV : p < (afterB (nbS l (calS l ms)) f p).length := by rw [← QQ.out.len]; exact hlt2
          obtain ⟨⟨h, dd⟩, hhd⟩ : ∃ hd, (afterB (nbS l (calS l ms)) f p)[p]? = some hd := ⟨_, List.getElem?_eq_getElem hpV⟩
          have hqe := QQ.out.qs p hlt2 hpV
          have e1 := (List.getElem?_eq_some_iff.1 hhd).2
          rw [e1] at hqe
          obtain ⟨a, c, ev, hqe'⟩ := id hqe
          rw [ev] at c0 hqe
          rw [show h.length = l.length from (after_ok (l := l) (cal := calS l ms) TF.out HC.out p _ (List.mem_of_getElem? hhd)).1.1] at c0
          have HQE := Lib.hid hqe
          have HHD := Lib.hid hhd
          have SH := Lib.hid (after_ok (l := l) (cal := calS l ms) TF.out HC.out p _ (List.mem_of_getElem? hhd)).1
          have hhl : h.length = l.length := SH.out.1
          have ch := has_of_cell c0
          have HHL := Lib.hid hhl
          have VFF : Hid (∀ u v : Nat, u < l.length → (v : Int) ≤ kOf l u → VF l k p h dd (vis l (calS l ms) h dd (afterB (nbS l (calS l ms)) f p) u v)) := Lib.hid (fun u v hu hv => by
            have := vf_of TF.out HC.out hhd hu hv
            rwa [EN.out] at this)
          have VN : Hid (vis l (calS l ms) h dd (afterB (nbS l (calS l ms)) f p) l.length 0 = afterB (nbS l (calS l ms)) f (p + 1)) := Lib.hid (by
            rw [vis_all]
            show _ = stepB (nbS l (calS l ms)) (afterB (nbS l (calS l ms)) f p) p
            unfold stepB
            rw [hhd])
          have PL : Hid (p + 1 ≤ (afterB (nbS l (calS l ms)) f (p + 1)).length) := Lib.hid (by
            rw [← VN.out]
            obtain ⟨E, e⟩ := vis_ext (l := l) (cal := calS l ms) (V := afterB (nbS l (calS l ms)) f p) h dd l.length 0
            rw [e, List.length_append]; omega)
          have V0 : Hid (vis l (calS l ms) h dd (afterB (nbS l (calS l ms)) f p) 0 0 = afterB (nbS l (calS l ms)) f p) := Lib.hid (vis_zero _ _)
          have VR : Hid (∀ u, vis l (calS l ms) h dd (afterB (nbS l (calS l ms)) f p) u (kOf l u).toNat = vis l (calS l ms) h dd (afterB (nbS l (calS l ms)) f p) (u + 1) 0) := Lib.hid (fun u => vis_row _ _ u)
          have VS : Hid (∀ u v : Nat, u < l.length → (v : Int) ≤ kOf l u → vis l (calS l ms) h dd (afterB (nbS l (calS l ms)) f p) u (v + 1) = if look (vis l (calS l ms) h dd (afterB (nbS l (calS l ms)) f p) u v) (h.set u (v : Int)) = none ∧ calS l ms (h.set u (v : Int)) = true then vis l (calS l ms) h dd (afterB (nbS l (calS l ms)) f p) u v ++ [(h.set u (v : Int), dd + 1)] else vis l (calS l ms) h dd (afterB (nbS l (calS l ms)) f p) u v) := Lib.hid (fun u v hu hv => vis_step (by omega) (by rw [(VFF.out u v hu hv).2.1]; rfl))
          obtain ⟨VV, hVV⟩ : ∃ F : Nat → Nat → List (List Int × Int), F = fun u v => vis l (calS l ms) h dd (afterB (nbS l (calS l ms)) f p) u v := ⟨_, rfl⟩
          have VF' : Hid (∀ u v : Nat, u < l.length → (v : Int) ≤ kOf l u → VF l k p h dd (VV u v)) := Lib.hid (by subst hVV; exact VFF.out)
          have VN' : Hid (VV l.length 0 = afterB (nbS l (calS l ms)) f (p + 1)) := Lib.hid (by subst hVV; exact VN.out)
          have VR' : Hid (∀ u, VV u (kOf l u).toNat = VV (u + 1) 0) := Lib.hid (by subst hVV; exact VR.out)
          have VS' : Hid (∀ u v : Nat, u < l.length → (v : Int) ≤ kOf l u → VV u (v + 1) = if look (VV u v) (h.set u (v : Int)) = none ∧ calS l ms (h.set u (v : Int)) = true then VV u v ++ [(h.set u (v : Int), dd + 1)] else VV u v) := Lib.hid (by subst hVV; exact VS.out)
          have Q00 : Hid (QS w D (VV 0 0) vs (some ⟨gq, 0, none⟩) co wr) := Lib.hid (by subst hVV; show QS w D (vis _ _ _ _ _ 0 0) _ _ _ _; rw [V0.out]; exact QQ.out)
          have A00 : Hid (Row wr D 3 (nums (dA l k (VV 0 0)))) := Lib.hid (by subst hVV; show Row wr D _ (nums (dA l k (vis _ _ _ _ _ 0 0))); rw [V0.out]; exact AA.out)
          have pk : p < k := by omega
          clear hcell hqe hqe' ev e1 hhd hpV VFF VN V0 VR VS hVV QQ AA hhl
          go_wp2_with fail
          clear c0 ch
          go_loopw [9, 48] (fun s9 s48 wr => ∃ (u : Nat) (vs : List Value) (ao : Option Addr) (co : Nat), s9 = .slice ao vs.length co ∧ s48 = .int .i64 (u : Int) ∧ u ≤ l.length ∧ QS w D (VV u 0) vs ao co wr ∧ Row wr D 3 (nums (dA l k (VV u 0))) ∧ QE w (D + 1) wr (.slice a l.length c) h) (fun _ s48 _ => l.length - (intOf s48).toNat)
          case atStart => exact ⟨0, vs, some ⟨gq, 0, none⟩, co, rfl, rfl, Nat.zero_le _, Q00.out, A00.out, by have := HQE.out; rwa [HHL.out] at this⟩
          case round =>
            clear Q00 A00 HQE hlen hp hlt2 p2
            obtain ⟨u, vs, ao, co, rfl, rfl, hu, hq, ha, he⟩ := hrel
            have QQ := Lib.hid hq
            have AA := Lib.hid ha
            have EE := Lib.hid he
            clear hq ha he
            by_cases hul : u < l.length
            · have u2 : (u : Int) < l.length := by omega
              obtain ⟨fp, fc⟩ := small_at NB.out hul
              obtain ⟨b, o, rfl, ⟨d0, _⟩, ⟨ap, cp, d1, _⟩, ⟨ac, cc, d2, _, d2f, _⟩, ⟨d3, _⟩, ⟨d4, _⟩⟩ := clks_gr HE.out.clks QQ.out.gr u hul
              have dh := has_of_cell d0
              unfold Fit at d2f
              have KU := Lib.hid (kOf_at hul)
              obtain ⟨K, hK⟩ : ∃ K, l[u].choices.length = K := ⟨_, rfl⟩
              rw [hK] at KU
              have KW : Hid (∀ v : Nat, v ≤ K → (v : Int) ≤ kOf l u) := Lib.hid (fun v hv => by rw [KU.out]; omega)
              have GA : Hid (Gr wr (wr.alloc (.cells #[.int .i64 l[u].kind, .slice ap l[u].parents.length cp, .slice ac K cc, .int .i64 l[u].low, .int .i64 l[u].high] 79))) := Lib.hid ((Gr.refl _).alloc _)
              have Q1 := Lib.hid (QQ.out.g GA.out)
              have A1 := Lib.hid (AA.out.gr GA.out)
              have E1 := Lib.hid (EE.out.gr GA.out)
              have K8 : K ≤ 8 := by omega
              go_wp2_with fail
              clear d0 d1 d2 d3 d4 dh
              go_loopw [9, 56] (fun s9 s56 wr => ∃ (v : Nat) (vs : List Value) (ao : Option Addr) (co : Nat), s9 = .slice ao vs.length co ∧ s56 = .int .i64 (v : Int) ∧ v ≤ K ∧ QS w D (VV u v) vs ao co wr ∧ Row wr D 3 (nums (dA l k (VV u v))) ∧ QE w (D + 1) wr (.slice a l.length c) h) (fun _ s56 _ => K - (intOf s56).toNat)
              case atStart => exact ⟨0, vs, ao, co, rfl, rfl, Nat.zero_le _, Q1.out, A1.out, E1.out⟩
              case round =>
                clear Q1 A1 E1 GA QQ AA EE hK
                obtain ⟨v, vs, ao, co, rfl, rfl, hv, hq, ha, he⟩ := hrel
                have QQ := Lib.hid hq
                have AA := Lib.hid ha
                have EE := Lib.hid he
                clear hq ha he
                by_cases hvk : v < K
                · have v2 : (v : Int) < K := by omega
                  have vk : (v : Int) < kOf l u := by rw [KU.out]; exact v2
                  obtain ⟨f1, f2, f3, f4⟩ := VF'.out u v hul (by omega)
                  have F1 := Lib.hid f1
                  have F2 := Lib.hid f2
                  have F4 := Lib.hid f4
                  have vl : vs.length ≤ k := by rw [QQ.out.len]; exact f3
                  obtain ⟨x, hx⟩ : ∃ x, h.set u (v : Int) = x := ⟨_, rfl⟩
                  have SX : Hid (SetOk l x) := Lib.hid (by rw [← hx]; exact SH.out.set hul (by omega) vk)
                  have hsl : SlOf 1 RI wr a h := by
                    obtain ⟨a', c', ev, hsl⟩ := EE.out.sl QQ.out.gr (setOk_wide HE.out.chk SH.out)
                    injection ev with x1 _ _
                    rw [x1]
                    exact hsl
                  have CH := changed_any h u (v : Int) a c wr hsl (by have := HHL.out; omega) (by have := HHL.out; omega)
                  rw [hx, HHL.out] at CH
                  have CH' := Lib.hid CH
                  have VST := Lib.hid (VS'.out u v hul (by omega))
                  rw [hx] at VST
                  have HX := Lib.hid hx
                  clear CH hsl hx f1 f2 f3 f4 vk
                  go_wp2_with fail
                  refine CH'.out.mono ?_
                  rintro e w4 ⟨B, cx, rfl, hnr, hnb2, hng⟩
                  have RX := Lib.hid hnr
                  have BX : Hid (D + 1 ≤ B) := Lib.hid (by have := AA.out.has; unfold Has at this; omega)
                  have Q4 := Lib.hid (QQ.out.g hng)
                  have A4 := Lib.hid (AA.out.gr hng)
                  have E4 := Lib.hid (EE.out.gr hng)
                  clear hnr hnb2 hng QQ AA EE CH'
                  have NX := N1.out w4 Q4.out.gr x (some ⟨B, 0, none⟩) cx SX.out (RX.out.slI (setOk_wide HE.out.chk SX.out))
                  rw [SX.out.1] at NX
                  have nbx := num_bound SX.out
                  rw [EN.out] at nbx
                  obtain ⟨m, hm⟩ : ∃ m : Nat, num l x = (m : Int) := ⟨(num l x).toNat, by omega⟩
                  rw [hm] at NX nbx
                  have NX' := Lib.hid NX
                  have HM := Lib.hid hm
                  clear NX hm
                  go_wp2_with fail
                  refine NX'.out.mono ?_
                  rintro e w5 ⟨rfl, hg5⟩
                  have Q5 := Lib.hid (Q4.out.g hg5)
                  have A5 := Lib.hid (A4.out.gr hg5)
                  have E5 := Lib.hid (E4.out.gr hg5)
                  have RX5 := Lib.hid (RX.out.gr hg5)
                  clear hg5 Q4 A4 E4 NX' RX
                  have mk : m < (dA l k (VV u v)).length := by rw [dA_len]; omega
                  have c0 := A5.out.iat m mk
                  rw [dA_at F1.out SX.out HM.out mk] at c0
                  have ch := A5.out.has
                  have m2 : (m : Int) < k := by omega
                  cases hlk : look (VV u v) x with
                  | some dx =>
                    have VE : Hid (VV u (v + 1) = VV u v) := Lib.hid (by rw [VST.out, if_neg (by rw [hlk]; rintro ⟨q, _⟩; cases q)])
                    rw [hlk] at c0
                    have dx0 := (F4.out _ (look_some hlk)).1
                    have dd0 : decide (dx < 0) = false := decide_eq_false (by simpa using dx0)
                    simp only [Option.getD_some] at c0
                    clear hlk dx0
                    go_wp2_with fail
                    go_roundw
                    case rel => exact ⟨v + 1, vs, ao, co, rfl, by simp, by omega, by rw [VE.out]; exact Q5.out, by rw [VE.out]; exact A5.out, E5.out⟩
                    case measure => simp [intOf]; omega
                  | none =>
                    rw [hlk] at c0
                    simp only [Option.getD_none] at c0
                    have HLK := Lib.hid hlk
                    have CA0 := refCalm1_any l ms x (some ⟨b, o, none⟩) (some ⟨B, 0, none⟩) am cl cx cm w5 (clks_gr HE.out.clks Q5.out.gr) (RX5.out.slI (setOk_wide HE.out.chk SX.out)) (lmts_gr HE.out.lmts Q5.out.gr) HE.out.chk SX.out HE.out.lims
                    rw [SX.out.1] at CA0
                    have CA := Lib.hid CA0
                    clear hlk CA0
                    go_wp2_with fail
                    refine CA.out.mono ?_
                    rintro e w6 ⟨rfl, hg6⟩
                    have Q6 := Lib.hid (Q5.out.g hg6)
                    have A6 := Lib.hid (A5.out.gr hg6)
                    have E6 := Lib.hid (E5.out.gr hg6)
                    have RX6 := Lib.hid (RX5.out.gr hg6)
                    clear hg6 Q5 A5 E5 CA RX5 c0 ch
                    cases hcx : calS l ms x with
                    | false =>
                      have VE : Hid (VV u (v + 1) = VV u v) := Lib.hid (by rw [VST.out, if_neg (by rw [hcx]; rintro ⟨_, q⟩; cases q)])
                      clear hcx
                      go_wp2_with fail
                      go_roundw
                      case rel => exact ⟨v + 1, vs, ao, co, rfl, by simp, by omega, by rw [VE.out]; exact Q6.out, by rw [VE.out]; exact A6.out, E6.out⟩
                      case measure => simp [intOf]; omega
                    | true =>
                      have VE : Hid (VV u (v + 1) = VV u v ++ [(x, dd + 1)]) := Lib.hid (by rw [VST.out, if_pos ⟨HLK.out, hcx⟩])
                      have hslh : SlOf 1 RI w6 a h := by
                        obtain ⟨a', c', ev, hsl⟩ := E6.out.sl Q6.out.gr (setOk_wide HE.out.chk SH.out)
                        injection ev with x1 _ _
                        rw [x1]
                        exact hsl
                      have NH := N1.out w6 Q6.out.gr h a c SH.out hslh
                      rw [HHL.out] at NH
                      have nbh := num_bound SH.out
                      rw [EN.out] at nbh
                      obtain ⟨mh, hmh⟩ : ∃ m : Nat, num l h = (m : Int) := ⟨(num l h).toNat, by omega⟩
                      rw [hmh] at NH nbh
                      have NH' := Lib.hid NH
                      have HMH := Lib.hid hmh
                      have ddb : 0 ≤ dd ∧ dd ≤ 4097 := by
                        have := F4.out _ (look_some F2.out)
                        simp only at this
                        omega
                      clear hcx NH hmh hslh
                      go_wp2_with fail
                      refine NH'.out.mono ?_
                      rintro e w7 ⟨rfl, hg7⟩
                      have Q7 := Lib.hid (Q6.out.g hg7)
                      have A7 := Lib.hid (A6.out.gr hg7)
                      have E7 := Lib.hid (E6.out.gr hg7)
                      have RX7 := Lib.hid (RX6.out.gr hg7)
                      clear hg7 Q6 A6 E6 NH' RX6
                      have mhk : mh < (dA l k (VV u v)).length := by rw [dA_len]; omega
                      have b0 := A7.out.iat mh mhk
                      rw [dA_at F1.out SH.out HMH.out mhk, F2.out] at b0
                      simp only [Option.getD_some] at b0
                      have b1 := A7.out.iat m mk
                      have bf := A7.out.free m
                      have bh := A7.out.has
                      have mh2 : (mh : Int) < k := by omega
                      have ddw : IntKind.i64.wrap (dd + 1) = dd + 1 := by rw [IntKind.wrap_i64]; omega
                      obtain ⟨W8, hW8⟩ : ∃ W8 : World, Hid (W8 = w7.setCell ⟨D, m, none⟩ (.int .i64 (dd + 1))) := ⟨_, Lib.hid rfl⟩
                      obtain ⟨N8, hN8⟩ : ∃ N8 : Nat, Hid (w7.heap.size = N8) := ⟨_, Lib.hid rfl⟩
                      obtain ⟨WA, hWA⟩ : ∃ WA : World, Hid (WA = W8.alloc (.cells #[.slice (some ⟨B, 0, none⟩) l.length cx] 22)) := ⟨_, Lib.hid rfl⟩
                      have GA : Hid (Gr W8 WA) := Lib.hid (by rw [hWA.out]; exact (Gr.refl _).alloc _)
                      have A8 : Hid (Row WA D 3 (nums (dA l k (VV u (v + 1))))) := Lib.hid (by
                        refine Row.gr ?_ GA.out
                        rw [hW8.out, VE.out, ← dA_snoc F1.out SX.out HM.out HLK.out]
                        exact A7.out.iset m (dd + 1))
                      have Q8 : Hid (QS w D (VV u v) vs ao co WA) := Lib.hid ((by rw [hW8.out]; exact Q7.out.set LD.out A7.out : QS w D (VV u v) vs ao co W8).g GA.out)
                      have E8 : Hid (QE w (D + 1) WA (.slice a l.length c) h) := Lib.hid ((by rw [hW8.out]; exact E7.out.set (by omega) : QE w (D + 1) W8 (.slice a l.length c) h).gr GA.out)
                      have X8 : Hid (QE w (D + 1) WA (.slice (some ⟨B, 0, none⟩) l.length cx) x) := Lib.hid ((by rw [hW8.out]; exact QE.set ⟨some ⟨B, 0, none⟩, cx, by rw [SX.out.1], .inr ⟨B, rfl, RX7.out, BX.out⟩⟩ (by omega) : QE w (D + 1) W8 (.slice (some ⟨B, 0, none⟩) l.length cx) x).gr GA.out)
                      have CC : Hid (∀ j u, ([.slice (some ⟨B, 0, none⟩) l.length cx] : List Value)[j]? = some u → WA.cell? ((⟨N8, 0, none⟩ : Addr).add j) = some u) := Lib.hid (by
                        have := row_cells (Row.new W8 #[.slice (some ⟨B, 0, none⟩) l.length cx] 22)
                        rw [← hWA.out, hW8.out, size_set, hN8.out] at this
                        exact this)
                      have ONE : Hid (∀ u ∈ ([.slice (some ⟨B, 0, none⟩) l.length cx] : List Value), u.oneCell' = true) := Lib.hid (fun u hu => by rw [List.mem_singleton.1 hu]; rfl)
                      have BASE : Hid (D + 1 ≤ WA.heap.size) := Lib.hid (by have := A8.out.has; unfold Has at this; omega)
                      clear Q7 E7 RX7
                      go_wp2_with (first
                        | (at_builtin; rw [← hW8.out, ← hWA.out, hN8.out]; refine wpList_append_gets _ rfl _ _ 59 rfl (D + 1) 22 i0 (.slice none 0 0) 1 24 Tryz.underlying59 hi hz0 hz1 hz2 rfl (by decide) (.slice ao vs.length co) vs.length vs rfl Q8.out.own (some ⟨N8, 0, none⟩) 1 1 [.slice (some ⟨B, 0, none⟩) l.length cx] rfl ⟨rfl, fun _ => ⟨_, rfl, CC.out⟩⟩ ONE.out (by unfold maxLen; omega) (by omega) BASE.out ?_; intro v9 W9 hown hgrow _; obtain ⟨a9, c9, rfl⟩ := owns_slice hown; have Q9 := Lib.hid (Q8.out.app (d := dd + 1) LD.out hown hgrow X8.out); have A9 := Lib.hid (A8.out.grown hgrow (owns_apart Q8.out.own A8.out.s (by decide))); have E9 := Lib.hid (E8.out.grown Q8.out.own hgrow); clear hown hgrow b0 b1 bf bh hW8 hWA)
                        | fail)
                      go_roundw
                      case rel => exact ⟨v + 1, vs ++ [.slice (some ⟨B, 0, none⟩) l.length cx], a9, c9, by simp, by simp, by omega, by rw [VE.out]; exact Q9.out, A9.out, E9.out⟩
                      case measure => simp [intOf]; omega
                · obtain rfl : v = K := by omega
                  have VE : Hid (VV u v = VV (u + 1) 0) := Lib.hid (by rw [← VR'.out u, KU.out]; simp)
                  go_wp2_with fail
                  go_roundw
                  case rel => exact ⟨u + 1, vs, ao, co, rfl, by simp, by omega, by rw [← VE.out]; exact QQ.out, by rw [← VE.out]; exact AA.out, EE.out⟩
                  case measure => simp [intOf]; omega
            · obtain rfl : u = l.length := by omega
              have VE := Lib.hid VN'.out
              go_wp2_with fail
              go_roundw
              case rel => exact ⟨p + 1, vs, ao, co, rfl, by simp, by have := PL.out; have := QQ.out.len; rw [VE.out] at this; omega, by rw [← VE.out]; exact QQ.out, by rw [← VE.out]; exact AA.out⟩
              case measure => simp [intOf]; omega
        · have hpe : (afterB (nbS l (calS l ms)) f p).length ≤ p := by rw [← QQ.out.len]; omega
          have DO := Lib.hid (after_dist TF.out HC.out p hpe)
          have KO := Lib.hid (show KeysOk l (afterB (nbS l (calS l ms)) f p) from fun q hq => (after_ok TF.out HC.out p q hq).1)
          have BO := Lib.hid (fun q hq => after_bnd (l := l) (cal := calS l ms) f p q hq)
          have p4 : p ≤ 4096 := by omega
          go_wp2_with fail
          go_ret
          exact ⟨D, _, rfl, KO.out, DO.out, fun q hq => by have := BO.out q hq; omega, AA.out, LD.out, QQ.out.gr⟩
theorem refSetN_any (l : List Clk) (s : List Int) (al : Option Addr) (cl : Nat) (w : World) (h : SlOf 5 RClk w al l) (hc : cchk l = 0) (hset : SetOk l s) :
    Calls Tryz.prog 96 #[.slice al l.length cl, .int .i64 (num l s)] w
      fun e w' => ∃ RB, e = .returned (.slice (some ⟨RB, 0, none⟩) l.length l.length) ∧ Row w' RB 3 (nums s) ∧ w.heap.size ≤ RB ∧ Gr w w' := by
  obtain ⟨nb, _, _, _⟩ := cchk_zero hc
  have hl := small_len nb
  have NB := Lib.hid nb
  have H := Lib.hid h
  have HC := Lib.hid hc
  have HT := Lib.hid hset
  have hsl : s.length = l.length := hset.1
  clear h hc hset nb
  obtain ⟨j0, hj, hy0, hy1, hy2⟩ := info_parts infoInt
  have hmk : ∀ W : World, (Instr.makeSlice 22 (.int .i64 (l.length : Int)) (.int .i64 (l.length : Int))).run Tryz.prog W = .ok (.slice (some ⟨W.heap.size, 0, none⟩) l.length l.length) (W.alloc (.cells (madeCells #[.int .i64 0] l.length) 3)) := fun W => by
    have hr := run_make (P := Tryz.prog) W 22 3 j0 (.int .i64 0) Tryz.underlying22 hj hy0 .i64 .i64 l.length l.length (by omega) (Int.le_refl _) (by rw [hy2]; omega) (by omega)
    simp only [Int.toNat_natCast, hy1, Nat.mul_one] at hr
    exact hr
  obtain ⟨n, hn⟩ : ∃ n, num l s = n := ⟨_, rfl⟩
  rw [hn]
  have HN := Lib.hid hn
  clear hn
  go_enter Tryz.func96, Tryz.ntmps96
  go_wp2_with fail
  obtain ⟨W2, hW2⟩ : ∃ W2 : World, Hid (W2 = w.alloc (.cells (madeCells #[.int .i64 0] l.length) 3)) := ⟨_, Lib.hid rfl⟩
  rw [← hW2.out]
  obtain ⟨RB, hRB⟩ : ∃ RB : Nat, Hid (w.heap.size = RB) := ⟨_, Lib.hid rfl⟩
  rw [hRB.out]
  have R2 : Hid (Row W2 RB 3 (nums (setV s l.length))) := Lib.hid (by
    rw [hW2.out, ← hRB.out]
    have := Row.new w (madeCells #[.int .i64 0] l.length) 3
    rw [made_zero] at this
    have e : s.drop l.length = [] := List.drop_of_length_le (by omega)
    simpa [setV, nums, e] using this)
  have HG2 : Hid (Gr w W2) := Lib.hid (by rw [hW2.out]; exact (Gr.refl _).alloc _)
  have rb : Hid (w.heap.size ≤ RB) := Lib.hid (by have := hRB.out; omega)
  clear hW2 hmk hRB
  go_loopw [1, 6] (fun n i wr => ∃ k : Nat, k ≤ l.length ∧ i = .int .i64 ((k : Int) - 1) ∧ n = .int .i64 (numU (kOf l) (sOf s) k) ∧ Row wr RB 3 (nums (setV s k)) ∧ Gr w wr) (fun _ i _ => (intOf i + 1).toNat)
  case atStart => exact ⟨l.length, Nat.le_refl _, by go_num, by rw [← HN.out]; rfl, R2.out, HG2.out⟩
  case round =>
    clear R2 HG2
    obtain ⟨k', hk, rfl, rfl, hr, hg⟩ := hrel
    have HR := Lib.hid hr
    have HG := Lib.hid hg
    clear hr hg
    cases k' with
    | zero =>
      go_wp2_with fail
      go_ret
      exact ⟨RB, rfl, by have := HR.out; simpa [setV] using this, rb.out, HG.out⟩
    | succ k =>
      have hlt : k < s.length := by omega
      have hlt2 : k < l.length := by omega
      have hdm := numU_divmod HT.out hlt2
      rw [sOf_at hlt, kOf_at hlt2] at hdm
      have hx1 := numU_small HC.out HT.out (j := k + 1) (by omega)
      have hx0 := numU_small HC.out HT.out (j := k) (by omega)
      obtain ⟨x, ex⟩ : ∃ x, numU (kOf l) (sOf s) (k + 1) = x := ⟨_, rfl⟩
      obtain ⟨y, ey⟩ : ∃ y, numU (kOf l) (sOf s) k = y := ⟨_, rfl⟩
      rw [ex] at hdm hx1 ⊢
      rw [ey] at hdm hx0
      have hset := HT.out.2 k hlt2 hlt
      obtain ⟨fp, fc⟩ := small_at NB.out hlt2
      have kp : 0 < (l[k].choices.length : Int) := by omega
      have hq : x.tdiv (l[k].choices.length : Int) = y := by rw [Int.tdiv_eq_ediv_of_nonneg hx1.1, hdm.1]
      have hm : x.tmod (l[k].choices.length : Int) = s[k] := by rw [Int.tmod_eq_emod_of_nonneg hx1.1, hdm.2]
      obtain ⟨b, o, rfl, ⟨c0, _⟩, ⟨ap, cp, c1, c1l, c1f, sp⟩, ⟨ac, cc, c2, c2l, c2f, sc⟩, ⟨c4, _⟩, c5, _⟩ := clks_gr H.out HG.out k hlt2
      unfold Fit at c2f
      have k2 : (k : Int) < l.length := by omega
      have e0 := HR.out.cell k (by rw [nums_len, setV_len _ _ (by omega)]; omega)
      have f0 := HR.out.free k
      have rh := HR.out.has
      have ST := Lib.hid (setV_step s k hlt)
      have EY := Lib.hid ey
      clear sp sc c1f c0 c1 c4 c5 ex ey hdm
      rw [show ((k + 1 : Nat) : Int) - 1 = (k : Int) by omega]
      go_wp2_with fail
      (try (go_region; go_wp2_with fail))
      go_roundw
      case rel => exact ⟨k, by omega, by go_num, by rw [EY.out], by rw [← ST.out]; first | exact (HR.out.iset k _).drew | exact HR.out.iset k _, by first | exact (HG.out.setc rb.out).drew | exact HG.out.setc rb.out⟩
      case measure => simp [intOf]
def cd4F (w0 wr : World) (l : List Clk) (ms : List Lmt) (t : List Int) (al am at' : Option Addr) (cl cm ct BK XP : Nat) (t12 t31 t32 t33 t34 t35 : Value) (d : Array Bool) (w : World) : Prop :=
  PB l ms al am cl cm BK XP w0 wr w ∧ (d.getD 0 false = true → t31 = .agg #[.slice al l.length cl, .slice am ms.length cm, .map (some BK)]) ∧
  (d.getD 1 false = true → t32 = .agg #[.slice al l.length cl, .slice am ms.length cm, .map (some BK)]) ∧
  (d.getD 2 false = true → t33 = .slice at' l.length ct) ∧
  (d.getD 3 false = true → t34 = .int .i64 (num l t)) ∧
  (d.getD 4 false = true → (∃ BM V, t35 = .map (some BM) ∧ Dists l ms t wr w BM V)) ∧
  (d.getD 5 false = true → (d.getD 4 false = true ∧ ∃ BM V, t12 = .map (some BM) ∧ Dists l ms t wr w BM V))
def cd4A (l : List Clk) (at' : Option Addr) (ct XP : Nat) (t12 t31 t32 t33 t34 t35 s0 s2 s3 s4 s5 s6 s7 s8 s9 s11 s13 s14 s15 s16 s17 s18 s19 s20 s21 s22 s23 s24 s25 s26 s27 s28 s29 s30 s36 s37 s38 s39 s40 s41 s42 s43 s44 s45 s46 s47 s48 s49 s50 s51 s52 s53 s54 s55 s56 s57 s58 s59 s60 s61 s62 s63 s64 s65 s66 s67 s68 s69 s70 : Value) : Act := { tmps := #[s0, .slice at' l.length ct, s2, s3, s4, s5, s6, s7, s8, s9, .pointer (some ⟨XP, 0, none⟩), s11, t12, s13, s14, s15, s16, s17, s18, s19, s20, s21, s22, s23, s24, s25, s26, s27, s28, s29, s30, t31, t32, t33, t34, t35, s36, s37, s38, s39, s40, s41, s42, s43, s44, s45, s46, s47, s48, s49, s50, s51, s52, s53, s54, s55, s56, s57, s58, s59, s60, s61, s62, s63, s64, s65, s66, s67, s68, s69, s70], defers := [] }
theorem cd4 {Q : Exit → Act → World → Prop} {w0 wr : World} {l : List Clk} {ms : List Lmt} {t : List Int} {al am at' : Option Addr} {cl cm ct BK XP : Nat}  {s0 s2 s3 s4 s5 s6 s7 s8 s9 s11 s12 s13 s14 s15 s16 s17 s18 s19 s20 s21 s22 s23 s24 s25 s26 s27 s28 s29 s30 s31 s32 s33 s34 s35 s36 s37 s38 s39 s40 s41 s42 s43 s44 s45 s46 s47 s48 s49 s50 s51 s52 s53 s54 s55 s56 s57 s58 s59 s60 s61 s62 s63 s64 s65 s66 s67 s68 s69 s70 : Value} (hp : PB l ms al am cl cm BK XP w0 wr wr) (he : Env w0 l ms al am) (hset : SetOk l t) (hcal : calS l ms t = true) (hst : SlOf 1 RI w0 at' t) (hbk : w0.heap.size ≤ BK)
    (h' : ∀ t31 t32 t33 t34 t35 BM V wx, PB l ms al am cl cm BK XP w0 wr wx → Dists l ms t wr wx BM V → Q .normal (cd4A l at' ct XP (.map (some BM)) t31 t32 t33 t34 t35 s0 s2 s3 s4 s5 s6 s7 s8 s9 s11 s13 s14 s15 s16 s17 s18 s19 s20 s21 s22 s23 s24 s25 s26 s27 s28 s29 s30 s36 s37 s38 s39 s40 s41 s42 s43 s44 s45 s46 s47 s48 s49 s50 s51 s52 s53 s54 s55 s56 s57 s58 s59 s60 s61 s62 s63 s64 s65 s66 s67 s68 s69 s70) wx) :
    (Code.region 4 (regIn 4 Tryz.f31) true).wp Tryz.prog Q { tmps := #[s0, .slice at' l.length ct, s2, s3, s4, s5, s6, s7, s8, s9, .pointer (some ⟨XP, 0, none⟩), s11, s12, s13, s14, s15, s16, s17, s18, s19, s20, s21, s22, s23, s24, s25, s26, s27, s28, s29, s30, s31, s32, s33, s34, s35, s36, s37, s38, s39, s40, s41, s42, s43, s44, s45, s46, s47, s48, s49, s50, s51, s52, s53, s54, s55, s56, s57, s58, s59, s60, s61, s62, s63, s64, s65, s66, s67, s68, s69, s70], defers := [] } wr := by
  have HE := PLift.up he
  have HT := PLift.up hset
  have HC := PLift.up hcal
  have ST := PLift.up hst
  have hxk : XP ≠ BK := by
    obtain ⟨V9, hm9, _⟩ := hp.kn
    exact Ne.symm (hm9.ne_row hp.box)
  clear he hset hcal hst
  simp only [regIn, Tryz.f31, regOps, Option.bind_some, Option.getD_some, Nat.beq, cond_true, cond_false]
  refine wp_region_steps (fun done a w => ∃ t12 t31 t32 t33 t34 t35, a = cd4A l at' ct XP t12 t31 t32 t33 t34 t35 s0 s2 s3 s4 s5 s6 s7 s8 s9 s11 s13 s14 s15 s16 s17 s18 s19 s20 s21 s22 s23 s24 s25 s26 s27 s28 s29 s30 s36 s37 s38 s39 s40 s41 s42 s43 s44 s45 s46 s47 s48 s49 s50 s51 s52 s53 s54 s55 s56 s57 s58 s59 s60 s61 s62 s63 s64 s65 s66 s67 s68 s69 s70 ∧ cd4F w0 wr l ms t al am at' cl cm ct BK XP t12 t31 t32 t33 t34 t35 done w) (by kernel_rfl) (by kernel_rfl) ?_ ⟨?_, ?_, ?_, ?_, ?_, ?_, trivial⟩ ?_
  · exact ⟨s12, s31, s32, s33, s34, s35, rfl, hp.grow (Gr.refl _).drew, fun q => absurd q (by decide), fun q => absurd q (by decide), fun q => absurd q (by decide), fun q => absurd q (by decide), fun q => absurd q (by decide), fun q => absurd q (by decide)⟩
  · rintro done a w hsz hnot hdep ⟨t12, t31, t32, t33, t34, t35, rfl, gw, f0, f1, f2, f3, f4, f5⟩ K hK
    have hn : ¬ done.getD 0 false = true := by rw [getD_both hnot]; decide
    have r := gw.box
    have c0 := r.cell 0 (by simp)
    have c1 := r.cell 1 (by simp)
    have c2 := r.cell 2 (by simp)
    have ch := r.has
    simp only [List.getElem_cons_zero, List.getElem_cons_succ] at c0 c1 c2
    clear r
    have HK := PLift.up hK
    clear hK 
    simp only [cd4A]
    go_simp
    have gg : Gr w w := Gr.refl _
    refine HK.down _ _ ⟨_, _, _, _, _, _, rfl, gw, fun _ => rfl, kp f1, kp f2, kp f3, fun q => (let ⟨BM, V, e, h2⟩ := f4 (done_old q (by decide)); ⟨BM, V, e, h2.gr gg⟩), fun q => (let ⟨a1, BM, V, e, h2⟩ := f5 (done_old q (by decide)); ⟨getD_set_true a1, BM, V, e, h2.gr gg⟩)⟩
  · rintro done a w hsz hnot hdep ⟨t12, t31, t32, t33, t34, t35, rfl, gw, f0, f1, f2, f3, f4, f5⟩ K hK
    have hn : ¬ done.getD 1 false = true := by rw [getD_both hnot]; decide
    have r := gw.box
    have c0 := r.cell 0 (by simp)
    have c1 := r.cell 1 (by simp)
    have c2 := r.cell 2 (by simp)
    have ch := r.has
    simp only [List.getElem_cons_zero, List.getElem_cons_succ] at c0 c1 c2
    clear r
    have HK := PLift.up hK
    clear hK 
    simp only [cd4A]
    go_simp
    have gg : Gr w w := Gr.refl _
    refine HK.down _ _ ⟨_, _, _, _, _, _, rfl, gw, kp f0, fun _ => rfl, kp f2, kp f3, fun q => (let ⟨BM, V, e, h2⟩ := f4 (done_old q (by decide)); ⟨BM, V, e, h2.gr gg⟩), fun q => (let ⟨a1, BM, V, e, h2⟩ := f5 (done_old q (by decide)); ⟨getD_set_true a1, BM, V, e, h2.gr gg⟩)⟩
  · rintro done a w hsz hnot hdep ⟨t12, t31, t32, t33, t34, t35, rfl, gw, f0, f1, f2, f3, f4, f5⟩ K hK
    have hn : ¬ done.getD 2 false = true := by rw [getD_both hnot]; decide
    have HK := PLift.up hK
    clear hK 
    simp only [cd4A]
    go_simp
    have gg : Gr w w := Gr.refl _
    refine HK.down _ _ ⟨_, _, _, _, _, _, rfl, gw, kp f0, kp f1, fun _ => rfl, kp f3, fun q => (let ⟨BM, V, e, h2⟩ := f4 (done_old q (by decide)); ⟨BM, V, e, h2.gr gg⟩), fun q => (let ⟨a1, BM, V, e, h2⟩ := f5 (done_old q (by decide)); ⟨getD_set_true a1, BM, V, e, h2.gr gg⟩)⟩
  · rintro done a w hsz hnot hdep ⟨t12, t31, t32, t33, t34, t35, rfl, gw, f0, f1, f2, f3, f4, f5⟩ K hK
    have hn : ¬ done.getD 3 false = true := by rw [getD_both hnot]; decide
    have d1 := hdep 1 (by kernel_rfl)
    have d2 := hdep 2 (by kernel_rfl)
    obtain rfl := f1 d1
    obtain rfl := f2 d2
    have HK := PLift.up hK
    clear hK d1 d2
    simp only [cd4A]
    go_simp
    have NM := number_any l t al at' am cl ct ms.length cm (.map (some BK)) w (clks_gr HE.down.clks gw.gr) (ST.down.giI gw.gr) HE.down.chk HT.down
    rw [HT.down.1] at NM
    refine NM.mono ?_
    rintro e w2 ⟨rfl, hg⟩
    have gg : Gr w w2 := hg
    clear hg
    (try go_simp)
    refine HK.down _ _ ⟨_, _, _, _, _, _, rfl, gw.grow gg, kp f0, kp f1, kp f2, fun _ => rfl, fun q => (let ⟨BM, V, e, h2⟩ := f4 (done_old q (by decide)); ⟨BM, V, e, h2.gr gg⟩), fun q => (let ⟨a1, BM, V, e, h2⟩ := f5 (done_old q (by decide)); ⟨getD_set_true a1, BM, V, e, h2.gr gg⟩)⟩
  · rintro done a w hsz hnot hdep ⟨t12, t31, t32, t33, t34, t35, rfl, gw, f0, f1, f2, f3, f4, f5⟩ K hK
    have hn : ¬ done.getD 4 false = true := by rw [getD_both hnot]; decide
    have d0 := hdep 0 (by kernel_rfl)
    have d3 := hdep 3 (by kernel_rfl)
    obtain rfl := f0 d0
    obtain rfl := f3 d3
    have hL0 : ∀ b ∈ [XP, BK], Has w b := by
      intro b hb
      simp only [List.mem_cons, List.not_mem_nil, or_false] at hb
      rcases hb with rfl | rfl
      · exact gw.box.has
      · exact gw.kn.has
    have RC := PLift.up (reach_any l ms t al am cl cm BK [XP, BK] w0 w HE.down gw.gr HT.down HC.down gw.kn hbk hL0 (by simp))
    clear hL0
    have HK := PLift.up hK
    clear hK d0 d3
    simp only [cd4A]
    go_simp
    refine RC.down.mono ?_
    rintro e w2 ⟨BM, V, rfl, r1, r2, r3, r4, r5, r6, r7, r8⟩
    have RR := PLift.up (And.intro r1 (And.intro r2 (And.intro r3 (And.intro r4 (And.intro r5 (And.intro r6 (And.intro r7 r8)))))))
    clear r1 r2 r3 r4 r5 r6 r7 r8 RC
    (try go_simp)
    obtain ⟨r1, r2, r3, r4, r5, r6, r7, r8⟩ := RR.down
    refine HK.down _ _ ⟨_, _, _, _, _, _, rfl, (⟨by have := gw.box; unfold Row at this ⊢; rw [r7 XP (by simp) hxk]; exact this, r6, r5, Nat.le_trans gw.size r8⟩ : PB l ms al am cl cm BK XP w0 wr w2), kp f0, kp f1, kp f2, kp f3, ?_, fun q => absurd (f5 (done_old q (by decide))).1 hn⟩
    exact fun _ => ⟨BM, V, rfl, Nat.le_trans gw.size r1, r2, r3, r4⟩
  · rintro done a w hsz hnot hdep ⟨t12, t31, t32, t33, t34, t35, rfl, gw, f0, f1, f2, f3, f4, f5⟩ K hK
    have hn : ¬ done.getD 5 false = true := by rw [getD_both hnot]; decide
    have d4 := hdep 4 (by kernel_rfl)
    obtain ⟨BM, V, rfl, h1⟩ := f4 d4
    have H1 := PLift.up h1
    clear h1
    have HK := PLift.up hK
    clear hK 
    simp only [cd4A]
    go_simp
    have gg : Gr w w := Gr.refl _
    refine HK.down _ _ ⟨_, _, _, _, _, _, rfl, gw, kp f0, kp f1, kp f2, kp f3, fun _ => ⟨BM, V, rfl, H1.down⟩, ?_⟩
    exact fun _ => ⟨getD_set_true d4, BM, V, rfl, H1.down⟩
  · rintro done a w hall ⟨t12, t31, t32, t33, t34, t35, rfl, gw, f0, f1, f2, f3, f4, f5⟩
    obtain ⟨_, BM, V, rfl, h1⟩ := f5 (hall 5 (by decide))
    exact h' _ _ _ _ _ BM V w gw h1
section
variable {l : List Clk} {cal : List Int → Bool} {V : List (List Int × Int)} {src s : List Int} {e : Int}
def nearer (V : List (List Int × Int)) (s : List Int) (t : Nbr) : Bool := decide (dz (look V) t.2.2 = dz (look V) s - 1)
theorem nearer_one (h : DistOk l cal src (look V)) (hs : look V s = some e) (he : 0 < e) {u v : Nat} (hu : u < l.length) (hv : (v : Int) < kOf l u) :
    ((look V (s.set u (v : Int))).getD (-1) = e - 1 → nbOne cal s u v = some ((u : Int), (v : Int), s.set u (v : Int)) ∧ nearer V s ((u : Int), (v : Int), s.set u (v : Int)) = true) ∧
    ((look V (s.set u (v : Int))).getD (-1) ≠ e - 1 → (nbOne cal s u v).toList.find? (nearer V s) = none) := by
  have so := (h.ok _ _ hs).1
  have hz : dz (look V) s = e := by simp [dz, hs]
  by_cases hb : (v : Int) ≠ sOf s u ∧ cal (s.set u (v : Int)) = true
  · have hn : nbOne cal s u v = some ((u : Int), (v : Int), s.set u (v : Int)) := by unfold nbOne; rw [if_pos hb]
    have hm : ((u : Int), (v : Int), s.set u (v : Int)) ∈ nbS l cal s := mem_nbS.2 ⟨u, v, hu, hv, hb.1, hb.2, rfl⟩
    obtain ⟨f, hf, _⟩ := h.dist.step s e _ hs hm
    simp only at hf
    rw [hf]
    simp only [Option.getD_some]
    constructor
    · intro q
      refine ⟨hn, ?_⟩
      unfold nearer
      simp only [dz, hf, hs, Option.getD_some]
      exact decide_eq_true q
    · intro q
      rw [hn]
      simp only [Option.toList, List.find?_cons, nearer, dz, hf, hs, Option.getD_some]
      rw [decide_eq_false q]
      rfl
  · have hn : nbOne cal s u v = none := by unfold nbOne; rw [if_neg hb]
    constructor
    · intro q
      exfalso
      by_cases hv' : (v : Int) = sOf s u
      · have : s.set u (v : Int) = s := by
          have hsl : u < s.length := by rw [so.1]; exact hu
          rw [hv', sOf_at hsl]
          exact List.set_getElem_self hsl
        rw [this, hs] at q
        simp at q
        omega
      · cases hx : look V (s.set u (v : Int)) with
        | none => rw [hx] at q; simp at q; omega
        | some f => exact hb ⟨hv', (h.ok _ _ hx).2⟩
    · intro _
      rw [hn]; rfl
def NoneN (l : List Clk) (cal : List Int → Bool) (V : List (List Int × Int)) (s : List Int) (u v : Nat) : Prop := (nbTo l cal s u ++ nbRow cal s u v).find? (nearer V s) = none
theorem noneN_zero : NoneN l cal V s 0 0 := by simp [NoneN, nbTo, nbRow]
theorem noneN_row {u : Nat} (h : NoneN l cal V s u (kOf l u).toNat) : NoneN l cal V s (u + 1) 0 := by
  unfold NoneN at *
  rw [nbTo_succ]
  simpa [nbRow] using h
theorem noneN_step {u v : Nat} (h : NoneN l cal V s u v) (h1 : (nbOne cal s u v).toList.find? (nearer V s) = none) : NoneN l cal V s u (v + 1) := by
  unfold NoneN at *
  rw [nbRow_succ, ← List.append_assoc, List.find?_append, h, h1]
  rfl
theorem found_step {u v : Nat} (hu : u < l.length) (hv : (v : Int) < kOf l u) (h : NoneN l cal V s u v) {t : Nbr} (h1 : nbOne cal s u v = some t) (h2 : nearer V s t = true) : (nbS l cal s).find? (nearer V s) = some t := by
  obtain ⟨R, e⟩ := nb_prefix (cal := cal) s hu (v := v + 1) (by omega)
  rw [e, nbRow_succ, h1, ← List.append_assoc, List.find?_append, List.find?_append]
  unfold NoneN at h
  rw [h]
  simp [h2]
theorem noneN_all (h : DistOk l cal src (look V)) (hs : look V s = some e) (he : 0 < e) : ¬ NoneN l cal V s l.length 0 := by
  intro hn
  obtain ⟨t, h1, _⟩ := h.found hs he
  unfold NoneN at hn
  have : (nbS l cal s).find? (nearer V s) = some t := h1
  unfold nbS at this
  simp [nbRow] at hn
  rw [List.find?_eq_none.2] at this
  · cases this
  · intro x hx
    have := hn x.1 x.2.1 x.2.2 hx
    simpa using this
end
theorem step_any (l : List Clk) (cal : List Int → Bool) (V : List (List Int × Int)) (src s : List Int) (e : Int) (al aS : Option Addr) (cl cs D : Nat) (w : World) (h : SlOf 5 RClk w al l) (hc : cchk l = 0) (hs : SlOf 1 RI w aS s) (hk : KeysOk l V) (hd : DistOk l cal src (look V)) (hse : look V s = some e) (he : 0 < e) (he1 : e ≤ 4096)
    (hr : Row w D 3 (nums (dA l (prodC l) V))) :
    Calls Tryz.prog 95 #[.slice al l.length cl, .slice aS s.length cs, .slice (some ⟨D, 0, none⟩) (prodC l) (prodC l)] w fun e w' => ∃ (u v : Nat) (B c : Nat), e = .returned (.tuple #[.agg #[.int .i64 1, .int .i64 u, .int .i64 v], .slice (some ⟨B, 0, none⟩) s.length c]) ∧ (nbS l cal s).find? (nearer V s) = some ((u : Int), (v : Int), s.set u (v : Int)) ∧ u < l.length ∧ (v : Int) < kOf l u ∧ RowS w' B 3 (nums (s.set u (v : Int))) ∧ w.heap.size ≤ B ∧ Gr w w' := by
  have hnb := small_len (cchk_zero hc).1
  have PR := (cchk_zero hc).2.2.1
  have H := Lib.hid h
  have HC := Lib.hid hc
  have HS := Lib.hid hs
  have SH := Lib.hid (hd.ok _ _ hse).1
  have KK := Lib.hid hk
  have DD := Lib.hid hd
  have SE := Lib.hid hse
  have NB := Lib.hid (cchk_zero hc).1
  have RR := Lib.hid hr
  have N1 := Lib.hid (fun W (hW : Gr w W) s a c (hs : SetOk l s) (hsl : SlOf 1 RI W a s) => refNumber_any l s al a cl c W (clks_gr h hW) hsl hc hs)
  obtain ⟨N, hN⟩ : ∃ N, prodC l = N := ⟨_, rfl⟩
  have EN := Lib.hid hN
  rw [hN] at PR RR ⊢
  have HSL := Lib.hid (hd.ok _ _ hse).1.1
  rw [(hd.ok _ _ hse).1.1]
  clear h hc hs hk hd hse hr hN
  go_enter Tryz.func95, Tryz.ntmps95
  have P0 : Hid (Row (w.alloc (.cells #[.int .i64 0, .int .i64 0, .int .i64 0] 65)) w.heap.size 65 [.int .i64 0, .int .i64 0, .int .i64 0]) := Lib.hid (Row.new w _ _)
  have G0 : Hid (Gr w (w.alloc (.cells #[.int .i64 0, .int .i64 0, .int .i64 0] 65))) := Lib.hid ((Gr.refl _).alloc _)
  obtain ⟨P, hP⟩ : ∃ P : Nat, Hid (w.heap.size = P) := ⟨_, Lib.hid rfl⟩
  have P1 := Lib.hid P0.out
  rw [hP.out] at P1
  clear P0
  go_wp2_with fail
  rw [hP.out]
  go_loopw [14] (fun s14 wr => ∃ u : Nat, s14 = .int .i64 (u : Int) ∧ u ≤ l.length ∧ Gr w wr ∧ Row wr P 65 [.int .i64 0, .int .i64 0, .int .i64 0] ∧ Hid (NoneN l cal V s u 0)) (fun s14 _ => l.length - (intOf s14).toNat)
  case atStart => exact ⟨0, rfl, Nat.zero_le _, G0.out, P1.out, Lib.hid noneN_zero⟩
  case round =>
    clear G0 P1
    obtain ⟨u, rfl, hu, hg, hp, hnn⟩ := hrel
    have GG := Lib.hid hg
    have PP := Lib.hid hp
    clear hg hp
    by_cases hul : u < l.length
    · have u2 : (u : Int) < l.length := by omega
      obtain ⟨fp, fc⟩ := small_at NB.out hul
      obtain ⟨b, o, rfl, ⟨d0, _⟩, ⟨ap, cp, d1, _⟩, ⟨ac, cc, d2, _, d2f, _⟩, ⟨d3, _⟩, ⟨d4, _⟩⟩ := clks_gr H.out GG.out u hul
      have dh := has_of_cell d0
      unfold Fit at d2f
      have KU := Lib.hid (kOf_at hul)
      obtain ⟨K, hK⟩ : ∃ K, l[u].choices.length = K := ⟨_, rfl⟩
      rw [hK] at KU
      have GA : Hid (Gr wr (wr.alloc (.cells #[.int .i64 l[u].kind, .slice ap l[u].parents.length cp, .slice ac K cc, .int .i64 l[u].low, .int .i64 l[u].high] 79))) := Lib.hid ((Gr.refl _).alloc _)
      have G1 := Lib.hid (GG.out.trans GA.out)
      have P1 := Lib.hid (PP.out.gr GA.out)
      have K8 : K ≤ 8 := by omega
      go_wp2_with fail
      clear d0 d1 d2 d3 d4 dh
      go_loopw [22] (fun s22 wr => ∃ v : Nat, s22 = .int .i64 (v : Int) ∧ v ≤ K ∧ Gr w wr ∧ Row wr P 65 [.int .i64 0, .int .i64 0, .int .i64 0] ∧ Hid (NoneN l cal V s u v)) (fun s22 _ => K - (intOf s22).toNat)
      case atStart => exact ⟨0, rfl, Nat.zero_le _, G1.out, P1.out, hnn⟩
      case round =>
        clear G1 P1 GA GG PP hnn hK
        obtain ⟨v, rfl, hv, hg, hp, hnn⟩ := hrel
        have GG := Lib.hid hg
        have PP := Lib.hid hp
        clear hg hp
        by_cases hvk : v < K
        · have v2 : (v : Int) < K := by omega
          have vk : (v : Int) < kOf l u := by rw [KU.out]; exact v2
          obtain ⟨x, hx⟩ : ∃ x, s.set u (v : Int) = x := ⟨_, rfl⟩
          have SX : Hid (SetOk l x) := Lib.hid (by rw [← hx]; exact SH.out.set hul (by omega) vk)
          have NE := Lib.hid (nearer_one DD.out SE.out he hul vk)
          rw [hx] at NE
          have FS := Lib.hid (fun t h1 h2 => found_step (cal := cal) (V := V) (s := s) hul vk hnn.out (t := t) h1 h2)
          have NS1 := Lib.hid (fun h1 => noneN_step (l := l) (cal := cal) (V := V) (s := s) (u := u) (v := v) hnn.out h1)
          have CH := changed_any s u (v : Int) aS cs wr (HS.out.giI GG.out) (by have := HSL.out; omega) (by have := HSL.out; omega)
          rw [hx, HSL.out] at CH
          have CH' := Lib.hid CH
          have HX := Lib.hid hx
          have VK := Lib.hid vk
          clear CH hx vk hnn
          go_wp2_with fail
          refine CH'.out.mono ?_
          rintro e' w4 ⟨B, cx, rfl, hnr, hnb2, hng⟩
          have RX := Lib.hid hnr
          have G4 := Lib.hid (GG.out.trans hng)
          have P4 := Lib.hid (PP.out.gr hng)
          have BX : Hid (w.heap.size ≤ B) := Lib.hid (by have := GG.out.size; omega)
          clear hnr hnb2 hng GG PP CH'
          have NX : Hid (∀ W, Gr w4 W → Calls Tryz.prog 91 #[.slice (some ⟨b, o, none⟩) l.length cl, .slice (some ⟨B, 0, none⟩) l.length cx] W (Grows W (.int .i64 (num l x)))) := Lib.hid (fun W hW => by
            have := N1.out W (G4.out.trans hW) x (some ⟨B, 0, none⟩) cx SX.out ((RX.out.gr hW).slI (setOk_wide HC.out SX.out))
            rwa [SX.out.1] at this)
          have NS : Hid (∀ W, Gr w4 W → Calls Tryz.prog 91 #[.slice (some ⟨b, o, none⟩) l.length cl, .slice aS l.length cs] W (Grows W (.int .i64 (num l s)))) := Lib.hid (fun W hW => by
            have := N1.out W (G4.out.trans hW) s aS cs SH.out (HS.out.giI (G4.out.trans hW))
            rwa [SH.out.1] at this)
          have nbx := num_bound SX.out
          have nbs := num_bound SH.out
          rw [EN.out] at nbx nbs
          obtain ⟨m, hm⟩ : ∃ m : Nat, num l x = (m : Int) := ⟨(num l x).toNat, by omega⟩
          obtain ⟨q, hq⟩ : ∃ m : Nat, num l s = (m : Int) := ⟨(num l s).toNat, by omega⟩
          rw [hm] at NX nbx
          rw [hq] at NS nbs
          have HM := Lib.hid hm
          have HQ := Lib.hid hq
          have RD := Lib.hid (RR.out.gr G4.out)
          have mk : m < (dA l N V).length := by rw [dA_len]; omega
          have qk : q < (dA l N V).length := by rw [dA_len]; omega
          have c0 := RD.out.iat m mk
          have c1 := RD.out.iat q qk
          rw [dA_at KK.out SX.out HM.out mk] at c0
          rw [dA_at KK.out SH.out HQ.out qk, SE.out] at c1
          simp only [Option.getD_some] at c1
          obtain ⟨dx, hdx⟩ : ∃ dx, (look V x).getD (-1) = dx := ⟨_, rfl⟩
          rw [hdx] at c0 NE
          have ch := RD.out.has
          have m2 : (m : Int) < N := by omega
          have q2 : (q : Int) < N := by omega
          have ew : IntKind.i64.wrap (e - 1) = e - 1 := by rw [IntKind.wrap_i64]; omega
          clear hm hq hdx mk qk nbx nbs
          go_wp2_with fail
          refine wp_region_grows (by kernel_rfl) (by kernel_rfl) ?_
          repeat (go_big_quiet_step (first | (go_at_call 91; first | with_reducible exact calls_grows (NX.out _ (by repeat (first | with_reducible exact Gr.refl _ | with_reducible refine Gr.drewN _ ?_ | with_reducible refine Gr.xt _ _ ?_))) | with_reducible exact calls_grows (NS.out _ (by repeat (first | with_reducible exact Gr.refl _ | with_reducible refine Gr.drewN _ ?_ | with_reducible refine Gr.xt _ _ ?_))))))
          refine wpQuiet_nil ?_
          rintro _ ⟨⟨O, d⟩, rfl⟩
          obtain ⟨w5, hw5⟩ : ∃ w5 : World, Hid (w5 = xt w4 O d) := ⟨_, Lib.hid rfl⟩
          have H5 : Hid (Gr w4 w5) := Lib.hid (by rw [hw5.out]; exact (Gr.refl _).xt _ _)
          show Exit.then _ _ _ _ (xt w4 O d)
          rw [← hw5.out]
          have G5 := Lib.hid (G4.out.trans H5.out)
          have P5 := Lib.hid (P4.out.gr H5.out)
          have R5 := Lib.hid (RX.out.gr H5.out)
          clear hw5 c0 c1 ch G4 P4 RX NX NS RD
          by_cases hdx : dx = e - 1
          · have db : (dx == e - 1) = true := by simp [hdx]
            obtain ⟨n1, n2⟩ := NE.out.1 hdx
            have FD := Lib.hid (FS.out _ n1 n2)
            have p0 := P5.out.cell 0 (by simp)
            have p1 := P5.out.cell 1 (by simp)
            have p2 := P5.out.cell 2 (by simp)
            have ph := P5.out.has
            have pf0 := P5.out.free 0
            have pf1 := P5.out.free 1
            have pf2 := P5.out.free 2
            simp only [List.getElem_cons_zero, List.getElem_cons_succ] at p0 p1 p2
            clear hdx n1 n2
            obtain ⟨W6, hW6⟩ : ∃ W6 : World, Hid (W6 = ((w5.setCell ⟨P, 0, none⟩ (.int .i64 1)).setCell ⟨P, 1, none⟩ (.int .i64 (u : Int))).setCell ⟨P, 2, none⟩ (.int .i64 (v : Int))) := ⟨_, Lib.hid rfl⟩
            have R6 : Hid (Row W6 P 65 [.int .i64 1, .int .i64 u, .int .i64 v]) := Lib.hid (by
              rw [hW6.out]
              exact ((P5.out.set 0 (.int .i64 1)).set 1 (.int .i64 (u : Int))).set 2 (.int .i64 (v : Int)))
            have pw : w.heap.size ≤ P := by rw [hP.out]; exact Nat.le_refl _
            have G6 : Hid (Gr w W6) := Lib.hid (by
              rw [hW6.out]
              exact ((G5.out.setc pw).setc pw).setc pw)
            have X6 : Hid (RowS W6 B 3 (nums x)) := Lib.hid (by
              have ne : B ≠ P := R5.out.apart P5.out.s (by decide)
              rw [hW6.out]
              obtain ⟨r, hr⟩ := R5.out
              exact ⟨r, ((hr.oth (fun e => ne e.symm)).oth (fun e => ne e.symm)).oth (fun e => ne e.symm)⟩)
            clear pw
            go_wp2_with fail
            rw [← hW6.out]
            have z0 := R6.out.cell 0 (by simp)
            have z1 := R6.out.cell 1 (by simp)
            have z2 := R6.out.cell 2 (by simp)
            simp only [List.getElem_cons_zero, List.getElem_cons_succ] at z0 z1 z2
            refine bodyPost_ret (v := .tuple #[.agg #[.int .i64 1, .int .i64 u, .int .i64 v], .slice (some ⟨B, 0, none⟩) l.length cx]) ?_ rfl ?_
            · simp [results, Tryz.results95, go_sem, z0, z1, z2]
            · refine ⟨u, v, B, cx, rfl, ?_, hul, VK.out, ?_, BX.out, G6.out⟩
              · rw [HX.out]; exact FD.out
              · rw [HX.out]; exact X6.out
          · have db : (dx == e - 1) = false := by simp [hdx]
            have ND := Lib.hid (NS1.out (NE.out.2 hdx))
            clear hdx
            go_wp2_with fail
            go_roundw
            case rel => exact ⟨v + 1, by simp, by omega, G5.out, P5.out, ND⟩
            case measure => simp [intOf]; omega
        · obtain rfl : v = K := by omega
          have ND : Hid (NoneN l cal V s (u + 1) 0) := Lib.hid (noneN_row (by rw [KU.out]; simpa using hnn.out))
          go_wp2_with fail
          go_roundw
          case rel => exact ⟨u + 1, by simp, by omega, GG.out, PP.out, ND⟩
          case measure => simp [intOf]; omega
    · obtain rfl : u = l.length := by omega
      exact absurd hnn.out (noneN_all DD.out SE.out he)
end Go.Proofs.YtenehghpmnajpaaGreatDoor
