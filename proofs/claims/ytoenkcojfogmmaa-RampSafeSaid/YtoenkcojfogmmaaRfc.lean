/- append onto an empty slice without room; copied of the second reference. -/
import Derived.Test.YtoenkcojfogmmaaRmpJ
import Derived.Deep.RegionLaw
import Derived.Deep.AppendLies
set_option linter.unusedVariables false
set_option linter.unusedSimpArgs false
namespace Go.Proofs.Ytoenkcojfogmmaa
open Go.RowKit
open Classical

theorem run_append_fresh {P : Program} (w : World) (t ty e : TypeId) (i : TypeInfo) (z : Value) (bytes : Nat) (ht : P.underlying t = some (.slice e)) (hi : P.info? e = some i) (hz : i.zero = some z) (hs : i.size = 1) (hb : i.bytes = bytes)
    (b ad : Addr) (m c : Nat) (news : List Value) (hl : news.length = m) (hnews : ∀ j u, news[j]? = some u → w.cell? (ad.add j) = some u) (hm : 0 < m) (h63 : m ≤ 1000000) (hbytes : bytes ≤ 8) :
    ∃ cap Z, m ≤ cap ∧ (Builtin.append_ #[t, t] ty #[.slice (some b) 0 0, .slice (some ad) m c]).run P w = .ok (.slice (some ⟨w.heap.size, 0, none⟩) m cap) (w.drew.alloc (.cells (news.toArray ++ Z) e)) := by
  subst hb
  have := run_append_grow (P := P) w t ty e i z ht hi hz b 0 0 [] (by simp) (fun j v h => by simp at h) ad m c news (by rw [hs]; omega) hnews (by omega) (by omega) (growslice_fits (by omega) (by rw [Nat.zero_add]; exact Nat.le_trans (Nat.mul_le_mul h63 hbytes) (by decide)))
  simp only [Nat.zero_add, Array.empty_append] at this
  exact ⟨_, _, by have := grownCap_ge w m 0 e; exact this, this⟩
theorem step_append_fresh {P : Program} (w : World) {ops : Array Oper} {o : Oper} {a : Act} {K : Act → World → Prop} {Q : Exit → Act → World → Prop} {E : Prop} (hgd : o.guard = none) (s x : Operand) (t : TypeId)
    (ho : o.op = .call { callee := .builtin .append, args := #[s, x], argTypes := #[t, t] }) (e : TypeId) (i : TypeInfo) (z : Value) (bytes : Nat) (ht : P.underlying t = some (.slice e)) (hi : P.info? e = some i) (hz : i.zero = some z) (hs : i.size = 1) (hb : i.bytes = bytes)
    (b ad : Addr) (m c : Nat) (news : List Value) (hv : a.eval s = .slice (some b) 0 0) (hx : a.eval x = .slice (some ad) m c) (hl : news.length = m) (hnews : ∀ j u, news[j]? = some u → w.cell? (ad.add j) = some u) (hm : 0 < m) (h63 : m ≤ 1000000) (hbytes : bytes ≤ 8) (H : Nat) (hH : w.heap.size = H)
    (h : ∀ cap Z, m ≤ cap → K (a.put o.dst (.slice (some ⟨H, 0, none⟩) m cap)) (w.drew.alloc (.cells (news.toArray ++ Z) e))) :
    if Region.wanted o (yielded ops a.tmps) = true then Oper.wp P o a w K Q else E := by
  subst hH
  have hw : Region.wanted o (yielded ops a.tmps) = true := by simp [Region.wanted, hgd]
  rw [if_pos hw]
  obtain ⟨cap, Z, hc, hr⟩ := run_append_fresh (P := P) w t o.type e i z bytes ht hi hz hs hb b ad m c news hl hnews hm h63 hbytes
  unfold Oper.wp execOp
  simp only [ho, resolve, invoke, builtin, Sem.run_bind, Sem.run_pure, Result.andThen_ok, List.map_toArray, List.map_cons, List.map_nil, hv, hx, hr]
  exact h cap Z hc
theorem row_fresh (w : World) (vs : List Value) (Z : Array Value) (T : Nat) : RowS (w.alloc (.cells (vs.toArray ++ Z) T)) w.heap.size T vs := ⟨Z.toList, by have := Row.new w (vs.toArray ++ Z) T; simpa using this⟩

theorem row_fresh' (w : World) (vs : List Value) (Z : Array Value) (T B : Nat) (hB : B = w.heap.size) : RowS (w.alloc (.cells (vs.toArray ++ Z) T)) B T vs := by subst hB; exact row_fresh w vs Z T
theorem RowS.drewN {w : World} {B T : Nat} {vs : List Value} (n : Nat) (h : RowS w B T vs) : RowS (w.drewN n) B T vs := h.gr ((Gr.refl w).drewN n)

set_option maxRecDepth 100000 in
set_option maxHeartbeats 8000000 in
theorem refCopied_any (r : Rls) (a1 a2 : Option Addr) (c1 c2 : Nat) (w : World) (h1 : SlOf 1 RB w a1 r.on) (h2 : SlOf 1 RI w a2 r.level) (p1 : 0 < r.on.length) (p2 : 0 < r.level.length) (f1 : r.on.length ≤ 1000000) (f2 : r.level.length ≤ 1000000) :
    Calls Try.prog 45 #[.agg #[.slice a1 r.on.length c1, .slice a2 r.level.length c2]] w (GivesRls w r) := by
  have H1 := Lib.hid h1
  have H2 := Lib.hid h2
  obtain ⟨b1, o1, rfl, _⟩ := h1.one 0 p1
  obtain ⟨b2, o2, rfl, _⟩ := h2.one 0 p2
  clear h1 h2
  obtain ⟨i0, hi, hz0, hz1, hz2⟩ := info_parts infoInt
  obtain ⟨j0, hj, hy0, hy1, hy2⟩ := info_parts infoBool
  go_enter Try.func45, Try.ntmps45
  go_wp2_with fail
  go_region_law (first
    | (refine step_append_fresh _ rfl _ _ 29 rfl 4 j0 (.bool false) 1 Try.underlying29 hj hy0 hy1 hy2 _ ⟨b1, o1, none⟩ r.on.length c1 (bools r.on) (by simp [Act.eval, Act.put]; rfl) (by simp [Act.eval, Act.put]) (by simp [bools]) (slB_cells (H1.out.giB (by repeat (first | with_reducible exact Gr.refl _ | with_reducible refine Gr.drew ?_ | with_reducible refine Gr.alloc _ ?_)))) p1 f1 (by omega) _ rfl ?_; intro cO ZO hcO)
    | (refine step_append_fresh _ rfl _ _ 22 rfl 3 i0 (.int .i64 0) 8 Try.underlying22 hi hz0 hz1 hz2 _ ⟨b2, o2, none⟩ r.level.length c2 (nums r.level) (by simp [Act.eval, Act.put]; rfl) (by simp [Act.eval, Act.put]) (by simp [nums]) (slI_cells (H2.out.giI (by repeat (first | with_reducible exact Gr.refl _ | with_reducible refine Gr.drew ?_ | with_reducible refine Gr.alloc _ ?_)))) p2 f2 (by omega) _ rfl ?_; intro cL ZL hcL))
  all_goals go_wp2_with fail
  all_goals
    refine bodyPost_ret (by simp [results, Try.results45, go_sem]; exact rfl) rfl ?_
    refine ⟨_, _, _, _, rfl, hcO, hcL, Own1.row (B := _) ?_ ?_, Own1.row (B := _) ?_ ?_, ?_⟩
  all_goals (try omega)
  all_goals (repeat (first | with_reducible exact Gr.refl _ | with_reducible refine Gr.drew ?_ | with_reducible refine Gr.alloc _ ?_ | (with_reducible refine row_fresh' _ _ _ _ _ ?_; simp) | with_reducible refine RowS.drew ?_ | with_reducible refine RowS.alloc _ ?_))
end Go.Proofs.Ytoenkcojfogmmaa
