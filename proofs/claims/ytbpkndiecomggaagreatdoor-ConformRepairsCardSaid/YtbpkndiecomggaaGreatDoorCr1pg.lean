/- Lemmas and contracts for the proof of ConformRepairs (several texts in one, printed by wip/tools/pack.py): UbE UcC UdA UbF UbH UbG UbI UbL UbM UbN UbO UbP UbQ UfA UfB UdB. -/
import Derived.Test.YtbpkndiecomggaaGreatDoorCr1pf
import Derived.Deep.DeepMust
import Derived.Test.YtbpkndiecomggaaGreatDoorCr1pe
set_option maxRecDepth 100000
set_option maxHeartbeats 16000000
set_option linter.unusedVariables false
set_option linter.unusedSimpArgs false
namespace Go.Proofs.YtbpkndiecomggaaGreatDoor
open Go.RowKit
open Classical
theorem gets_words {w : World} {a : Option Addr} {l : List St} (h : SlOf 1 RS w a l) : Gets w a l.length 1 (strV l) := by
  refine ⟨by simp [strV], fun hn => ?_⟩
  obtain ⟨b, o, e, _⟩ := h.one 0 (by omega)
  refine ⟨_, e, fun j u hu => ?_⟩
  obtain ⟨hj, hju⟩ := List.getElem?_eq_some_iff.1 hu
  have hj' : j < l.length := by simpa [strV] using hj
  obtain ⟨b2, o2, e2, c2, _⟩ := h.one j hj'
  rw [e] at e2
  cases e2
  rw [Addr.add_lit, c2, ← hju]
  simp [strV]
theorem kind_nat {r : Rul} (h : ruleP r = true) : ∃ k : Nat, r.kind = k ∧ 1 ≤ k ∧ k ≤ 6 := by
  unfold ruleP at h
  simp only [Bool.and_eq_true, decide_eq_true_eq] at h
  obtain ⟨⟨⟨⟨⟨⟨_, h1, h2⟩, _⟩, _⟩, _⟩, _⟩, _⟩ := h
  exact ⟨r.kind.toNat, by omega, by omega, by omega⟩
theorem count_range {r : Rul} (h : ruleP r = true) : 0 ≤ r.count ∧ r.count ≤ 64 := by
  unfold ruleP at h
  simp only [Bool.and_eq_true, decide_eq_true_eq] at h
  obtain ⟨⟨⟨⟨⟨_, _⟩, h1, h2⟩, _⟩, _⟩, _⟩ := h
  exact ⟨h1, h2⟩
theorem cells_range {r : Rul} (h : ruleP r = true) (k : r.kind = 3) : 0 ≤ r.low ∧ r.low ≤ 4294967295 ∧ 0 ≤ r.high ∧ r.high ≤ 4294967295 := by
  unfold ruleP at h
  simp only [Bool.and_eq_true, decide_eq_true_eq] at h
  obtain ⟨⟨⟨⟨⟨_, h1⟩, _⟩, _⟩, _⟩, _⟩ := h
  rw [if_pos k] at h1
  simp only [Bool.and_eq_true, decide_eq_true_eq] at h1
  omega
theorem words_len {r : Rul} (h : ruleP r = true) : r.words.length ≤ 16 := by
  unfold ruleP at h
  simp only [Bool.and_eq_true, decide_eq_true_eq] at h
  obtain ⟨⟨_, h1⟩, _⟩ := h
  split at h1
  · simp only [Bool.and_eq_true, decide_eq_true_eq] at h1; omega
  · simp only [decide_eq_true_eq] at h1; omega
def WAt (w : World) (a : Option Addr) (l : List St) : Prop := l = [] ∨ ∃ B o vs, a = some ⟨B, o, none⟩ ∧ Row w B 9 vs ∧ ∀ j (h : j < l.length), vs[o + j]? = some (.string (bs l[j])) ∧ l[j].length ≤ 1000000
theorem WAt.gr {w w' : World} {a : Option Addr} {l : List St} (h : WAt w a l) (hg : Gr w w') : WAt w' a l := h.imp id (fun ⟨B, o, vs, h1, h2, h3⟩ => ⟨B, o, vs, h1, h2.gr hg, h3⟩)
theorem WAt.sl {w : World} {a : Option Addr} {l : List St} (h : WAt w a l) : SlOf 1 RS w a l := fun k hk => by
  rcases h with rfl | ⟨B, o, vs, h1, h2, h3⟩
  · exact absurd hk (by simp)
  · obtain ⟨c1, c2⟩ := h3 k hk
    obtain ⟨hj, e⟩ := List.getElem?_eq_some_iff.1 c1
    refine ⟨B, o, h1, ?_, by omega⟩
    rw [Nat.mul_one, h2.cell _ hj, e]
structure RM where
  r : Rul
  a : Option Addr
  c : Nat
def RM.enc (x : RM) : List Value := [.string (bs x.r.name), .bool x.r.req, .int .i64 x.r.kind, .int .i64 x.r.low, .int .i64 x.r.high, .int .i64 x.r.count, .slice x.a x.r.words.length x.c]
theorem RM.enc_len (x : RM) : x.enc.length = 7 := rfl
structure SM where
  comp : St
  closed : Bool
  rs : List RM
  v : Value
def SM.enc (s : SM) : List Value := [.string (bs s.comp), .bool s.closed, s.v]
def SM.sch (s : SM) : Sch := ⟨s.comp, s.closed, s.rs.map RM.r⟩
theorem owns_put {w : World} {base e size n g cap j : Nat} {xs : List Value} (h : w.ownsRow base e size (.slice (some ⟨g, 0, none⟩) n cap) n xs) (hj : j < n * size) (v : Value) : (w.setCell ⟨g, j, none⟩ v).ownsRow base e size (.slice (some ⟨g, 0, none⟩) n cap) n (xs.set j v) := by
  obtain ⟨h0, ⟨e1, _⟩ | ⟨g', cap', cur, e1, hb, hg, hn, hm, hs, ht⟩⟩ := h
  · cases e1
  · simp only [Value.slice.injEq, Option.some.injEq, Addr.mk.injEq, and_true, true_and] at e1
    obtain ⟨rfl, rfl⟩ := e1
    have hr : Row w g e cur.toList := hg
    have hr2 := hr.set j v
    refine ⟨by simpa using h0, .inr ⟨g, cap, (cur.toList.set j v).toArray, rfl, hb, hr2, hn, hm, by simpa using hs, ?_⟩⟩
    rw [← ht]
    simp only []
    rw [List.take_set]
theorem WAt.kept {w w' : World} {row : Option Nat} {a : Option Addr} {l : List St} (h : WAt w a l) (hg : w.grownBy w' row) (hne : ∀ B, Ty w B 9 → some B ≠ row) : WAt w' a l :=
  h.imp id (fun ⟨B, o, vs, h1, h2, h3⟩ => ⟨B, o, vs, h1, h2.kept hg (hne B h2.ty), h3⟩)
structure RlsAt (base : Nat) (w : World) (s : SM) : Prop where
  own : w.ownsRow base 51 7 s.v s.rs.length (s.rs.flatMap RM.enc)
  wds : ∀ x ∈ s.rs, WAt w x.a x.r.words
  ok : ∀ x ∈ s.rs, ruleP x.r = true ∧ x.r.name.length ≤ 1000000 ∧ x.r.words.length ≤ x.c
  len : s.rs.length ≤ 16
  cl : s.comp.length ≤ 1000000
theorem RlsAt.gr {base : Nat} {w w' : World} {s : SM} (h : RlsAt base w s) (hg : Gr w w') : RlsAt base w' s := ⟨Gr.owns h.own hg, fun x hx => (h.wds x hx).gr hg, h.ok, h.len, h.cl⟩
theorem RlsAt.kept {base : Nat} {w w' : World} {row : Option Nat} {s : SM} (h : RlsAt base w s) (hg : w.grownBy w' row) (hne : ∀ B, Ty w B 9 → some B ≠ row) (hv : s.v.ownBlock = none ∨ s.v.ownBlock ≠ row) : RlsAt base w' s :=
  ⟨h.own.kept hg hv, fun x hx => (h.wds x hx).kept hg hne, h.ok, h.len, h.cl⟩
structure OutAt (base : Nat) (w : World) (v : Value) (out : List SM) : Prop where
  own : w.ownsRow base 48 3 v out.length (out.flatMap SM.enc)
  rls : ∀ s ∈ out, RlsAt base w s
  ap : ∀ i j (hi : i < out.length) (hj : j < out.length), i ≠ j → out[i].v.ownBlock = none ∨ out[i].v.ownBlock ≠ out[j].v.ownBlock
  len : out.length ≤ 24
theorem OutAt.nil (base : Nat) (w : World) : OutAt base w (.slice none 0 0) [] := ⟨World.ownsRow_nil _ _ _ _, (fun s hs => by cases hs), (fun i j hi => by cases hi), by simp⟩
theorem OutAt.gr {base : Nat} {w w' : World} {v : Value} {out : List SM} (h : OutAt base w v out) (hg : Gr w w') : OutAt base w' v out := ⟨Gr.owns h.own hg, fun s hs => (h.rls s hs).gr hg, h.ap, h.len⟩
theorem ty_ne_owns {w : World} {b2 e2 s2 n2 : Nat} {v2 : Value} {x2 : List Value} (k : w.ownsRow b2 e2 s2 v2 n2 x2) (hne : 9 ≠ e2) : ∀ B, Ty w B 9 → some B ≠ v2.ownBlock := fun B h => h.ne k hne
/-! As data. -/
theorem RlsAt.sl {base : Nat} {w : World} {s : SM} {a : Option Addr} {n c : Nat} (h : RlsAt base w s) (hv : s.v = .slice a n c) : n = s.rs.length ∧ SlOf 7 RRul w a (s.rs.map RM.r) := by
  have hn : n = s.rs.length := by
    have := h.own
    rw [hv] at this
    rcases this.2 with ⟨e, z⟩ | ⟨g, cap, cur, e, _⟩
    · cases e; exact z.symm
    · cases e; rfl
  refine ⟨hn, fun k hk => ?_⟩
  rw [List.length_map] at hk
  obtain ⟨g, cap, e1, h1, _, hc⟩ := owns_cell h.own (by omega)
  rw [hv] at e1
  cases e1
  have hf := fun j (hj : j < 7) => flat_at RM.enc 7 (fun _ => rfl) s.rs k j hk hj
  have h2 : ∀ j, j < 7 → w.cell? ⟨g, k * 7 + j, none⟩ = (RM.enc s.rs[k])[j]? := fun j hj => by
    rw [hc (k * 7 + j) (by omega)]; exact hf j hj
  obtain ⟨o1, o2, o3⟩ := h.ok s.rs[k] (List.getElem_mem hk)
  have cr := count_range o1
  have hw16 := words_len o1
  have hww := h.wds s.rs[k] (List.getElem_mem hk)
  have kr : 1 ≤ s.rs[k].r.kind ∧ s.rs[k].r.kind ≤ 6 := by
    obtain ⟨kn, e, q1, q2⟩ := kind_nat o1
    rw [e]; omega
  have lr : (0 ≤ s.rs[k].r.low ∧ s.rs[k].r.low ≤ 4294967295) ∧ (0 ≤ s.rs[k].r.high ∧ s.rs[k].r.high ≤ 4294967295) := by
    by_cases q : s.rs[k].r.kind = 3
    · obtain ⟨a1, a2, a3, a4⟩ := cells_range o1 q
      exact ⟨⟨a1, a2⟩, a3, a4⟩
    · have := o1
      unfold ruleP at this
      rw [if_neg q] at this
      simp at this
      omega
  rw [List.getElem_map]
  have hw2 : ∀ n : Int, 0 ≤ n → n ≤ 4294967295 → Wide n := fun n a b => by unfold Wide; omega
  refine ⟨g, 0, rfl, ?_, ?_, ?_, ?_, ?_, ?_, ?_⟩
  all_goals rw [Nat.zero_add]
  · exact ⟨by rw [show k * 7 = k * 7 + 0 from rfl, h2 0 (by omega)]; rfl, by omega⟩
  · show w.cell? _ = _; rw [h2 1 (by omega)]; rfl
  · exact ⟨by rw [h2 2 (by omega)]; rfl, hw2 _ (by omega) (by omega)⟩
  · exact ⟨by rw [h2 3 (by omega)]; rfl, hw2 _ (by omega) (by omega)⟩
  · exact ⟨by rw [h2 4 (by omega)]; rfl, hw2 _ (by omega) (by omega)⟩
  · exact ⟨by rw [h2 5 (by omega)]; rfl, hw2 _ (by omega) (by omega)⟩
  · exact ⟨_, _, by rw [h2 6 (by omega)]; rfl, o3, by unfold Fit; omega, hww.sl⟩
theorem OutAt.sl {base : Nat} {w : World} {out : List SM} {a : Option Addr} {n c : Nat} (h : OutAt base w (.slice a n c) out) : n = out.length ∧ SlOf 3 RSch w a (out.map SM.sch) := by
  have hn : n = out.length := by
    have := h.own
    rcases this.2 with ⟨e, z⟩ | ⟨g, cap, cur, e, _⟩
    · cases e; exact z.symm
    · cases e; rfl
  refine ⟨hn, fun k hk => ?_⟩
  rw [List.length_map] at hk
  obtain ⟨g, cap, e1, h1, _, hc⟩ := owns_cell h.own (by omega)
  cases e1
  have hf := fun j (hj : j < 3) => flat_at SM.enc 3 (fun _ => rfl) out k j hk hj
  have h2 : ∀ j, j < 3 → w.cell? ⟨g, k * 3 + j, none⟩ = (SM.enc out[k])[j]? := fun j hj => by
    rw [hc (k * 3 + j) (by omega)]; exact hf j hj
  have hr := h.rls out[k] (List.getElem_mem hk)
  obtain ⟨ra, rc, hv⟩ := owns_slice hr.own
  obtain ⟨_, hsl⟩ := hr.sl hv
  obtain ⟨g2, cap2, e2⟩ : ∃ g2 : Option Addr, ∃ cap2, out[k].v = .slice g2 out[k].rs.length cap2 ∧ out[k].rs.length ≤ cap2 := by
    rcases hr.own.2 with ⟨e, z⟩ | ⟨g, cap, cur, e, _, _, z, _⟩
    · exact ⟨none, 0, by rw [e, z], by omega⟩
    · exact ⟨_, _, e, z⟩
  rw [hv] at e2
  obtain ⟨e2, e3⟩ := e2
  cases e2
  rw [List.getElem_map]
  refine ⟨g, 0, rfl, ?_, ?_, ?_⟩
  all_goals rw [Nat.zero_add]
  · exact ⟨by rw [show k * 3 = k * 3 + 0 from rfl, h2 0 (by omega)]; rfl, by have := hr.cl; simp only [SM.sch]; omega⟩
  · show w.cell? _ = _; rw [h2 1 (by omega)]; rfl
  · refine ⟨_, _, by rw [h2 2 (by omega)]; simp only [SM.enc, SM.sch, List.length_map]; rw [hv]; rfl, by simpa [SM.sch] using e3, by have := hr.len; unfold Fit; simp only [SM.sch, List.length_map]; omega, hsl⟩
theorem bs_map (l : List ByteArray) : strV (l.map (fun s => s.data.toList)) = l.map Value.string := by
  unfold strV
  rw [List.map_map]
  apply List.map_congr_left
  intro s _
  show Value.string (bs s.data.toList) = _
  rw [← bs_of]
theorem countB_len (l sep : St) (h : 1 ≤ sep.length) : Lib.countB (bs l) (bs sep) + 1 = (Lib.split l sep).length := by
  have e := Lib.splitB_data (bs sep) 0 (Lib.countB (bs l) (bs sep)) (bs l)
  have e2 := Lib.splitB_all (bs sep) (by rw [bs_size]; exact h) 0 _ (bs l) rfl
  have e3 := congrArg List.length e
  rw [List.length_map, e2, bs_data, bs_data] at e3
  rw [e3]
  unfold Lib.split Lib.countB
  rw [bs_data, bs_data]
theorem split_ne (l sep : St) : 1 ≤ (Lib.split l sep).length := by
  unfold Lib.split
  cases Lib.count l sep with
  | zero => simp [Lib.splitK]
  | succ k => unfold Lib.splitK; split <;> simp

theorem splitK_le (sep : St) (save : Nat) (hs : save = 0) : ∀ (k : Nat) (l : St), ∀ s ∈ Lib.splitK sep save k l, s.length ≤ l.length
  | 0, l, s, h => by simp [Lib.splitK] at h; rw [h]; exact Nat.le_refl _
  | k + 1, l, s, h => by
    unfold Lib.splitK at h
    split at h
    · simp at h; rw [h]; exact Nat.le_refl _
    · rcases List.mem_cons.1 h with q | q
      · rw [q, List.length_take]; exact Nat.min_le_right _ _
      · have := splitK_le sep save hs k _ s q
        rw [List.length_drop] at this; omega
theorem split_le (l sep : St) : ∀ s ∈ Lib.split l sep, s.length ≤ l.length := splitK_le sep 0 rfl _ l
theorem split_len (l sep : St) (h : 1 ≤ sep.length) : (Lib.split l sep).length ≤ l.length + 1 := by
  rw [← countB_len l sep h]
  have := Lib.countB_le (bs sep) (by rw [bs_size]; exact h) _ (bs l) (Nat.le_refl _)
  rw [bs_size] at this
  omega

end Go.Proofs.YtbpkndiecomggaaGreatDoor

set_option linter.unusedVariables false
set_option linter.unusedSimpArgs false
namespace Go.Proofs.YtbpkndiecomggaaGreatDoor
open Go.RowKit
end Go.Proofs.YtbpkndiecomggaaGreatDoor

set_option linter.unusedVariables false
set_option linter.unusedSimpArgs false
namespace Go.Proofs.YtbpkndiecomggaaGreatDoor
open Go.RowKit
open Classical
def sndN : Nat → Code → Code
  | 0, c => c
  | n + 1, .seq _ b => sndN n b
  | _, c => c
def cutAt : Nat → Code → Code → Code
  | 0, _, T => T
  | n + 1, .seq a b, T => .seq a (cutAt n b T)
  | _, c, _ => c
theorem cut_eq : ∀ n c, cutAt n c (sndN n c) = c
  | 0, c => rfl
  | n + 1, c => by
    cases c
    case seq a b => unfold cutAt sndN; rw [cut_eq n b]
    all_goals rfl
def tl (n : Nat) (f : Func) : Code := (f.body.map (sndN n)).getD .skip
theorem wp_cut (n : Nat) {P : Program} {c : Code} {Q : Exit → Act → World → Prop} {a : Act} {w : World} (h : ∀ T, Hid (T = sndN n c) → (cutAt n c T).wp P Q a w) : c.wp P Q a w := by
  have := h _ (Lib.hid rfl)
  rwa [cut_eq] at this
theorem wp_at {P : Program} {T c c' : Code} {Q : Exit → Act → World → Prop} {a : Act} {w : World} (hT : Hid (T = c)) (he : c' = c) (h : c'.wp P Q a w) : T.wp P Q a w := by
  rw [hT.out, ← he]; exact h


def propsL : List St := [[114, 101, 103], [99, 111, 109, 112, 97, 116, 105, 98, 108, 101], [115, 116, 97, 116, 117, 115], [99, 108, 111, 99, 107, 115], [35, 99, 101, 108, 108, 115], [112], [113], [108, 97, 98, 101, 108], [118, 97, 108, 117, 101]]
theorem props_ok : propsL.all (fun s => propOk s && decide (s.length ≤ 31)) = true := by kernel_rfl
theorem prop_ok {s : St} (h : s ∈ propsL) : propOk s = true ∧ s.length ≤ 31 := by
  have := List.all_eq_true.1 props_ok s h
  simpa using this
theorem strV_get {l : List St} {k : Nat} (h : k < l.length) (h2 : k < (strV l).length) : (strV l)[k] = .string (bs l[k]) := by simp [strV]
theorem property_any (w : World) (b len : Nat) (h : Tp w b len) :
    Calls Tryz.prog 60 #[.pointer (some ⟨b, 0, none⟩)] w fun e w' => ∃ s, s ∈ propsL ∧ e = .returned (.string (bs s)) ∧ Mv b len w w' := by
  have H := Lib.hid h
  have hb := h.has
  clear h
  go_enter Tryz.func60, Tryz.ntmps60
  go_wp2_with fail
  have RX : Hid (Row (w.alloc (.cells #[.string ⟨#[114, 101, 103]⟩, .string ⟨#[99, 111, 109, 112, 97, 116, 105, 98, 108, 101]⟩, .string ⟨#[115, 116, 97, 116, 117, 115]⟩, .string ⟨#[99, 108, 111, 99, 107, 115]⟩, .string ⟨#[35, 99, 101, 108, 108, 115]⟩, .string ⟨#[112]⟩, .string ⟨#[113]⟩, .string ⟨#[108, 97, 98, 101, 108]⟩, .string ⟨#[118, 97, 108, 117, 101]⟩] 9)) w.heap.size 9 (strV propsL)) := Lib.hid (Row.new w #[.string ⟨#[114, 101, 103]⟩, .string ⟨#[99, 111, 109, 112, 97, 116, 105, 98, 108, 101]⟩, .string ⟨#[115, 116, 97, 116, 117, 115]⟩, .string ⟨#[99, 108, 111, 99, 107, 115]⟩, .string ⟨#[35, 99, 101, 108, 108, 115]⟩, .string ⟨#[112]⟩, .string ⟨#[113]⟩, .string ⟨#[108, 97, 98, 101, 108]⟩, .string ⟨#[118, 97, 108, 117, 101]⟩] 9)
  obtain ⟨W, hW⟩ : ∃ W : World, Hid (W = w.alloc (.cells #[.string ⟨#[114, 101, 103]⟩, .string ⟨#[99, 111, 109, 112, 97, 116, 105, 98, 108, 101]⟩, .string ⟨#[115, 116, 97, 116, 117, 115]⟩, .string ⟨#[99, 108, 111, 99, 107, 115]⟩, .string ⟨#[35, 99, 101, 108, 108, 115]⟩, .string ⟨#[112]⟩, .string ⟨#[113]⟩, .string ⟨#[108, 97, 98, 101, 108]⟩, .string ⟨#[118, 97, 108, 117, 101]⟩] 9)) := ⟨_, Lib.hid rfl⟩
  have GW : Hid (Gr w W) := Lib.hid (by rw [hW.out]; exact (Gr.refl _).alloc _)
  rw [← hW.out] at RX ⊢
  clear hW
  refine (nM_any W b len 9 (H.out.gr GW.out) (by omega) (by omega)).mono ?_
  rintro e w1 ⟨x, rfl, ⟨x0, x1⟩, hm⟩
  have MV := Lib.hid ((Mv.of_gr H.out GW.out).trans H.out.has hm)
  have RY := Lib.hid (hm.row RX.out (by omega))
  obtain ⟨k, rfl⟩ := Int.eq_ofNat_of_zero_le x0
  have hk : k < propsL.length := by simp [propsL]; omega
  have c0 := RY.out.cell k (by simpa [strV] using hk)
  rw [strV_get hk] at c0
  have hh := has_of_cell c0
  have k9 : (k : Int) < 9 := by omega
  have MEM := Lib.hid (List.getElem_mem hk)
  obtain ⟨s, hs⟩ : ∃ s, propsL[k] = s := ⟨_, rfl⟩
  rw [hs] at c0 MEM
  clear hm hs x0 x1
  go_wp2_with fail
  go_ret
  exact ⟨s, MEM.out, rfl, MV.out⟩
def NmR (r : Rul) : Prop := r.name ∈ propsL ∧ r.count ≤ 2
def GivesRul (b len : Nat) (w : World) (e : Ending) (w' : World) : Prop := ∃ x : RM, e = .returned (.agg #[.string (bs x.r.name), .bool x.r.req, .int .i64 x.r.kind, .int .i64 x.r.low, .int .i64 x.r.high, .int .i64 x.r.count, .slice x.a x.r.words.length x.c]) ∧ ruleP x.r = true ∧ NmR x.r ∧ x.r.words.length ≤ x.c ∧ (∀ A, x.a = some A → w.heap.size ≤ A.block) ∧ WAt w' x.a x.r.words ∧ Mv b len w w'
def wordsL : List St := [[111, 107, 97, 121], [100, 105, 115, 97, 98, 108, 101, 100], [97], [102, 105, 114, 115, 116]]
theorem wordsL_ok : wordsL.all visP = true := by kernel_rfl
theorem rulEnd {W w : World} {b len RB NB : Nat} {x : RM} {s1 s4 s5 s6 s7 s8 s9 s10 s11 s12 s13 s14 s15 s16 s17 s18 s19 s20 s21 s22 s23 s24 s25 s26 s27 s28 s29 s30 s31 s32 s33 s34 s35 s36 s37 s38 s39 s40 s41 s42 s43 : Value}
    (hro : Row W RB 51 [.string ⟨#[]⟩, .bool false, .int .i64 0, .int .i64 0, .int .i64 0, .int .i64 0, .slice none 0 0]) (hbox : Row W NB 51 x.enc) (hs : w.heap.size ≤ RB) (hm : Mv b len w W)
    (hx : ruleP x.r = true ∧ NmR x.r ∧ x.r.words.length ≤ x.c) (ha : ∀ A, x.a = some A → w.heap.size ≤ A.block) (hw : WAt W x.a x.r.words) :
    (tl 3 Tryz.f34).wp Tryz.prog (bodyPost Tryz.prog Tryz.f34 (GivesRul b len w)) { tmps := #[.pointer (some ⟨b, 0, none⟩), s1, .pointer (some ⟨RB, 0, none⟩), .pointer (some ⟨NB, 0, none⟩), s4, s5, s6, s7, s8, s9, s10, s11, s12, s13, s14, s15, s16, s17, s18, s19, s20, s21, s22, s23, s24, s25, s26, s27, s28, s29, s30, s31, s32, s33, s34, s35, s36, s37, s38, s39, s40, s41, s42, s43], defers := [] } W := by
  have RO := Lib.hid hro
  have BX := Lib.hid hbox
  have HM := Lib.hid hm
  have HX := Lib.hid hx
  have HA := Lib.hid ha
  have r0 : W.cell? ⟨RB, 0, none⟩ = some (.string ⟨#[]⟩) := RO.out.cell 0 (by simp)
  have r1 : W.cell? ⟨RB, 1, none⟩ = some (.bool false) := RO.out.cell 1 (by simp)
  have r2 : W.cell? ⟨RB, 2, none⟩ = some (.int .i64 0) := RO.out.cell 2 (by simp)
  have r3 : W.cell? ⟨RB, 3, none⟩ = some (.int .i64 0) := RO.out.cell 3 (by simp)
  have r4 : W.cell? ⟨RB, 4, none⟩ = some (.int .i64 0) := RO.out.cell 4 (by simp)
  have r5 : W.cell? ⟨RB, 5, none⟩ = some (.int .i64 0) := RO.out.cell 5 (by simp)
  have r6 : W.cell? ⟨RB, 6, none⟩ = some (.slice none 0 0) := RO.out.cell 6 (by simp)
  have q0 := RO.out.free 0
  have q1 := RO.out.free 1
  have q2 := RO.out.free 2
  have q3 := RO.out.free 3
  have q4 := RO.out.free 4
  have q5 := RO.out.free 5
  have q6 := RO.out.free 6
  have hh := has_of_cell r0
  have n0 : W.cell? ⟨NB, 0, none⟩ = some (.string (bs x.r.name)) := BX.out.cell 0 (by simp [RM.enc])
  have n1 : W.cell? ⟨NB, 1, none⟩ = some (.bool x.r.req) := BX.out.cell 1 (by simp [RM.enc])
  have n2 : W.cell? ⟨NB, 2, none⟩ = some (.int .i64 x.r.kind) := BX.out.cell 2 (by simp [RM.enc])
  have n3 : W.cell? ⟨NB, 3, none⟩ = some (.int .i64 x.r.low) := BX.out.cell 3 (by simp [RM.enc])
  have n4 : W.cell? ⟨NB, 4, none⟩ = some (.int .i64 x.r.high) := BX.out.cell 4 (by simp [RM.enc])
  have n5 : W.cell? ⟨NB, 5, none⟩ = some (.int .i64 x.r.count) := BX.out.cell 5 (by simp [RM.enc])
  have n6 : W.cell? ⟨NB, 6, none⟩ = some (.slice x.a x.r.words.length x.c) := BX.out.cell 6 (by simp [RM.enc])
  have hn := has_of_cell n0
  have HS := Lib.hid hs
  have WW : Hid (∀ (v0 v1 v2 v3 v4 v5 v6 : Value), WAt (((((((W.setCell ⟨RB, 0, none⟩ v0).setCell ⟨RB, 1, none⟩ v1).setCell ⟨RB, 2, none⟩ v2).setCell ⟨RB, 3, none⟩ v3).setCell ⟨RB, 4, none⟩ v4).setCell ⟨RB, 5, none⟩ v5).setCell ⟨RB, 6, none⟩ v6) x.a x.r.words) := Lib.hid (by
    intro v0 v1 v2 v3 v4 v5 v6
    rcases hw with q | ⟨B, o, vs, h1, h2, h3⟩
    · exact .inl q
    · have ne : RB ≠ B := RO.out.ty.apart h2.ty (by decide)
      exact .inr ⟨B, o, vs, h1, ((((((h2.oth ne).oth ne).oth ne).oth ne).oth ne).oth ne).oth ne, h3⟩)
  refine wp_code_eq (c := (Code.region 12 (regIn 12 Tryz.f34) false).seq .ret) (by kernel_rfl) ?_
  simp only [regIn, Tryz.f34, regOps, Option.bind_some, Option.getD_some, Nat.beq, cond_true, cond_false]
  clear hro hbox hs hm hx hw ha
  go_wp2_with fail
  have RR := ((((((RO.out.set 0 (.string (bs x.r.name))).set 1 (.bool x.r.req)).set 2 (.int .i64 x.r.kind)).set 3 (.int .i64 x.r.low)).set 4 (.int .i64 x.r.high)).set 5 (.int .i64 x.r.count)).set 6 (.slice x.a x.r.words.length x.c)
  have z0 := RR.cell 0 (by simp)
  have z1 := RR.cell 1 (by simp)
  have z2 := RR.cell 2 (by simp)
  have z3 := RR.cell 3 (by simp)
  have z4 := RR.cell 4 (by simp)
  have z5 := RR.cell 5 (by simp)
  have z6 := RR.cell 6 (by simp)
  simp only [List.set_cons_zero, List.set_cons_succ, List.getElem_cons_succ, List.getElem_cons_zero] at z0 z1 z2 z3 z4 z5 z6
  refine bodyPost_ret (v := .agg #[.string (bs x.r.name), .bool x.r.req, .int .i64 x.r.kind, .int .i64 x.r.low, .int .i64 x.r.high, .int .i64 x.r.count, .slice x.a x.r.words.length x.c]) (by simp [results, Tryz.results34, go_sem, z0, z1, z2, z3, z4, z5, z6]) rfl ?_
  exact ⟨x, rfl, HX.out.1, HX.out.2.1, HX.out.2.2, HA.out, WW.out _ _ _ _ _ _ _, (((((((HM.out.setc HS.out).setc HS.out).setc HS.out).setc HS.out).setc HS.out).setc HS.out).setc HS.out)⟩
end Go.Proofs.YtbpkndiecomggaaGreatDoor
set_option linter.unusedVariables false
set_option linter.unusedSimpArgs false
namespace Go.Proofs.YtbpkndiecomggaaGreatDoor
open Go.RowKit
open Classical
def picks5 : List Int := [0, 1, 100, 2147483648, 4294967195]
def Fin5 (wr : World) (b len NB : Nat) (vs : List Value) (lo : Int) (w : World) : Prop :=
  ∃ (w1 : World) (x : Int), w = w1.setCell ⟨NB, 4, none⟩ (.int .i64 (lo + x)) ∧ 0 ≤ x ∧ x ≤ 4294967195 ∧ Mv b len wr w1 ∧ Row w1 NB 51 vs
def gr5F (wr : World) (b len NB : Nat) (vs : List Value) (lo : Int) (t20 t21 t22 t23 t24 t25 t26 : Value) (d : Array Bool) (w : World) : Prop :=
  (d.getD 7 false = false → Mv b len wr w ∧ Row w NB 51 vs) ∧ (d.getD 0 false = true → t20 = .pointer (some ⟨NB, 3, none⟩)) ∧
  (d.getD 1 false = true → t21 = .int .i64 lo) ∧
  (d.getD 2 false = true → t22 = .pointer (some ⟨b, 0, none⟩)) ∧
  (d.getD 3 false = true → (d.getD 7 false = false → (∃ B, t23 = .slice (some ⟨B, 0, none⟩) 5 5 ∧ B ≠ b ∧ Row w B 3 (nums picks5)))) ∧
  (d.getD 4 false = true → ∃ x : Int, t24 = .int .i64 x ∧ 0 ≤ x ∧ x ≤ 4294967195) ∧
  (d.getD 5 false = true → ∃ x : Int, t25 = .int .i64 (lo + x) ∧ 0 ≤ x ∧ x ≤ 4294967195) ∧
  (d.getD 6 false = true → t26 = .pointer (some ⟨NB, 4, none⟩)) ∧
  (d.getD 7 false = true → ((∀ j, j < 7 → d.getD j false = true) ∧ Fin5 wr b len NB vs lo w))
def gr5A (b NB : Nat) (t20 t21 t22 t23 t24 t25 t26 s1 s2 s4 s5 s6 s7 s8 s9 s10 s11 s12 s13 s14 s15 s16 s17 s18 s19 s27 s28 s29 s30 s31 s32 s33 s34 s35 s36 s37 s38 s39 s40 s41 s42 s43 : Value) : Act := { tmps := #[.pointer (some ⟨b, 0, none⟩), s1, s2, .pointer (some ⟨NB, 0, none⟩), s4, s5, s6, s7, s8, s9, s10, s11, s12, s13, s14, s15, s16, s17, s18, s19, t20, t21, t22, t23, t24, t25, t26, s27, s28, s29, s30, s31, s32, s33, s34, s35, s36, s37, s38, s39, s40, s41, s42, s43], defers := [] }
theorem gr5 {Q : Exit → Act → World → Prop} {wr : World} {b len NB : Nat} {vs : List Value} {lo : Int}  {s1 s2 s4 s5 s6 s7 s8 s9 s10 s11 s12 s13 s14 s15 s16 s17 s18 s19 s20 s21 s22 s23 s24 s25 s26 s27 s28 s29 s30 s31 s32 s33 s34 s35 s36 s37 s38 s39 s40 s41 s42 s43 : Value} (htp : Tp wr b len) (hrow : Row wr NB 51 vs) (h3 : vs[3]? = some (.int .i64 lo)) (hlen : vs.length = 7) (hlo : 0 ≤ lo ∧ lo ≤ 100) (hne : NB ≠ b)
    (h' : ∀ t20 t21 t22 t23 t24 t25 t26 wx, Fin5 wr b len NB vs lo wx → Q .normal (gr5A b NB t20 t21 t22 t23 t24 t25 t26 s1 s2 s4 s5 s6 s7 s8 s9 s10 s11 s12 s13 s14 s15 s16 s17 s18 s19 s27 s28 s29 s30 s31 s32 s33 s34 s35 s36 s37 s38 s39 s40 s41 s42 s43) wx) :
    (Code.region 5 (regIn 5 Tryz.f34) true).wp Tryz.prog Q { tmps := #[.pointer (some ⟨b, 0, none⟩), s1, s2, .pointer (some ⟨NB, 0, none⟩), s4, s5, s6, s7, s8, s9, s10, s11, s12, s13, s14, s15, s16, s17, s18, s19, s20, s21, s22, s23, s24, s25, s26, s27, s28, s29, s30, s31, s32, s33, s34, s35, s36, s37, s38, s39, s40, s41, s42, s43], defers := [] } wr := by
  have HTP := PLift.up htp
  have HRW := PLift.up hrow
  have HV3 := PLift.up h3
  have HL7 := PLift.up hlen
  have HLO := PLift.up hlo
  have HNB := PLift.up (And.intro hne trivial)
  have HBS := PLift.up htp.has
  clear htp hrow h3 hlen hlo hne
  simp only [regIn, Tryz.f34, regOps, Option.bind_some, Option.getD_some, Nat.beq, cond_true, cond_false]
  refine wp_region_steps (fun done a w => ∃ t20 t21 t22 t23 t24 t25 t26, a = gr5A b NB t20 t21 t22 t23 t24 t25 t26 s1 s2 s4 s5 s6 s7 s8 s9 s10 s11 s12 s13 s14 s15 s16 s17 s18 s19 s27 s28 s29 s30 s31 s32 s33 s34 s35 s36 s37 s38 s39 s40 s41 s42 s43 ∧ gr5F wr b len NB vs lo t20 t21 t22 t23 t24 t25 t26 done w) (by kernel_rfl) (by kernel_rfl) ?_ ⟨?_, ?_, ?_, ?_, ?_, ?_, ?_, ?_, trivial⟩ ?_
  · exact ⟨s20, s21, s22, s23, s24, s25, s26, rfl, fun _ => ⟨Mv.of_gr HTP.down (Gr.refl _).drew, HRW.down.drew⟩, fun q => absurd q (by decide), fun q => absurd q (by decide), fun q => absurd q (by decide), fun q => absurd q (by decide), fun q => absurd q (by decide), fun q => absurd q (by decide), fun q => absurd q (by decide), fun q => absurd q (by decide)⟩
  · rintro done a w hsz hnot hdep ⟨t20, t21, t22, t23, t24, t25, t26, rfl, gw, f0, f1, f2, f3, f4, f5, f6, f7⟩ K hK
    have hn : ¬ done.getD 0 false = true := by rw [getD_both hnot]; decide
    have n7 : done.getD 7 false = false := by
      cases e : done.getD 7 false with
      | false => rfl
      | true => exact absurd ((f7 e).1 0 (by decide)) hn
    replace gw := gw n7
    have HK := PLift.up hK
    clear hK 
    simp only [gr5A]
    go_simp
    have gg : Gr w w := Gr.refl _
    refine HK.down _ _ ⟨_, _, _, _, _, _, _, rfl, fun _ => gw, fun _ => rfl, kp f1, kp f2, fun q q2 => (let ⟨B, e, h2, h3⟩ := f3 (done_old q (by decide)) n7; ⟨B, e, h2, h3.gr gg⟩), kp f4, kp f5, kp f6, fun q => absurd ((f7 (done_old q (by decide))).1 0 (by decide)) hn⟩
  · rintro done a w hsz hnot hdep ⟨t20, t21, t22, t23, t24, t25, t26, rfl, gw, f0, f1, f2, f3, f4, f5, f6, f7⟩ K hK
    have hn : ¬ done.getD 1 false = true := by rw [getD_both hnot]; decide
    have d0 := hdep 0 (by kernel_rfl)
    obtain rfl := f0 d0
    have n7 : done.getD 7 false = false := by
      cases e : done.getD 7 false with
      | false => rfl
      | true => exact absurd ((f7 e).1 1 (by decide)) hn
    replace gw := gw n7
    have c3 : w.cell? ⟨NB, 3, none⟩ = some (.int .i64 lo) := by rw [gw.2.cell 3 (List.getElem?_eq_some_iff.1 HV3.down).1]; exact congrArg some (List.getElem?_eq_some_iff.1 HV3.down).2
    have ch := has_of_cell c3
    have HK := PLift.up hK
    clear hK d0
    simp only [gr5A]
    go_simp
    have gg : Gr w w := Gr.refl _
    refine HK.down _ _ ⟨_, _, _, _, _, _, _, rfl, fun _ => gw, kp f0, fun _ => rfl, kp f2, fun q q2 => (let ⟨B, e, h2, h3⟩ := f3 (done_old q (by decide)) n7; ⟨B, e, h2, h3.gr gg⟩), kp f4, kp f5, kp f6, fun q => absurd ((f7 (done_old q (by decide))).1 1 (by decide)) hn⟩
  · rintro done a w hsz hnot hdep ⟨t20, t21, t22, t23, t24, t25, t26, rfl, gw, f0, f1, f2, f3, f4, f5, f6, f7⟩ K hK
    have hn : ¬ done.getD 2 false = true := by rw [getD_both hnot]; decide
    have n7 : done.getD 7 false = false := by
      cases e : done.getD 7 false with
      | false => rfl
      | true => exact absurd ((f7 e).1 2 (by decide)) hn
    replace gw := gw n7
    have HK := PLift.up hK
    clear hK 
    simp only [gr5A]
    go_simp
    have gg : Gr w w := Gr.refl _
    refine HK.down _ _ ⟨_, _, _, _, _, _, _, rfl, fun _ => gw, kp f0, kp f1, fun _ => rfl, fun q q2 => (let ⟨B, e, h2, h3⟩ := f3 (done_old q (by decide)) n7; ⟨B, e, h2, h3.gr gg⟩), kp f4, kp f5, kp f6, fun q => absurd ((f7 (done_old q (by decide))).1 2 (by decide)) hn⟩
  · rintro done a w hsz hnot hdep ⟨t20, t21, t22, t23, t24, t25, t26, rfl, gw, f0, f1, f2, f3, f4, f5, f6, f7⟩ K hK
    have hn : ¬ done.getD 3 false = true := by rw [getD_both hnot]; decide
    have n7 : done.getD 7 false = false := by
      cases e : done.getD 7 false with
      | false => rfl
      | true => exact absurd ((f7 e).1 3 (by decide)) hn
    replace gw := gw n7
    have HNE := PLift.up (show w.heap.size ≠ b by have := (gw.1.tp HTP.down).has; omega)
    have HK := PLift.up hK
    clear hK 
    simp only [gr5A]
    go_simp
    have gg : Gr w (w.alloc (.cells #[.int .i64 0, .int .i64 1, .int .i64 100, .int .i64 2147483648, .int .i64 4294967195] 3)) := (Gr.refl _).alloc _
    refine HK.down _ _ ⟨_, _, _, _, _, _, _, rfl, fun _ => ⟨gw.1.gr gg, gw.2.gr gg⟩, kp f0, kp f1, kp f2, ?_, kp f4, kp f5, kp f6, fun q => absurd ((f7 (done_old q (by decide))).1 3 (by decide)) hn⟩
    exact fun _ _ => ⟨_, rfl, HNE.down, Row.new w _ _⟩
  · rintro done a w hsz hnot hdep ⟨t20, t21, t22, t23, t24, t25, t26, rfl, gw, f0, f1, f2, f3, f4, f5, f6, f7⟩ K hK
    have hn : ¬ done.getD 4 false = true := by rw [getD_both hnot]; decide
    have d2 := hdep 2 (by kernel_rfl)
    have d3 := hdep 3 (by kernel_rfl)
    obtain rfl := f2 d2
    have n7 : done.getD 7 false = false := by
      cases e : done.getD 7 false with
      | false => rfl
      | true => exact absurd ((f7 e).1 4 (by decide)) hn
    replace gw := gw n7
    obtain ⟨B, rfl, h2, h3⟩ := f3 d3 n7
    have HB := PLift.up h2
    have HR := PLift.up h3
    have TP := PLift.up (gw.1.tp HTP.down)
    have GW := PLift.up gw
    clear h2 h3
    have HK := PLift.up hK
    clear hK d2
    simp only [gr5A]
    go_simp
    refine (pickM_any w b len TP.down B 5 (fun x => 0 ≤ x ∧ x ≤ 4294967195) (by omega) (by omega) HB.down (fun k hk => ?_)).mono ?_
    · have hk2 : k < picks5.length := hk
      refine ⟨_, HR.down.iat k hk2, ?_⟩
      have : ∀ z ∈ picks5, 0 ≤ z ∧ z ≤ 4294967195 := by decide
      exact this _ (List.getElem_mem hk2)
    rintro e w2 ⟨x, rfl, ⟨x0, x1⟩, hm⟩
    (try go_simp)
    refine HK.down _ _ ⟨_, _, _, _, _, _, _, rfl, fun _ => ⟨GW.down.1.trans HBS.down hm, hm.row GW.down.2 HNB.down.1⟩, kp f0, kp f1, kp f2, fun _ _ => ⟨B, rfl, HB.down, hm.row HR.down HB.down⟩, ?_, kp f5, kp f6, fun q => absurd ((f7 (done_old q (by decide))).1 4 (by decide)) hn⟩
    exact fun _ => ⟨x, rfl, x0, x1⟩
  · rintro done a w hsz hnot hdep ⟨t20, t21, t22, t23, t24, t25, t26, rfl, gw, f0, f1, f2, f3, f4, f5, f6, f7⟩ K hK
    have hn : ¬ done.getD 5 false = true := by rw [getD_both hnot]; decide
    have d1 := hdep 1 (by kernel_rfl)
    have d4 := hdep 4 (by kernel_rfl)
    obtain rfl := f1 d1
    have n7 : done.getD 7 false = false := by
      cases e : done.getD 7 false with
      | false => rfl
      | true => exact absurd ((f7 e).1 5 (by decide)) hn
    replace gw := gw n7
    obtain ⟨x, rfl, x0, x1⟩ := f4 d4
    have hlo := HLO.down
    have HK := PLift.up hK
    clear hK d1
    simp only [gr5A]
    go_simp
    rw [Go.IntWalk.i64_in (lo + x) (by omega)]
    have gg : Gr w w := Gr.refl _
    refine HK.down _ _ ⟨_, _, _, _, _, _, _, rfl, fun _ => gw, kp f0, kp f1, kp f2, fun q q2 => (let ⟨B, e, h2, h3⟩ := f3 (done_old q (by decide)) n7; ⟨B, e, h2, h3.gr gg⟩), fun _ => ⟨x, rfl, x0, x1⟩, ?_, kp f6, fun q => absurd ((f7 (done_old q (by decide))).1 5 (by decide)) hn⟩
    exact fun _ => ⟨x, rfl, x0, x1⟩
  · rintro done a w hsz hnot hdep ⟨t20, t21, t22, t23, t24, t25, t26, rfl, gw, f0, f1, f2, f3, f4, f5, f6, f7⟩ K hK
    have hn : ¬ done.getD 6 false = true := by rw [getD_both hnot]; decide
    have n7 : done.getD 7 false = false := by
      cases e : done.getD 7 false with
      | false => rfl
      | true => exact absurd ((f7 e).1 6 (by decide)) hn
    replace gw := gw n7
    have HK := PLift.up hK
    clear hK 
    simp only [gr5A]
    go_simp
    have gg : Gr w w := Gr.refl _
    refine HK.down _ _ ⟨_, _, _, _, _, _, _, rfl, fun _ => gw, kp f0, kp f1, kp f2, fun q q2 => (let ⟨B, e, h2, h3⟩ := f3 (done_old q (by decide)) n7; ⟨B, e, h2, h3.gr gg⟩), kp f4, kp f5, fun _ => rfl, fun q => absurd ((f7 (done_old q (by decide))).1 6 (by decide)) hn⟩
  · rintro done a w hsz hnot hdep ⟨t20, t21, t22, t23, t24, t25, t26, rfl, gw, f0, f1, f2, f3, f4, f5, f6, f7⟩ K hK
    have hn : ¬ done.getD 7 false = true := by rw [getD_both hnot]; decide
    have d0 := hdep 0 (by kernel_rfl)
    have d1 := hdep 1 (by kernel_rfl)
    have d2 := hdep 2 (by kernel_rfl)
    have d3 := hdep 3 (by kernel_rfl)
    have d4 := hdep 4 (by kernel_rfl)
    have d5 := hdep 5 (by kernel_rfl)
    have d6 := hdep 6 (by kernel_rfl)
    obtain rfl := f0 d0
    obtain rfl := f1 d1
    obtain rfl := f2 d2
    obtain rfl := f6 d6
    obtain ⟨x, rfl, x0, x1⟩ := f5 d5
    have n7 := getD_both hnot
    have g1 := gw n7
    have cf := g1.2.free 4
    have c4 : w.cell? ⟨NB, 4, none⟩ = some (vs[4]'(by rw [HL7.down]; omega)) := g1.2.cell 4 (by rw [HL7.down]; omega)
    have ch := has_of_cell c4
    have FN := PLift.up (show Fin5 wr b len NB vs lo (w.setCell ⟨NB, 4, none⟩ (.int .i64 (lo + x))) from ⟨w, x, rfl, x0, x1, g1.1, g1.2⟩)
    have DD := PLift.up (show ∀ j, j < 7 → done.getD j false = true from by intro j hj; match j, hj with | 0, _ => exact d0 | 1, _ => exact d1 | 2, _ => exact d2 | 3, _ => exact d3 | 4, _ => exact d4 | 5, _ => exact d5 | 6, _ => exact d6)
    have HK := PLift.up hK
    clear hK d0 d1 d2 d6
    simp only [gr5A]
    go_simp
    refine HK.down _ _ ⟨_, _, _, _, _, _, _, rfl, fun q => absurd q (by rw [getD_set_same (by rw [hsz]; decide)]; decide), kp f0, kp f1, kp f2, fun _ q2 => absurd q2 (by rw [getD_set_same (by rw [hsz]; decide)]; decide), kp f4, fun _ => ⟨x, rfl, x0, x1⟩, kp f6, ?_⟩
    exact fun _ => ⟨fun j hj => getD_set_true (DD.down j hj), FN.down⟩
  · rintro done a w hall ⟨t20, t21, t22, t23, t24, t25, t26, rfl, gw, f0, f1, f2, f3, f4, f5, f6, f7⟩
    exact h' _ _ _ _ _ _ _ w (f7 (hall 7 (by decide))).2
theorem good12 {nm : St} {req : Bool} {kd : Int} (h : nm ∈ propsL) (hk : kd = 1 ∨ kd = 2) : ruleP ⟨nm, req, kd, 0, 0, 0, []⟩ = true := by
  have := (prop_ok h).1
  rcases hk with rfl | rfl <;> simp [ruleP, this, cntd]
theorem good56 {nm : St} {req : Bool} {kd ct : Int} (h : nm ∈ propsL) (hk : kd = 5 ∨ kd = 6) (h0 : 0 ≤ ct) (h1 : ct ≤ 2) : ruleP ⟨nm, req, kd, 0, 0, ct, []⟩ = true := by
  have := (prop_ok h).1
  rcases hk with rfl | rfl <;> simp [ruleP, this, cntd] <;> omega
theorem good3 {nm : St} {req : Bool} {lo hi ct : Int} (h : nm ∈ propsL) (a0 : 0 ≤ lo) (a1 : lo ≤ hi) (a2 : hi ≤ 4294967295) (h0 : 0 ≤ ct) (h1 : ct ≤ 2) : ruleP ⟨nm, req, 3, lo, hi, ct, []⟩ = true := by
  have := (prop_ok h).1
  simp [ruleP, this, cntd]
  omega
theorem good4 {nm : St} {req : Bool} {n : Nat} (h : nm ∈ propsL) (h0 : 1 ≤ n) (h1 : n ≤ 4) : ruleP ⟨nm, req, 4, 0, 0, 0, wordsL.take n⟩ = true := by
  have := (prop_ok h).1
  have hl : (wordsL.take n).length = n := by rw [List.length_take]; simp [wordsL]; omega
  have hv : (wordsL.take n).all visP = true := by
    rw [List.all_eq_true]
    intro s hs
    exact List.all_eq_true.1 wordsL_ok s (List.mem_of_mem_take hs)
  simp [ruleP, this, cntd, hl, -List.length_take, -List.all_eq_true]
  rw [hv]
  simp
  omega
theorem growRule_any (w : World) (b len : Nat) (h : Tp w b len) :
    Calls Tryz.prog 34 #[.pointer (some ⟨b, 0, none⟩)] w (GivesRul b len w) := by
  have H := Lib.hid h
  have hb := h.has
  clear h
  go_enter Tryz.func34, Tryz.ntmps34
  refine wp_cut 3 fun T hT => ?_
  simp only [cutAt]
  go_wp2_with fail
  have RR := Lib.hid (Row.new w #[.string ⟨#[]⟩, .bool false, .int .i64 0, .int .i64 0, .int .i64 0, .int .i64 0, .slice none 0 0] 51)
  obtain ⟨W, hW⟩ : ∃ W : World, Hid (W = w.alloc (.cells #[.string ⟨#[]⟩, .bool false, .int .i64 0, .int .i64 0, .int .i64 0, .int .i64 0, .slice none 0 0] 51)) := ⟨_, Lib.hid rfl⟩
  have GW : Hid (Gr w W) := Lib.hid (by rw [hW.out]; exact (Gr.refl _).alloc _)
  rw [← hW.out] at RR ⊢
  obtain ⟨RB, hRB⟩ : ∃ N : Nat, Hid (w.heap.size = N) := ⟨_, Lib.hid rfl⟩
  have RBL : Hid (w.heap.size ≤ RB) := Lib.hid (Nat.le_of_eq hRB.out)
  have RBN : Hid (RB ≠ b) := Lib.hid (by have := hRB.out; omega)
  rw [hRB.out] at RR ⊢
  clear hW hRB
  refine (property_any W b len (H.out.gr GW.out)).mono ?_
  rintro e w1 ⟨nm, hnm, rfl, hm⟩
  have M1 := Lib.hid ((Mv.of_gr H.out GW.out).trans H.out.has hm)
  have R1 := Lib.hid (hm.row RR.out RBN.out)
  have NM := Lib.hid hnm
  clear hm RR GW hnm
  go_wp2_with fail
  refine (nM_any w1 b len 3 (M1.out.tp H.out) (by omega) (by omega)).mono ?_
  rintro e w2 ⟨rq, rfl, ⟨_, _⟩, hm⟩
  have M2 := Lib.hid (M1.out.trans H.out.has hm)
  have R2 := Lib.hid (hm.row R1.out RBN.out)
  clear hm M1 R1
  go_wp2_with fail
  refine (rangeM_any w2 b len 1 6 (M2.out.tp H.out) (by omega) (by omega) (by omega)).mono ?_
  rintro e w3 ⟨kd, rfl, ⟨k0, k1⟩, hm⟩
  have M3 := Lib.hid (M2.out.trans H.out.has hm)
  have R3 := Lib.hid (hm.row R2.out RBN.out)
  clear hm M2 R2
  obtain ⟨req, hreq⟩ : ∃ q : Bool, (rq == 0) = q := ⟨_, rfl⟩
  rw [hreq]
  clear hreq
  have b3 : b < w3.heap.size := (M3.out.tp H.out).has
  by_cases h12 : kd = 1 ∨ kd = 2
  · have e3 : (kd == 3) = false := by rw [beq_eq_false_iff_ne]; omega
    have e4 : (kd == 4) = false := by rw [beq_eq_false_iff_ne]; omega
    have e5 : (kd == 5) = false := by rw [beq_eq_false_iff_ne]; omega
    have e6 : (kd == 6) = false := by rw [beq_eq_false_iff_ne]; omega
    have K12 := Lib.hid h12
    clear h12
    go_wp2_with fail
    refine wp_at hT (by kernel_rfl) (rulEnd (x := ⟨⟨nm, req, kd, 0, 0, 0, []⟩, none, 0⟩) (R3.out.alloc _) (Row.new w3 _ _) RBL.out (M3.out.alloc _) ⟨good12 NM.out K12.out, ⟨NM.out, by first | omega | (dsimp only; omega) | decide⟩, Nat.le_refl _⟩ (fun A q => by cases q) (.inl rfl))
  · have BX := Lib.hid (Row.new w3 #[.string (bs nm), .bool req, .int .i64 kd, .int .i64 0, .int .i64 0, .int .i64 0, .slice none 0 0] 51)
    have NBN : Hid (w3.heap.size ≠ b) := Lib.hid (by omega)
    have NBL : Hid (w.heap.size ≤ w3.heap.size) := Lib.hid M3.out.size
    have RNE : Hid (RB ≠ w3.heap.size) := Lib.hid (by have := R3.out.has; unfold Has at this; omega)
    have n3 := BX.out.cell 3 (by simp)
    have n5 := BX.out.cell 5 (by simp)
    have n6 := BX.out.cell 6 (by simp)
    have f3 := BX.out.free 3
    have f5 := BX.out.free 5
    have f6 := BX.out.free 6
    have RA := Lib.hid (R3.out.alloc (.cells #[.string (bs nm), .bool req, .int .i64 kd, .int .i64 0, .int .i64 0, .int .i64 0, .slice none 0 0] 51))
    have MA := Lib.hid (M3.out.alloc (.cells #[.string (bs nm), .bool req, .int .i64 kd, .int .i64 0, .int .i64 0, .int .i64 0, .slice none 0 0] 51))
    by_cases h56 : kd = 5 ∨ kd = 6
    · have e3 : (kd == 3) = false := by rw [beq_eq_false_iff_ne]; omega
      have e4 : (kd == 4) = false := by rw [beq_eq_false_iff_ne]; omega
      have K56 := Lib.hid h56
      by_cases h5 : kd = 5
      · have e5 : (kd == 5) = true := by rw [beq_iff_eq]; exact h5
        clear h12 h56 h5
        go_wp2_with fail
        obtain ⟨W4, hW4⟩ : ∃ W : World, Hid (W = w3.alloc (.cells #[.string (bs nm), .bool req, .int .i64 kd, .int .i64 0, .int .i64 0, .int .i64 0, .slice none 0 0] 51)) := ⟨_, Lib.hid rfl⟩
        rw [← hW4.out] at BX RA MA n3 n5 n6 f3 f5 f6 ⊢
        obtain ⟨NB, hNB⟩ : ∃ N : Nat, Hid (w3.heap.size = N) := ⟨_, Lib.hid rfl⟩
        rw [hNB.out] at BX NBN NBL RNE n3 n5 n6 f3 f5 f6 ⊢
        clear hW4 hNB
        refine (nM_any W4 b len 3 (MA.out.tp H.out) (by omega) (by omega)).mono ?_
        rintro e w5 ⟨ct, rfl, ⟨c0, c1⟩, hm⟩
        have M5 := Lib.hid (MA.out.trans H.out.has hm)
        have R5 := Lib.hid (hm.row RA.out RBN.out)
        have B5 := Lib.hid (hm.row BX.out NBN.out)
        have m5 : w5.cell? ⟨NB, 5, none⟩ = some (.int .i64 0) := B5.out.cell 5 (by simp)
        have g5 := B5.out.free 5
        have hh := has_of_cell m5
        clear hm BX RA MA n3 n5 n6 f3 f5 f6
        go_wp2_with fail
        refine wp_at hT (by kernel_rfl) (rulEnd (x := ⟨⟨nm, req, kd, 0, 0, ct, []⟩, none, 0⟩) (R5.out.oth RNE.out.symm) (B5.out.set 5 _) RBL.out (M5.out.setc NBL.out) ⟨good56 NM.out K56.out c0 (by omega), ⟨NM.out, by first | omega | (dsimp only; omega) | decide⟩, Nat.le_refl _⟩ (fun A q => by cases q) (.inl rfl))
      · have e5 : (kd == 5) = false := by rw [beq_eq_false_iff_ne]; omega
        have e6 : (kd == 6) = true := by rw [beq_iff_eq]; omega
        clear h12 h56 h5
        go_wp2_with fail
        obtain ⟨W4, hW4⟩ : ∃ W : World, Hid (W = w3.alloc (.cells #[.string (bs nm), .bool req, .int .i64 kd, .int .i64 0, .int .i64 0, .int .i64 0, .slice none 0 0] 51)) := ⟨_, Lib.hid rfl⟩
        rw [← hW4.out] at BX RA MA n3 n5 n6 f3 f5 f6 ⊢
        obtain ⟨NB, hNB⟩ : ∃ N : Nat, Hid (w3.heap.size = N) := ⟨_, Lib.hid rfl⟩
        rw [hNB.out] at BX NBN NBL RNE n3 n5 n6 f3 f5 f6 ⊢
        clear hW4 hNB
        refine (nM_any W4 b len 3 (MA.out.tp H.out) (by omega) (by omega)).mono ?_
        rintro e w5 ⟨ct, rfl, ⟨c0, c1⟩, hm⟩
        have M5 := Lib.hid (MA.out.trans H.out.has hm)
        have R5 := Lib.hid (hm.row RA.out RBN.out)
        have B5 := Lib.hid (hm.row BX.out NBN.out)
        have m5 : w5.cell? ⟨NB, 5, none⟩ = some (.int .i64 0) := B5.out.cell 5 (by simp)
        have g5 := B5.out.free 5
        have hh := has_of_cell m5
        clear hm BX RA MA n3 n5 n6 f3 f5 f6
        go_wp2_with fail
        refine wp_at hT (by kernel_rfl) (rulEnd (x := ⟨⟨nm, req, kd, 0, 0, ct, []⟩, none, 0⟩) (R5.out.oth RNE.out.symm) (B5.out.set 5 _) RBL.out (M5.out.setc NBL.out) ⟨good56 NM.out K56.out c0 (by omega), ⟨NM.out, by first | omega | (dsimp only; omega) | decide⟩, Nat.le_refl _⟩ (fun A q => by cases q) (.inl rfl))
    · by_cases h4 : kd = 4
      · have e3 : (kd == 3) = false := by rw [beq_eq_false_iff_ne]; omega
        have e4 : (kd == 4) = true := by rw [beq_iff_eq]; omega
        have e5 : (kd == 5) = false := by rw [beq_eq_false_iff_ne]; omega
        have e6 : (kd == 6) = false := by rw [beq_eq_false_iff_ne]; omega
        have K4 := Lib.hid h4
        clear h12 h56 h4
        obtain rfl := K4.out
        go_wp2_with fail
        obtain ⟨W4, hW4⟩ : ∃ W : World, Hid (W = w3.alloc (.cells #[.string (bs nm), .bool req, .int .i64 4, .int .i64 0, .int .i64 0, .int .i64 0, .slice none 0 0] 51)) := ⟨_, Lib.hid rfl⟩
        rw [← hW4.out] at BX RA MA n3 n5 n6 f3 f5 f6 ⊢
        obtain ⟨NB, hNB⟩ : ∃ N : Nat, Hid (w3.heap.size = N) := ⟨_, Lib.hid rfl⟩
        rw [hNB.out] at BX NBN NBL RNE n3 n5 n6 f3 f5 f6 ⊢
        have RW : Hid (Row (W4.alloc (.cells #[.string ⟨#[111, 107, 97, 121]⟩, .string ⟨#[100, 105, 115, 97, 98, 108, 101, 100]⟩, .string ⟨#[97]⟩, .string ⟨#[102, 105, 114, 115, 116]⟩] 9)) W4.heap.size 9 (strV wordsL)) := Lib.hid (Row.new W4 #[.string ⟨#[111, 107, 97, 121]⟩, .string ⟨#[100, 105, 115, 97, 98, 108, 101, 100]⟩, .string ⟨#[97]⟩, .string ⟨#[102, 105, 114, 115, 116]⟩] 9)
        have HZ : Hid (W4.heap.size = NB + 1) := Lib.hid (by rw [hW4.out, ← hNB.out]; simp)
        clear hW4 hNB
        rw [HZ.out] at RW
        obtain ⟨W5, hW5⟩ : ∃ W : World, Hid (W = W4.alloc (.cells #[.string ⟨#[111, 107, 97, 121]⟩, .string ⟨#[100, 105, 115, 97, 98, 108, 101, 100]⟩, .string ⟨#[97]⟩, .string ⟨#[102, 105, 114, 115, 116]⟩] 9)) := ⟨_, Lib.hid rfl⟩
        have G5 : Hid (Gr W4 W5) := Lib.hid (by rw [hW5.out]; exact (Gr.refl _).alloc _)
        rw [← hW5.out] at RW ⊢
        refine (rangeM_any W5 b len 1 4 ((MA.out.gr G5.out).tp H.out) (by omega) (by omega) (by omega)).mono ?_
        rintro e w5 ⟨ct, rfl, ⟨c0, c1⟩, hm⟩
        have M5 := Lib.hid ((MA.out.gr G5.out).trans H.out.has hm)
        have R5 := Lib.hid (hm.row (RA.out.gr G5.out) RBN.out)
        have B5 := Lib.hid (hm.row (BX.out.gr G5.out) NBN.out)
        have BB : Hid (NB + 1 ≠ b) := Lib.hid (by have := (MA.out.tp H.out).has; have := HZ.out; have := H.out.has; have := NBL.out; omega)
        have RW5 := Lib.hid (hm.row RW.out BB.out)
        obtain ⟨n, rfl⟩ : ∃ n : Nat, ct = n := ⟨ct.toNat, by omega⟩
        have m6 : w5.cell? ⟨NB, 6, none⟩ = some (.slice none 0 0) := B5.out.cell 6 (by simp)
        have g6 := B5.out.free 6
        have hh := has_of_cell m6
        have hn4 : (n : Int) ≤ 4 := by omega
        have hl : Hid ((wordsL.take n).length = n) := Lib.hid (by rw [List.length_take]; simp [wordsL]; omega)
        clear hm BX RA MA RW n3 n5 n6 f3 f5 f6 hW5
        go_wp2_with fail
        refine wp_at hT (by kernel_rfl) (rulEnd (x := ⟨⟨nm, req, 4, 0, 0, 0, wordsL.take n⟩, some ⟨NB + 1, 0, none⟩, 4⟩) (R5.out.oth RNE.out.symm) (by have q := B5.out.set 6 (.slice (some ⟨NB + 1, 0, none⟩) n 4); simp only [RM.enc, hl.out]; exact q) RBL.out (M5.out.setc NBL.out) ⟨good4 NM.out (by omega) (by omega), ⟨NM.out, by first | omega | (dsimp only; omega) | decide⟩, by simp only [hl.out]; omega⟩ (fun A q => by cases q; have := NBL.out; show _ ≤ NB + 1; omega) (.inr ⟨NB + 1, 0, _, rfl, RW5.out.oth (by omega), fun j hj => ?_⟩))
        have hj4 : j < wordsL.length := by simp only [hl.out] at hj; simp [wordsL]; omega
        refine ⟨?_, ?_⟩
        · rw [Nat.zero_add, List.getElem_take]; unfold strV; rw [List.getElem?_map, List.getElem?_eq_getElem hj4]; rfl
        · rw [List.getElem_take]
          have : ∀ z ∈ wordsL, z.length ≤ 1000000 := by decide
          exact this _ (List.getElem_mem hj4)
      · have h3 : kd = 3 := by omega
        have e3 : (kd == 3) = true := by rw [beq_iff_eq]; omega
        have K3 := Lib.hid h3
        clear h12 h56 h4 h3
        obtain rfl := K3.out
        go_wp2_with fail
        have HP := Lib.hid (pickNew_any (w3.alloc (.cells #[.string (bs nm), .bool req, .int .i64 3, .int .i64 0, .int .i64 0, .int .i64 0, .slice none 0 0] 51)) b len (MA.out.tp H.out) (w3.heap.size + 1) (by simp) #[.int .i64 0, .int .i64 0, .int .i64 1, .int .i64 5, .int .i64 100] 5 [0, 0, 1, 5, 100] (fun x => 0 ≤ x ∧ x ≤ 100) rfl rfl (by omega) (by omega) (by decide))
        refine HP.out.mono ?_
        clear HP
        obtain ⟨W4, hW4⟩ : ∃ W : World, Hid (W = w3.alloc (.cells #[.string (bs nm), .bool req, .int .i64 3, .int .i64 0, .int .i64 0, .int .i64 0, .slice none 0 0] 51)) := ⟨_, Lib.hid rfl⟩
        rw [← hW4.out] at BX RA MA n3 n5 n6 f3 f5 f6 ⊢
        obtain ⟨NB, hNB⟩ : ∃ N : Nat, Hid (w3.heap.size = N) := ⟨_, Lib.hid rfl⟩
        rw [hNB.out] at BX NBN NBL RNE n3 n5 n6 f3 f5 f6 ⊢
        clear hW4 hNB
        rintro e w5 ⟨lo, rfl, ⟨l0, l1⟩, hm⟩
        have M5 := Lib.hid (MA.out.trans H.out.has hm)
        have R5 := Lib.hid (hm.row RA.out RBN.out)
        have B5 := Lib.hid (hm.row BX.out NBN.out)
        have m3 : w5.cell? ⟨NB, 3, none⟩ = some (.int .i64 0) := B5.out.cell 3 (by simp)
        have g3 := B5.out.free 3
        have hh := has_of_cell m3
        clear hm BX RA MA n3 n5 n6 f3 f5 f6
        go_wp2_with fail
        have B6 := Lib.hid (B5.out.set 3 (.int .i64 lo))
        have M6 := Lib.hid (M5.out.setc (o := 3) (v := .int .i64 lo) NBL.out)
        have R6 := Lib.hid (R5.out.oth (o := 3) (v := .int .i64 lo) RNE.out.symm)
        obtain ⟨W6, hW6⟩ : ∃ W : World, Hid (W = w5.setCell ⟨NB, 3, none⟩ (.int .i64 lo)) := ⟨_, Lib.hid rfl⟩
        rw [← hW6.out] at B6 M6 R6 ⊢
        clear hW6 m3 g3 hh B5 M5 R5
        simp only [List.set_cons_zero, List.set_cons_succ] at B6
        refine wp_code_eq (c := Code.region 5 (regIn 5 Tryz.f34) true) (by kernel_rfl) (gr5 (wr := W6) (lo := lo) (M6.out.tp H.out) B6.out rfl rfl ⟨l0, l1⟩ NBN.out ?_)
        intro t20 t21 t22 t23 t24 t25 t26 wx hfin
        have FN := Lib.hid hfin
        clear hfin
        unfold gr5A
        obtain ⟨w7, d, hwx, d0, d1, hm7, hr7⟩ := FN.out
        have M8 : Hid (Mv b len w wx) := Lib.hid (by rw [hwx]; exact (M6.out.trans H.out.has hm7).setc NBL.out)
        have B8 : Hid (Row wx NB 51 [.string (bs nm), .bool req, .int .i64 3, .int .i64 lo, .int .i64 (lo + d), .int .i64 0, .slice none 0 0]) := Lib.hid (by rw [hwx]; exact hr7.set 4 _)
        have R8 : Hid (Row wx RB 51 [.string ⟨#[]⟩, .bool false, .int .i64 0, .int .i64 0, .int .i64 0, .int .i64 0, .slice none 0 0]) := Lib.hid (by rw [hwx]; exact (hm7.row R6.out RBN.out).oth RNE.out.symm)
        clear hm7 hr7 hwx FN B6 M6 R6
        go_wp2_with fail
        refine (nM_any wx b len 3 (M8.out.tp H.out) (by omega) (by omega)).mono ?_
        rintro e w9 ⟨ct, rfl, ⟨c0, c1⟩, hm⟩
        have M9 := Lib.hid (M8.out.trans H.out.has hm)
        have R9 := Lib.hid (hm.row R8.out RBN.out)
        have B9 := Lib.hid (hm.row B8.out NBN.out)
        have m5 : w9.cell? ⟨NB, 5, none⟩ = some (.int .i64 0) := B9.out.cell 5 (by simp)
        have g5 := B9.out.free 5
        have hh := has_of_cell m5
        clear hm B8 R8 M8
        go_wp2_with fail
        refine wp_at hT (by kernel_rfl) (rulEnd (x := ⟨⟨nm, req, 3, lo, lo + d, ct, []⟩, none, 0⟩) (R9.out.oth RNE.out.symm) (B9.out.set 5 _) RBL.out (M9.out.setc NBL.out) ⟨good3 NM.out l0 (by omega) (by omega) c0 (by omega), ⟨NM.out, by first | omega | (dsimp only; omega) | decide⟩, Nat.le_refl _⟩ (fun A q => by cases q) (.inl rfl))
theorem infoRul : (Tryz.prog.info? 51).map (fun i => (i.zero, i.size, i.bytes)) = some (some (.agg #[.string (bs []), .bool false, .int .i64 0, .int .i64 0, .int .i64 0, .int .i64 0, .slice none 0 0]), 7, 80) := by kernel_rfl
theorem RM.enc_one (x : RM) : ∀ u ∈ x.enc, u.oneCell' = true := by
  intro u hu
  simp only [RM.enc, List.mem_cons, List.not_mem_nil, or_false] at hu
  rcases hu with h | h | h | h | h | h | h <;> subst h <;> rfl
def St25 (base : Nat) (wr : World) (va : Option Addr) (vc : Nat) (rs : List RM) (x : RM) (t121 : Value) (w : World) : Bool → Prop
  | false => Gr wr w
  | true => wr.grownBy w (Value.slice va rs.length vc).ownBlock ∧ w.ownsRow base 51 7 t121 (rs.length + 1) (rs.flatMap RM.enc ++ x.enc) ∧ (t121.ownBlock = (Value.slice va rs.length vc).ownBlock ∨ ∃ k, t121.ownBlock = some k ∧ wr.heap.size ≤ k)
structure G25 (base : Nat) (wr : World) (g RX : Nat) (us : List Value) (va : Option Addr) (vc : Nat) (rs : List RM) (x : RM) (t121 : Value) (d : Array Bool) (w : World) : Prop where
  box : Row w RX 51 x.enc
  row : Row w g 48 us
  st : St25 base wr va vc rs x t121 w (d.getD 7 false)
end Go.Proofs.YtbpkndiecomggaaGreatDoor
