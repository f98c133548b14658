/- managed.Users. -/
import Derived.Test.YthpgoldahffbcaaHdE
import Derived.Test.YthpgoldahffbcaaHdS
set_option linter.unusedVariables false
set_option linter.unusedSimpArgs false
namespace Go.Proofs.Ythpgoldahffbcaa
open Go.RowKit
theorem infoInt : (Try.prog.info? 3).map (fun i => (i.zero, i.size, i.bytes)) = some (some (.int .i64 0), 1, 8) := by kernel_rfl
def devs (l : List Hld) : List Int := l.map fun x => x.device
def usersL (l : List Hld) (un : Int) : List Int := Lib.compact (srt (devs (l.filter fun x : Hld => x.unit == un)))
theorem devs_take (l : List Hld) (k : Nat) (h : k < l.length) : devs (l.take (k + 1)) = devs (l.take k) ++ [l[k].device] := by
  unfold devs; rw [List.take_succ_eq_append_getElem h, List.map_append]; rfl
def GivesI (w : World) (zs : List Int) (e : Ending) (w' : World) : Prop := ∃ v, e = .returned v ∧ w'.ownsRow w.heap.size 3 1 v zs.length (nums zs) ∧ Gr w w'
theorem cell_one (w : World) (x : Value) (t : TypeId) (B : Nat) (hB : B = w.heap.size) : ∀ j u, [x][j]? = some u → (w.alloc (.cells #[x] t)).cell? ((⟨B, 0, none⟩ : Addr).add j) = some u := by
  subst hB
  intro j u hu
  rcases j with _ | j
  all_goals simp at hu
  all_goals subst hu
  all_goals simp [Addr.add, go_sem]
theorem nums_snoc (zs : List Int) (x : Int) : nums (zs ++ [x]) = nums zs ++ [.int .i64 x] := by simp [nums]
set_option maxHeartbeats 2000000 in
theorem users_any (un : Int) (l : List Hld) (ao : Option Addr) (cap : Nat) (w : World) (h : SlOf 3 RHld w ao l) (hf : l.length ≤ 1000000) :
    Calls Try.prog 25 #[.slice ao l.length cap, .int .i64 un] w (GivesI w (usersL l un)) := by
  have H := Lib.hid h
  have WD := Lib.hid (sl_wide h)
  clear h
  obtain ⟨i0, hi, hz0, hz1, hz2⟩ := info_parts infoInt
  go_enter Try.func25, Try.ntmps25
  go_wp2_with fail
  refine (usrF_any w.heap.size un l ao cap _ (hlds_gr H.out (by repeat (first | with_reducible exact Gr.refl _ | with_reducible refine Gr.alloc _ ?_ | with_reducible refine Gr.xt _ _ ?_ | with_reducible refine Gr.drew ?_))) hf (by simp [go_sem])).mono ?_
  rintro e W1 ⟨u, rfl, ho, hg⟩
  obtain ⟨m, hm⟩ : ∃ m, Hid (m = l.filter (fun x : Hld => x.unit == un)) := ⟨_, Lib.hid rfl⟩
  rw [← hm.out] at ho
  have ML : m.length ≤ 1000000 := by rw [hm.out]; exact Nat.le_trans (List.length_filter_le _ _) hf
  have MW : Hid (HsWide m) := Lib.hid (by rw [hm.out]; exact HsWide.of_mem fun x hx => WD.out.mem (List.mem_filter.1 hx).1)
  obtain ⟨a, c, rfl, hc, hown1⟩ := owns_ownN ho
  have SM := Lib.hid (hown1.slH MW.out)
  have G1 : Hid (Gr w W1) := Lib.hid (Gr.trans ((Gr.refl _).alloc _) hg)
  clear ho hg hown1
  go_wp2_with fail
  go_loopw [12, 5] (fun i v wr => ∃ k : Nat, k ≤ m.length ∧ i = .int .i64 k ∧ wr.ownsRow W1.heap.size 3 1 v (devs (m.take k)).length (nums (devs (m.take k))) ∧ Gr W1 wr) (fun i _ _ => m.length - (intOf i).toNat)
  case atStart => exact ⟨0, Nat.zero_le _, rfl, owns_nil _ _ _ _, Gr.refl _⟩
  case round =>
    obtain ⟨k, hk, rfl, ho, hg⟩ := hrel
    have HO := Lib.hid ho
    have HG := Lib.hid hg
    clear ho hg
    by_cases hlt : k < m.length
    · obtain ⟨b, o, rfl, ⟨c0, -⟩, ⟨c1, -⟩, ⟨c2, -⟩⟩ := (hlds_gr SM.out HG.out) k hlt
      have ch := has_of_cell c0
      have DT := Lib.hid (devs_take m k hlt)
      have DL : (devs (m.take k)).length ≤ k := by unfold devs; rw [List.length_map, List.length_take]; omega
      obtain ⟨cur, hcur⟩ : ∃ cur, Hid (cur = devs (m.take k)) := ⟨_, Lib.hid rfl⟩
      rw [← hcur.out] at HO DT DL
      obtain ⟨x, hx⟩ : ∃ x, Hid (x = m[k]) := ⟨_, Lib.hid rfl⟩
      rw [← hx.out] at c0 c1 c2 DT
      go_wp2_with (at_builtin; refine wpList_append_gets _ rfl _ _ 22 rfl W1.heap.size 3 i0 (.int .i64 0) 1 8 Try.underlying22 hi hz0 hz1 hz2 rfl (by decide) _ cur.length (nums cur) rfl ((HO.out.alloc _).alloc _) (some ⟨_, 0, none⟩) 1 1 [.int .i64 x.device] rfl ⟨rfl, fun _ => ⟨_, rfl, cell_one _ _ _ _ (by simp)⟩⟩ (by simp [Value.oneCell']) (by unfold maxLen; omega) (by omega) (by have := HG.out.size; simp; omega) ?_; intro v' wz hown' hgrow hnil; have OZ := Lib.hid hown'; have GZ := Lib.hid hgrow; clear hown' hgrow hnil)
      go_roundw
      case rel =>
        refine ⟨k + 1, by omega, by go_num, ?_, ?_⟩
        · rw [DT.out, nums_snoc]
          simpa using OZ.out
        · exact Gr.grown ((HG.out.alloc _).alloc _) GZ.out (fun j e => (owns_block HO.out j e).1)
      case measure => simp [intOf]; omega
    · have hkn : k = m.length := by omega
      subst hkn
      rw [List.take_length] at HO
      have DL : (devs m).length ≤ 1000000 := by unfold devs; rw [List.length_map]; exact ML
      have G2 := Lib.hid (G1.out.trans HG.out)
      go_wp2_with fail
      refine (sortI_any _ _ _ _ HO.out DL).mono ?_
      rintro e W2 ⟨rfl, ho2, hg2⟩
      have O2 := Lib.hid ho2
      have G3 : Hid (Gr W1 W2) := Lib.hid (Gr.grown HG.out hg2 (fun j e => (owns_block HO.out j e).1))
      have SL : (srt (devs m)).length = (devs m).length := by unfold srt; exact List.length_mergeSort _
      rw [← SL] at O2 DL
      clear ho2 hg2
      go_wp2_with fail
      refine (compactI_any _ _ _ _ O2.out DL).mono ?_
      rintro e W3 ⟨v', rfl, ho3, hg3⟩
      have O3 := Lib.hid (owns_low (base' := w.heap.size) ho3 G1.out.size)
      have G4 : Hid (Gr w W3) := Lib.hid (G1.out.trans (Gr.grown G3.out hg3 (fun j e => (owns_block O2.out j e).1)))
      clear ho3 hg3
      go_wp2_with fail
      go_ret
      rw [usersL, ← hm.out]
      exact ⟨_, rfl, O3.out, G4.out⟩
end Go.Proofs.Ythpgoldahffbcaa
