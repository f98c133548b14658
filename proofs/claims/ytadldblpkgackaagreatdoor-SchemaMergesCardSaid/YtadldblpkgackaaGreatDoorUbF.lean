/- The library's functions on texts as lists of bytes; schema.number, schema.readHead. -/
import Derived.Test.YtadldblpkgackaaGreatDoorUbE
set_option linter.unusedVariables false
set_option linter.unusedSimpArgs false
namespace Go.Proofs.YtadldblpkgackaaGreatDoor
open Go.RowKit
open Classical

/-- What the variables hold. -/
def Libs (w : World) : Prop := Pow w ∧ (∃ m, w.cell? ⟨1, 0, none⟩ = some (.int .i64 m)) ∧ (∃ tp p, w.var? Tryz.prog "strconv.ErrSyntax" = some #[.iface tp p]) ∧ (∃ tp p, w.var? Tryz.prog "strconv.ErrRange" = some #[.iface tp p]) ∧ Kin w
theorem var_has {w : World} {n : String} {g : Nat} {cs : Array Value} (hg : Tryz.prog.globalNamed n = some g) (h : w.var? Tryz.prog n = some cs) : g < w.heap.size := by
  unfold World.var? at h
  rw [hg] at h
  rcases Nat.lt_or_ge g w.heap.size with h1 | h1
  · exact h1
  · simp [Array.getElem?_eq_none h1] at h
theorem synNamed : Tryz.prog.globalNamed "strconv.ErrSyntax" = some 2 := by kernel_rfl
theorem rngNamed : Tryz.prog.globalNamed "strconv.ErrRange" = some 3 := by kernel_rfl
theorem Libs.gr {w w' : World} (h : Libs w) (hg : Gr w w') : Libs w' := by
  obtain ⟨h1, ⟨m, h2⟩, ⟨t1, p1, h3⟩, ⟨t2, p2, h4⟩, h5⟩ := h
  exact ⟨h1.gr hg, ⟨m, cell_gr hg h2⟩, ⟨t1, p1, var?_below hg.below synNamed (var_has synNamed h3) h3⟩, ⟨t2, p2, var?_below hg.below rngNamed (var_has rngNamed h4) h4⟩, h5.gr hg⟩
theorem bytes_gr (w : World) (e : TypeId) (s : ByteArray) : Gr w (Lib.bytesWorld w e s) := by
  refine Gr.of_below ⟨?_, ?_, ?_, by rw [Lib.bytesWorld_size]; omega, fun k hk => Lib.bytesWorld_at_old w e s k hk⟩ <;> simp [Lib.bytesWorld, World.freeze, World.alloc, World.drew, -World.alloc_eq, -World.drew_eq]
theorem cut_any (l sep : St) (w : World) (hl : l.length ≤ 1000000) (h : Libs w) :
    Calls Tryz.prog 29 #[.string (bs l), .string (bs sep)] w (Grows w (.tuple #[.string (bs (Lib.cut l sep).1), .string (bs (Lib.cut l sep).2.1), .bool (Lib.cut l sep).2.2])) := by
  obtain ⟨m, hm⟩ := h.2.1
  refine (Tryz.strings_Cut (bs l) (bs sep) m w (by rw [bs_size]; omega) hm).mono ?_
  rintro e w' ⟨he, n, rfl⟩
  rw [bs_data, bs_data] at he
  exact ⟨he, (Gr.refl w).drewN n⟩
theorem cutPre_any (l p : St) (w : World) :
    Calls Tryz.prog 75 #[.string (bs l), .string (bs p)] w fun e w' => e = .returned (.tuple #[.string (bs (Lib.trimPrefix l p)), .bool (Lib.hasPrefix l p)]) ∧ w = w' :=
  (Tryz.strings_CutPrefix (bs l) (bs p) w).mono fun e w' ⟨he, hw⟩ => ⟨by rw [he, bs_data, bs_data]; rfl, hw.symm⟩
theorem trimPre_any (l p : St) (w : World) :
    Calls Tryz.prog 78 #[.string (bs l), .string (bs p)] w fun e w' => e = .returned (.string (bs (Lib.trimPrefix l p))) ∧ w = w' :=
  (Tryz.strings_TrimPrefix (bs l) (bs p) w).mono fun e w' ⟨he, hw⟩ => ⟨by rw [he, bs_data, bs_data]; rfl, hw.symm⟩
theorem bs_map (l : List ByteArray) : strV (l.map (fun s => s.data.toList)) = l.map Value.string := by
  unfold strV
  rw [List.map_map]
  apply List.map_congr_left
  intro s _
  show Value.string (bs s.data.toList) = _
  rw [← bs_of]
theorem countB_len (l sep : St) (h : 1 ≤ sep.length) : Lib.countB (bs l) (bs sep) + 1 = (Lib.split l sep).length := by
  have e := Lib.splitB_data (bs sep) 0 (Lib.countB (bs l) (bs sep)) (bs l)
  have e2 := Lib.splitB_all (bs sep) (by rw [bs_size]; exact h) 0 _ (bs l) rfl
  have e3 := congrArg List.length e
  rw [List.length_map, e2, bs_data, bs_data] at e3
  rw [e3]
  unfold Lib.split Lib.countB
  rw [bs_data, bs_data]
theorem split_any (l sep : St) (w : World) (hl : l.length ≤ 1000000) (h1 : 1 ≤ sep.length) (h : Libs w) :
    Calls Tryz.prog 74 #[.string (bs l), .string (bs sep)] w fun e w' => ∃ B, e = .returned (.slice (some ⟨B, 0, none⟩) (Lib.split l sep).length (Lib.split l sep).length) ∧ Row w' B 9 (strV (Lib.split l sep)) ∧ w.heap.size ≤ B ∧ Gr w w' := by
  obtain ⟨m, hm⟩ := h.2.1
  refine (Tryz.strings_Split (bs l) (bs sep) m w (by rw [bs_size]; omega) hm (by rw [bs_size]; exact h1)).mono ?_
  rintro e w' ⟨he, rfl⟩
  rw [countB_len l sep h1] at he
  refine ⟨w.heap.size, he, ?_, Nat.le_refl _, (Gr.refl _).alloc _⟩
  have R := Row.new w ((Lib.splitB (bs sep) 0 (Lib.countB (bs l) (bs sep)) (bs l)).map Value.string).toArray 9
  have e : ((Lib.splitB (bs sep) 0 (Lib.countB (bs l) (bs sep)) (bs l)).map Value.string).toArray.toList = strV (Lib.split l sep) := by
    rw [List.toList_toArray, ← bs_map, Lib.splitB_data, bs_data, bs_data]
    unfold Lib.split Lib.countB
    rw [bs_data, bs_data]
  rw [e] at R
  exact R
theorem split_ne (l sep : St) : 1 ≤ (Lib.split l sep).length := by
  unfold Lib.split
  cases Lib.count l sep with
  | zero => simp [Lib.splitK]
  | succ k => unfold Lib.splitK; split <;> simp
end Go.Proofs.YtadldblpkgackaaGreatDoor
