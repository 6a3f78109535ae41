/- How the library's tables of folds and of cases read: for a row that lists them. No function of the program. -/
import Derived.Test.YtkdmhflcpfekfaaDoorRows
import Derived.Test.YtkdmhflcpfekfaaDoorM2
import Derived.Test.YtkdmhflcpfekfaaDoorQ1
import Derived.Lib.LaidCaseMet
import Derived.Lib.LaidIn
import Derived.Lib.LaidTab
namespace Go.Proofs.YtkdmhflcpfekfaaDoor
set_option linter.unusedVariables false
set_option linter.unusedSimpArgs false
set_option maxRecDepth 100000
open Go.Lib

def foldZs : List Int := [0, 1, 2, 3, 4, 5, 6, 7, 8, 9, 10, 11, 12, 13, 14, 15, 16, 17, 18, 19, 20, 21, 22, 23, 24, 25, 26, 27, 28, 29, 30, 31, 32, 33, 34, 35, 36, 37, 38, 39, 40, 41, 42, 43, 44, 45, 46, 47, 48, 49, 50, 51, 52, 53, 54, 55, 56, 57, 58, 59, 60, 61, 62, 63, 64, 97, 98, 99, 100, 101, 102, 103, 104, 105, 106, 107, 108, 109, 110, 111, 112, 113, 114, 115, 116, 117, 118, 119, 120, 121, 122, 91, 92, 93, 94, 95, 96, 65, 66, 67, 68, 69, 70, 71, 72, 73, 74, 8490, 76, 77, 78, 79, 80, 81, 82, 383, 84, 85, 86, 87, 88, 89, 90, 123, 124, 125, 126, 127]
def orbitCells : Array Value := #[Value.int .u16 75, Value.int .u16 107, Value.int .u16 83, Value.int .u16 115, Value.int .u16 107, Value.int .u16 8490, Value.int .u16 115, Value.int .u16 383, Value.int .u16 181, Value.int .u16 924, Value.int .u16 197, Value.int .u16 229, Value.int .u16 223, Value.int .u16 7838, Value.int .u16 229, Value.int .u16 8491, Value.int .u16 304, Value.int .u16 304, Value.int .u16 305, Value.int .u16 305, Value.int .u16 383, Value.int .u16 83, Value.int .u16 452, Value.int .u16 453, Value.int .u16 453, Value.int .u16 454, Value.int .u16 454, Value.int .u16 452, Value.int .u16 455, Value.int .u16 456, Value.int .u16 456, Value.int .u16 457, Value.int .u16 457, Value.int .u16 455, Value.int .u16 458, Value.int .u16 459, Value.int .u16 459, Value.int .u16 460, Value.int .u16 460, Value.int .u16 458, Value.int .u16 497, Value.int .u16 498, Value.int .u16 498, Value.int .u16 499, Value.int .u16 499, Value.int .u16 497, Value.int .u16 837, Value.int .u16 921, Value.int .u16 912, Value.int .u16 8147, Value.int .u16 914, Value.int .u16 946, Value.int .u16 917, Value.int .u16 949, Value.int .u16 920, Value.int .u16 952, Value.int .u16 921, Value.int .u16 953, Value.int .u16 922, Value.int .u16 954, Value.int .u16 924, Value.int .u16 956, Value.int .u16 928, Value.int .u16 960, Value.int .u16 929, Value.int .u16 961, Value.int .u16 931, Value.int .u16 962, Value.int .u16 934, Value.int .u16 966, Value.int .u16 937, Value.int .u16 969, Value.int .u16 944, Value.int .u16 8163, Value.int .u16 946, Value.int .u16 976, Value.int .u16 949, Value.int .u16 1013, Value.int .u16 952, Value.int .u16 977, Value.int .u16 953, Value.int .u16 8126, Value.int .u16 954, Value.int .u16 1008, Value.int .u16 956, Value.int .u16 181, Value.int .u16 960, Value.int .u16 982, Value.int .u16 961, Value.int .u16 1009, Value.int .u16 962, Value.int .u16 963, Value.int .u16 963, Value.int .u16 931, Value.int .u16 966, Value.int .u16 981, Value.int .u16 969, Value.int .u16 8486, Value.int .u16 976, Value.int .u16 914, Value.int .u16 977, Value.int .u16 1012, Value.int .u16 981, Value.int .u16 934, Value.int .u16 982, Value.int .u16 928, Value.int .u16 1008, Value.int .u16 922, Value.int .u16 1009, Value.int .u16 929, Value.int .u16 1012, Value.int .u16 920, Value.int .u16 1013, Value.int .u16 917, Value.int .u16 1042, Value.int .u16 1074, Value.int .u16 1044, Value.int .u16 1076, Value.int .u16 1054, Value.int .u16 1086, Value.int .u16 1057, Value.int .u16 1089, Value.int .u16 1058, Value.int .u16 1090, Value.int .u16 1066, Value.int .u16 1098, Value.int .u16 1074, Value.int .u16 7296, Value.int .u16 1076, Value.int .u16 7297, Value.int .u16 1086, Value.int .u16 7298, Value.int .u16 1089, Value.int .u16 7299, Value.int .u16 1090, Value.int .u16 7300, Value.int .u16 1098, Value.int .u16 7302, Value.int .u16 1122, Value.int .u16 1123, Value.int .u16 1123, Value.int .u16 7303, Value.int .u16 7296, Value.int .u16 1042, Value.int .u16 7297, Value.int .u16 1044, Value.int .u16 7298, Value.int .u16 1054, Value.int .u16 7299, Value.int .u16 1057, Value.int .u16 7300, Value.int .u16 7301, Value.int .u16 7301, Value.int .u16 1058, Value.int .u16 7302, Value.int .u16 1066, Value.int .u16 7303, Value.int .u16 1122, Value.int .u16 7304, Value.int .u16 42570, Value.int .u16 7776, Value.int .u16 7777, Value.int .u16 7777, Value.int .u16 7835, Value.int .u16 7835, Value.int .u16 7776, Value.int .u16 7838, Value.int .u16 223, Value.int .u16 8126, Value.int .u16 837, Value.int .u16 8147, Value.int .u16 912, Value.int .u16 8163, Value.int .u16 944, Value.int .u16 8486, Value.int .u16 937, Value.int .u16 8490, Value.int .u16 75, Value.int .u16 8491, Value.int .u16 197, Value.int .u16 42570, Value.int .u16 42571, Value.int .u16 42571, Value.int .u16 7304, Value.int .u16 64261, Value.int .u16 64262, Value.int .u16 64262, Value.int .u16 64261]
def orbitCount : Nat := 94
theorem gFold : Tryd.prog.globalNamed "unicode.asciiFold" = some 3 := by kernel_rfl
theorem tFold : (Tryd.prog.globals[3]?).map (·.type) = some 114 := by kernel_rfl
theorem cellsFold : Tryd.prog.cellsOf 114 = 128 := by kernel_rfl
theorem cellsU16 : Tryd.prog.cellsOf 113 = 1 := by kernel_rfl
set_option maxRecDepth 100000 in
theorem fold_of {W : World} (h2 : laidMetH Tryd.prog [("unicode.asciiFold", Lib.tabData .u16 foldZs)] W) : FoldOk W := by
  have ht := Lib.tabIs_of_head (rest := []) gFold tFold Tryd.underlying114 Tryd.underlying113 cellsU16 cellsFold h2
  intro x hx
  have hl : x.1 < foldZs.length ∧ foldZs.getD x.1 0 = x.2 := by
    simp only [List.mem_cons, List.not_mem_nil, or_false] at hx
    rcases hx with rfl | rfl | rfl | rfl | rfl | rfl | rfl <;> decide
  have := ht.cell gFold x.1 hl.1
  rw [hl.2] at this
  exact this

theorem dataCase : Go.Pinned.caseRanges = Lib.caseData := by kernel_rfl

theorem cRow : Tryd.prog.cellsOf 125 = 5 := by kernel_rfl
theorem cU32 : Tryd.prog.cellsOf 88 = 1 := by kernel_rfl
theorem cI32 : Tryd.prog.cellsOf 21 = 1 := by kernel_rfl
theorem cD : Tryd.prog.cellsOf 123 = 3 := by kernel_rfl

/-- One row reads as its datum; it leads nowhere. -/
theorem row_reads {w : World} (x : CaseRow) (hw : rowWf x = true) (fuel : Nat) :
    DataW.trod (fun _ => ()) Tryd.prog w 0 (fun _ => true) false (fuel + 3) 125 (cells5 x) = some (rowData x, []) := by
  simp only [rowWf, Bool.and_eq_true] at hw
  obtain ⟨⟨⟨⟨w0, w1⟩, w2⟩, w3⟩, w4⟩ := hw
  have r3 : List.range 3 = [0, 1, 2] := rfl
  simp [DataW.trod, Tryd.underlying125, Tryd.underlying88, Tryd.underlying21, Tryd.underlying123, cRow, cU32, cI32, cD, cells5, rowData, w0, w1, w2, w3, w4, r3]

/-- The slice of rows reads as the rows' data; its places: its cells. -/
theorem slice_reads {w : World} {R oR : Nat} {T : Array CaseRow} (hT : CaseTab R oR T w) (hwf : ∀ i, i < T.size → rowWf (T.getD i (0, 0, 0, 0, 0)) = true) (hn : T.size ≤ maxLen) (fuel : Nat) :
    DataW.trod (fun _ => ()) Tryd.prog w 0 (fun _ => true) false (fuel + 4) 120 [.slice (some ⟨R, oR, none⟩) T.size T.size] =
      some (.slice ((List.range T.size).map fun i => rowData (T.getD i (0, 0, 0, 0, 0))) [], MemPlace.row ⟨R, oR, none⟩ (T.size * 5)) := by
  have helem : ∀ i ∈ List.range T.size, (w.cells? 0 ((⟨R, oR, none⟩ : Addr).add (i * 5)) 5).bind (DataW.trod (fun _ => ()) Tryd.prog w 0 (fun _ => true) false (fuel + 3) 125) = some ((fun i => ((rowData (T.getD i (0, 0, 0, 0, 0)) : DataW Unit), ([] : List MemPlace))) i) := by
    intro i hi
    have hi' := List.mem_range.1 hi
    rw [case_cells5 hT i hi']
    exact row_reads _ (hwf i hi') fuel
  show DataW.trod _ _ _ _ _ _ ((fuel + 3) + 1) _ _ = _
  unfold DataW.trod
  simp only [Tryd.underlying120, cRow]
  rw [if_pos ⟨Nat.zero_le _, Nat.le_refl _, hn⟩, mapM_some _ _ _ helem]
  simp [Function.comp_def]

/-- The table of cases, read in a world that holds it in a block of its own. -/
theorem case_in {w : World} (R : Nat) (hgR : 5 ≠ R)
    (hvar : w.heap[5]? = some (.cells #[.slice (some ⟨R, 0, none⟩) 336 336] 120 (0, 0)))
    (hblk : w.heap[R]? = some (.cells caseCells5 125 (0, 0))) :
    LaidIn Tryd.prog w [("unicode.CaseRanges", Lib.caseData)] [5, R] := by
  have hT := caseTab_of_block hblk
  have hread := slice_reads hT caseA_wf (by rw [caseA_size]; unfold maxLen; omega) 0
  rw [case_rows_data, caseA_size] at hread
  have hn : Tryd.prog.globalNamed "unicode.CaseRanges" = some 5 := by kernel_rfl
  have hv : w.var? Tryd.prog "unicode.CaseRanges" = some #[.slice (some ⟨R, 0, none⟩) 336 336] := by simp [World.var?, hn, hvar]
  refine LaidIn.one _ hn (by kernel_rfl) hv hread ?_ ?_ ?_
  · refine List.nodup_append.2 ⟨rowP_nodup _ _, rowP_nodup _ _, ?_⟩
    intro a ha b hb e
    obtain ⟨i, _, rfl⟩ := MemPlace.mem_row.1 ha
    obtain ⟨j, _, rfl⟩ := MemPlace.mem_row.1 hb
    simp at e
    exact hgR e.1
  · intro b off hp
    rcases List.mem_append.1 hp with hp | hp
    · obtain ⟨i, hi, e⟩ := MemPlace.mem_row.1 hp
      cases e
      refine ⟨⟨_, _, hvar⟩, fun u v hc => ?_⟩
      have hi2 : i < 1 := hi
      obtain rfl : i = 0 := by omega
      rw [Lib.cell_of_heap hvar] at hc
      simp at hc
    · obtain ⟨i, hi, e⟩ := MemPlace.mem_row.1 hp
      cases e
      refine ⟨⟨_, _, hblk⟩, fun u v hc => ?_⟩
      obtain ⟨c0, c1, c2, c3, c4⟩ := hT (i / 5) (by rw [caseA_size]; omega)
      have hi5 : 0 + i = 0 + i / 5 * 5 + i % 5 := by omega
      simp only at hc
      rw [hi5] at hc
      have hm : i % 5 < 5 := Nat.mod_lt _ (by omega)
      match hk : i % 5, hm with
      | 0, _ => rw [hk, Nat.add_zero, c0] at hc; cases hc
      | 1, _ => rw [hk, c1] at hc; cases hc
      | 2, _ => rw [hk, c2] at hc; cases hc
      | 3, _ => rw [hk, c3] at hc; cases hc
      | 4, _ => rw [hk, c4] at hc; cases hc
  · intro x hx
    rcases List.mem_append.1 hx with hx | hx
    · obtain ⟨i, _, rfl⟩ := MemPlace.mem_row.1 hx; exact List.mem_cons.2 (.inl rfl)
    · obtain ⟨i, _, rfl⟩ := MemPlace.mem_row.1 hx; exact List.mem_cons.2 (.inr (List.mem_singleton.2 rfl))

end Go.Proofs.YtkdmhflcpfekfaaDoor
