/- The statement CommitPrints, for every input: the call returns true and each argument reads behind it as it read before. Conditions: none beyond the row's own (the listed variables of the library are tied to the program's text). -/
import Derived.Test.YtemojhcbhljemaaGreatDoorCards
import Derived.Test.YtemojhcbhljemaaGreatDoorTie
import Derived.Test.YtemojhcbhljemaaGreatDoorM2
import Derived.Test.YtemojhcbhljemaaGreatDoorLaw09e
import Derived.WalkKit
import Derived.ProofKit
import Derived.OpenShut
import Derived.ShutString
import Derived.ChangeOld
import Derived.Below
import Derived.Deep.DeepHandedRow
import Derived.Lib.LaidTab
import Derived.Lib.LaidU8T
import Derived.Shelf.Vars
namespace Go.Proofs.YtemojhcbhljemaaGreatDoor.lawCommitPrints
set_option linter.unusedVariables false
set_option linter.unusedSimpArgs false
open Go.ChangeShapes Go.WideShapes Go.ChangeAt Go.RowKit
open Go.ChangeMaps (open_string shut_string)

theorem gPow : Tryz.prog.globalNamed "internal/strconv.uint64pow10" = some 3 := by kernel_rfl
theorem tPow : (Tryz.prog.globals[3]?).map (·.type) = some 125 := by kernel_rfl
theorem cellsPow : Tryz.prog.cellsOf 125 = 20 := by kernel_rfl
theorem cellsU64 : Tryz.prog.cellsOf 96 = 1 := by kernel_rfl
theorem factTabOk {W : World} (h : laidMetH Tryz.prog Rows.commitPrintsRow.laid W) : TabOk W := by
  have h1 := h.filter (fun x => x.1 == "internal/strconv.uint64pow10")
  have h2 : laidMetH Tryz.prog [("internal/strconv.uint64pow10", Lib.tabData .u64 Lib.pow10Tab)] W := h1
  exact Lib.tabIs_of_head (rest := []) gPow tPow Tryz.underlying125 Tryz.underlying96 cellsU64 cellsPow h2

theorem factMaxOk {W : World} (hS : W.ShapedOpen Tryz.prog) : MaxOk W := cell_of_shapedOpen_int (t := 3) (zero := #[.int .i64 0]) hS (of_decide_eq_true (by kernel_rfl)) (by kernel_rfl) rfl (by kernel_rfl) (by kernel_rfl) Tryz.underlying3

theorem dataFirst : Go.Pinned.utf8First = Lib.firstData := by kernel_rfl
theorem dataAccept : (Rows.laid_unicode_utf8_acceptRanges : DataW Unit) = Lib.acceptData := by kernel_rfl
theorem factU8Ok {W : World} (h : laidMetH Tryz.prog Rows.commitPrintsRow.laid W) : U8Ok W := by
  have h3 := Lib.laidMet.reads h (n := "unicode/utf8.first") (d := Rows.laid_unicode_utf8_first) (List.mem_of_getElem? (i := 6) rfl)
  have h4 := Lib.laidMet.reads h (n := "unicode/utf8.acceptRanges") (d := Rows.laid_unicode_utf8_acceptRanges) (List.mem_of_getElem? (i := 3) rfl)
  rw [show Rows.laid_unicode_utf8_first = Lib.firstData from dataFirst] at h3
  rw [dataAccept] at h4
  exact utf8Tabs_of_readsT (U8Types.of196 Tryz.lays196) ⟨by kernel_rfl, by kernel_rfl, by kernel_rfl, by kernel_rfl, by kernel_rfl, by kernel_rfl, by kernel_rfl⟩ h3 h4

theorem factErrOk {W : World} (h : laidMetH Tryz.prog Rows.commitPrintsRow.laid W) : ErrOk W := by
  have h1 := h.filter (fun x => x.1 == "strconv.ErrSyntax")
  have h2 : laidMetH Tryz.prog [("strconv.ErrSyntax", Rows.laid_strconv_ErrSyntax)] W := h1
  have h3 := h.filter (fun x => x.1 == "strconv.ErrRange")
  have h4 : laidMetH Tryz.prog [("strconv.ErrRange", Rows.laid_strconv_ErrRange)] W := h3
  exact ⟨errSyntax_laid h2, errRange_laid h4⟩

set_option maxRecDepth 100000 in
theorem contract (H : Type) (enc : TypeId × Value → H) (W : World) (base : Nat) (args : Array Value) (ds gs : List (DataW H)) (before : List MemPlace)
    (hval : ∀ (j : Nat) t v, Tryz.f3.params[j]? = some t → args[j]? = some v → Value.okWide Tryz.prog W .any base t v)
    (hW : DataW.Whole enc Tryz.prog Tryz.f3.params.toList Rows.commitPrintsSpec.vars false W args.toList ds gs before) (hL : laidMetH Tryz.prog Rows.commitPrintsRow.laid W) (hS : W.ShapedOpen Tryz.prog) :
    Calls Tryz.prog 3 args W fun e W' => ∃ v, e = .returned v ∧ Rows.commitPrintsSpec.post enc Tryz.prog Tryz.f3 false true false false W args v W' := by
  have hW' := hW
  obtain ⟨p, q, hA0, hV, rfl, hfz, hnd⟩ := hW
  have hA : DataW.TrodAll enc Tryz.prog W 0 (fun _ => true) true Tryz.f3.params.toList args.toList ds p := hA0
  rw [Tryz.params3] at hA hval
  obtain ⟨v0, vs0, d0, ds0, p0, q0, hargs, rfl, rfl, h0, r0⟩ := trodAll_cons hA
  obtain ⟨v1, vs1, d1, ds1, p1, q1, rfl, rfl, rfl, h1, r1⟩ := trodAll_cons r0
  obtain ⟨rfl, rfl, rfl⟩ := trodAll_nil r1
  obtain rfl : args = #[v0, v1] := Array.ext' hargs
  obtain ⟨rfl, rfl⟩ := trodVars_none hV
  have k0 := h0
  have lt0 : ∀ x ∈ p0, x.block < W.heap.size := by obtain ⟨m, hm⟩ := k0; exact DataW.trod_lt m _ _ _ hm
  obtain ⟨a0, c0, cap0, rfl, hr0, hc0, hl0, ht0, hp0, hx0, hn0⟩ := rec_of_read (hval 0 28 v0 rfl rfl) h0
  have k1 := h1
  have lt1 : ∀ x ∈ p1, x.block < W.heap.size := by obtain ⟨m, hm⟩ := k1; exact DataW.trod_lt m _ _ _ hm
  obtain ⟨a1, len1, cap1, rfl⟩ := okWide_slice Tryz.underlying29 (hval 1 29 v1 rfl rfl)
  obtain ⟨l1, rfl, hl1, hr1, hn1, hc1⟩ := bytes_of_read' h1
  clear hA0
  simp only [List.append_nil] at hW'
  refine (law_CommitPrints a0 c0 cap0 a1 l1 cap1 W hr0 hc0 hl0 ht0 hp0 hx0 hr1 hl1 hn1 hc1 (factU8Ok hL) (factMaxOk hS) (factTabOk hL) (factErrOk hL)).mono fun e W' ⟨he, bel⟩ => ?_
  subst he
  exact ⟨_, rfl, _, _, _, [], _, [], hW', trodAll_mk1 (shut_bool Tryz.underlying4 _), (trodAll_cons_mk (Below.trod laidOut (by kernel_rfl) (of_decide_eq_true (by kernel_rfl)) k0 bel lt0) (trodAll_cons_mk (Below.trod laidOut (by kernel_rfl) (of_decide_eq_true (by kernel_rfl)) k1 bel lt1) trodAll_mk0)), (by first | rfl | simp), bel.frame _, fun h => by cases h⟩

noncomputable def low : Nat := (World.holding Tryz.prog default ⟨#[], #[], []⟩).heap.size
/-- A world for the witness: the settled one, the listed variables holding what their initialisers lay. -/
noncomputable def laidWorld (os : Os) : World := setG (setG (setG (setG (setG (setG (setG (World.holding Tryz.prog os ⟨#[.cells #[.string { data := #[118, 97, 108, 117, 101, 32, 111, 117, 116, 32, 111, 102, 32, 114, 97, 110, 103, 101] }] 144, .cells #[.string { data := #[105, 110, 118, 97, 108, 105, 100, 32, 115, 121, 110, 116, 97, 120] }] 144], #[], []⟩) 6 [(Value.int .u8 0), (Value.int .u8 1), (Value.int .u8 28), (Value.int .u8 2), (Value.int .u8 29), (Value.int .u8 14), (Value.int .u8 24), (Value.int .u8 3), (Value.int .u8 30), (Value.int .u8 22), (Value.int .u8 20), (Value.int .u8 15), (Value.int .u8 25), (Value.int .u8 17), (Value.int .u8 4), (Value.int .u8 8), (Value.int .u8 31), (Value.int .u8 27), (Value.int .u8 13), (Value.int .u8 23), (Value.int .u8 21), (Value.int .u8 19), (Value.int .u8 16), (Value.int .u8 7), (Value.int .u8 26), (Value.int .u8 12), (Value.int .u8 18), (Value.int .u8 6), (Value.int .u8 11), (Value.int .u8 5), (Value.int .u8 10), (Value.int .u8 9)]) 7 [(Value.int .u8 0), (Value.int .u8 1), (Value.int .u8 56), (Value.int .u8 2), (Value.int .u8 57), (Value.int .u8 49), (Value.int .u8 28), (Value.int .u8 3), (Value.int .u8 61), (Value.int .u8 58), (Value.int .u8 42), (Value.int .u8 50), (Value.int .u8 38), (Value.int .u8 29), (Value.int .u8 17), (Value.int .u8 4), (Value.int .u8 62), (Value.int .u8 47), (Value.int .u8 59), (Value.int .u8 36), (Value.int .u8 45), (Value.int .u8 43), (Value.int .u8 51), (Value.int .u8 22), (Value.int .u8 53), (Value.int .u8 39), (Value.int .u8 33), (Value.int .u8 30), (Value.int .u8 24), (Value.int .u8 18), (Value.int .u8 12), (Value.int .u8 5), (Value.int .u8 63), (Value.int .u8 55), (Value.int .u8 48), (Value.int .u8 27), (Value.int .u8 60), (Value.int .u8 41), (Value.int .u8 37), (Value.int .u8 16), (Value.int .u8 46), (Value.int .u8 35), (Value.int .u8 44), (Value.int .u8 21), (Value.int .u8 52), (Value.int .u8 32), (Value.int .u8 23), (Value.int .u8 11), (Value.int .u8 54), (Value.int .u8 26), (Value.int .u8 40), (Value.int .u8 15), (Value.int .u8 34), (Value.int .u8 20), (Value.int .u8 31), (Value.int .u8 10), (Value.int .u8 25), (Value.int .u8 14), (Value.int .u8 19), (Value.int .u8 9), (Value.int .u8 13), (Value.int .u8 8), (Value.int .u8 7), (Value.int .u8 6)]) 3 [(Value.int .u64 1), (Value.int .u64 10), (Value.int .u64 100), (Value.int .u64 1000), (Value.int .u64 10000), (Value.int .u64 100000), (Value.int .u64 1000000), (Value.int .u64 10000000), (Value.int .u64 100000000), (Value.int .u64 1000000000), (Value.int .u64 10000000000), (Value.int .u64 100000000000), (Value.int .u64 1000000000000), (Value.int .u64 10000000000000), (Value.int .u64 100000000000000), (Value.int .u64 1000000000000000), (Value.int .u64 10000000000000000), (Value.int .u64 100000000000000000), (Value.int .u64 1000000000000000000), (Value.int .u64 10000000000000000000)]) 1 [Value.int .u8 128, Value.int .u8 191, Value.int .u8 160, Value.int .u8 191, Value.int .u8 128, Value.int .u8 159, Value.int .u8 144, Value.int .u8 191, Value.int .u8 128, Value.int .u8 143, Value.int .u8 0, Value.int .u8 0, Value.int .u8 0, Value.int .u8 0, Value.int .u8 0, Value.int .u8 0, Value.int .u8 0, Value.int .u8 0, Value.int .u8 0, Value.int .u8 0, Value.int .u8 0, Value.int .u8 0, Value.int .u8 0, Value.int .u8 0, Value.int .u8 0, Value.int .u8 0, Value.int .u8 0, Value.int .u8 0, Value.int .u8 0, Value.int .u8 0, Value.int .u8 0, Value.int .u8 0]) 5 [Value.iface 142 (.pointer (some ⟨low, 0, none⟩))]) 4 [Value.iface 142 (.pointer (some ⟨low + 1, 0, none⟩))]) 0 (Lib.firstTab.map fun z => Value.int .u8 z)
theorem laid_met (os : Os) : laidMet Tryz.prog Rows.commitPrintsRow.laid ((laidWorld os).forCall (fun _ _ => 0) ⟨#[], #[.agg #[.int .u8 0, .int .u8 0, .int .u8 0, .int .u8 0, .int .u8 0, .int .u8 0, .int .u8 0, .int .u8 0, .int .u8 0, .int .u8 0, .int .u8 0, .int .u8 0, .int .u8 0, .int .u8 0, .int .u8 0, .int .u8 0, .int .u8 0, .int .u8 0, .int .u8 0, .int .u8 0, .slice none 0 0, .string .empty, .string .empty, .int .i64 0, .int .i64 0, .string .empty, .string .empty, .int .i64 0, .int .i64 0, .string .empty], .slice none 0 0], []⟩).memory :=
  laidMet_of_run' 8 (by kernel_rfl) (by kernel_rfl)
theorem reads (os : Os) {H : Type} (enc : TypeId × Value → H) : ∃ ds places, DataW.whole enc Tryz.prog ((laidWorld os).forCall (fun _ _ => 0) ⟨#[], #[.agg #[.int .u8 0, .int .u8 0, .int .u8 0, .int .u8 0, .int .u8 0, .int .u8 0, .int .u8 0, .int .u8 0, .int .u8 0, .int .u8 0, .int .u8 0, .int .u8 0, .int .u8 0, .int .u8 0, .int .u8 0, .int .u8 0, .int .u8 0, .int .u8 0, .int .u8 0, .int .u8 0, .slice none 0 0, .string .empty, .string .empty, .int .i64 0, .int .i64 0, .string .empty, .string .empty, .int .i64 0, .int .i64 0, .string .empty], .slice none 0 0], []⟩).memory Tryz.f3.params.toList Rows.commitPrintsSpec.vars false (#[.agg #[.int .u8 0, .int .u8 0, .int .u8 0, .int .u8 0, .int .u8 0, .int .u8 0, .int .u8 0, .int .u8 0, .int .u8 0, .int .u8 0, .int .u8 0, .int .u8 0, .int .u8 0, .int .u8 0, .int .u8 0, .int .u8 0, .int .u8 0, .int .u8 0, .int .u8 0, .int .u8 0, .slice none 0 0, .string .empty, .string .empty, .int .i64 0, .int .i64 0, .string .empty, .string .empty, .int .i64 0, .int .i64 0, .string .empty], .slice none 0 0] : Array Value).toList 8 = some (ds, [], places) :=
  ⟨[.agg [.agg (List.replicate 20 (.lit (.int .u8 0))), .nil, .agg [.lit (.string []), .lit (.string []), .lit (.int .i64 0), .lit (.int .i64 0)], .agg [.lit (.string []), .lit (.string []), .lit (.int .i64 0), .lit (.int .i64 0)], .lit (.string [])], .nil], [], by kernel_rfl⟩

set_option maxRecDepth 100000 in
theorem lifted (os : Os) (started : os.Started) (H : Type) (enc : TypeId × Value → H) (F : Stop.Interp) :
    ReturnsInHanded {} Tryz.checked os 3 .any ((OpenSpec.ofChange Rows.commitPrintsSpec).preRow enc Tryz.prog Tryz.f3 Rows.commitPrintsRow.domain false Rows.commitPrintsRow.laid) (((OpenSpec.ofChange Rows.commitPrintsSpec).at F).post enc Tryz.prog Tryz.f3 false true false false) := by
  obtain ⟨ds, places, hx⟩ := reads os enc
  refine returnsInHanded_of_row (C := Tryz.checked) (s := OpenSpec.ofChange Rows.commitPrintsSpec) own started (by kernel_rfl) Tryz.func3
    (witness_row_at (enc := enc) (C := Tryz.checked) false (laidWorld os) #[.agg #[.int .u8 0, .int .u8 0, .int .u8 0, .int .u8 0, .int .u8 0, .int .u8 0, .int .u8 0, .int .u8 0, .int .u8 0, .int .u8 0, .int .u8 0, .int .u8 0, .int .u8 0, .int .u8 0, .int .u8 0, .int .u8 0, .int .u8 0, .int .u8 0, .int .u8 0, .int .u8 0, .slice none 0 0, .string .empty, .string .empty, .int .i64 0, .int .i64 0, .string .empty, .string .empty, .int .i64 0, .int .i64 0, .string .empty], .slice none 0 0] rfl (by kernel_rfl) (by kernel_rfl) (by kernel_rfl)
      (OpenSpec.preRow_of_cond 8 hx (by kernel_rfl) (fun k hk => by cases hk) (by kernel_rfl) (laid_met os))) ?_
  intro W base args ds gs before hval hW _ _ _ hL hS _
  exact contract H enc W base args ds gs before hval hW hL hS

theorem said : Rows.CommitPrintsSaid :=
  OpenClaim.holds_of_cond 3 Tryz.f3 rfl rfl rfl rfl rfl rfl rfl ⟨rfl, rfl, rfl, rfl, rfl⟩ rfl rfl rfl rfl rfl (by kernel_rfl) Tryz.func3 (by kernel_rfl)
    (of_decide_eq_true (by kernel_rfl)) (by unfold Func.isWrapper; first | (rw [if_pos (by decide +kernel)]; kernel_rfl) | (rw [if_neg (by decide +kernel)]; exact ⟨rfl, rfl⟩))
    (fun os started H enc _ F => by rw [OpenClaim.pre_eq_preRow]; exact lifted os started H enc F)

theorem plain (f : FuncId) (fn : Func) (hf : Tryz.pinned.checked.prog.funcNamed "trestle/trestlelaw09.CommitPrints" = some f) (hfn : Tryz.pinned.checked.prog.funcs[f]? = some fn) :
    true = Tryz.pinned.checked.prog.looks [] ∧ ∀ (j : Nat) t, fn.params[j]? = some t → Tryz.pinned.checked.prog.wantsStandIn t = false := by
  obtain rfl : f = 3 := Option.some.inj ((show Tryz.prog.funcNamed "trestle/trestlelaw09.CommitPrints" = some 3 by kernel_rfl).symm.trans hf) |>.symm
  obtain rfl : fn = Tryz.f3 := (Option.some.inj (Tryz.func3.symm.trans hfn)).symm
  refine ⟨by kernel_rfl, fun j t ht => ?_⟩
  rw [Tryz.params3] at ht
  have hm := Array.mem_of_getElem? ht
  simp at hm
  rcases hm with rfl | rfl
  · exact (show Tryz.prog.wantsStandIn 28 = false by kernel_rfl)
  · exact (show Tryz.prog.wantsStandIn 29 = false by kernel_rfl)

theorem card : Rows.CommitPrintsCardSaid :=
  Claim7.holds_tied_plain_at .later [] _ _ _ _ said (fun _ h => by cases h) (by kernel_rfl) (fun _ h => by cases h) commitPrints_row_tie rfl ⟨rfl, rfl⟩ (by kernel_rfl) rfl plain (by kernel_rfl)

end Go.Proofs.YtemojhcbhljemaaGreatDoor.lawCommitPrints
