/- sha.mixed: a state behind a block. Conditions: the block has 64 bytes. -/
import Derived.Test.YtdlhabldjdkfbaaDoorSha3
import Derived.StillTailTactics
namespace Go.Proofs.YtdlhabldjdkfbaaDoor
set_option linter.unusedVariables false
set_option linter.unusedSimpArgs false
open Go.RowKit

abbrev tSt : TypeId := 61
def stCells (s : Pure.St) : List Value := [u32V s.a, u32V s.b, u32V s.c, u32V s.d, u32V s.e]
theorem stCells_one (s : Pure.St) : ∀ v ∈ stCells s, v.oneCell' = true := by
  intro v hv
  unfold stCells at hv
  simp only [List.mem_cons, List.not_mem_nil, or_false] at hv
  rcases hv with rfl | rfl | rfl | rfl | rfl <;> rfl
theorem infoSt (s : Pure.St) : (Tryd.prog.info? tSt).map (·.size) = some (stCells s).length := by
  have : (Tryd.prog.info? tSt).map (·.size) = some 5 := by kernel_rfl
  exact this
theorem index80 (ws : List UInt32) (hw : ws.length = 80) (k : Nat) (hk : k < 80) (w : World) :
    (Instr.index tW80 (.agg (wCells ws).toArray) (.int .i64 (k : Int))).run Tryd.prog w = .ok (u32V (ws.getD k 0)) w := by
  have hl : (wCells ws).length = 80 := by simp [wCells, hw]
  have hg : (wCells ws)[k]? = some (u32V (ws.getD k 0)) := by
    unfold wCells
    rw [List.getElem?_map, List.getD_eq_getElem?_getD, List.getElem?_eq_getElem (by omega)]
    rfl
  have hb : 0 ≤ (k : Int) ∧ (k : Int) < ((80 : Nat) : Int) := ⟨by omega, by omega⟩
  simp [Instr.index, run_underlying Tryd.underlying62, asIntOf, go_sem, hk]
  rw [hg, List.getD_eq_getElem?_getD]
  simp only [Sem.run_pure]
/-- What a round's number and constant are, as the walk reckons them. -/
theorem add_const (x y : UInt32) (k : Int) (hk : (y.toNat : Int) = k) : IntKind.u32.wrap ((x.toNat : Int) + k) = ((x + y).toNat : Int) := by subst hk; exact w_add x y

/-- A row stored into a block that was made just before: the block, and nothing else. -/
theorem wpList_store_newS {P : Program} {ops : Array Oper} {rest : List Oper} {op : Oper} {a : Act} {w : World} {Q : Exit → Act → World → Prop} (hgd : op.guard = none) (ty : TypeId) (x y : Operand) (ho : op.op = .store ty x y) (w0 : World) (zs : Array Value) (hw : w = w0.alloc (.cells zs ty)) (cells : List Value)
    (hx : a.eval x = .pointer (some ⟨w0.heap.size, 0, none⟩)) (hy : a.eval y = .agg cells.toArray) (hsz : zs.size = cells.length) (hi : (P.info? ty).map (·.size) = some cells.length) (h1 : ∀ v ∈ cells, v.oneCell' = true)
    (h : ∀ W', Grew w0 W' → W'.heap[w0.heap.size]? = some (.cells cells.toArray ty (0, 0)) → wpList P ops Q rest (a.put op.dst undef) W') : wpList P ops Q (op :: rest) a w := by
  subst hw
  refine wpList_store_row hgd ty x y ho w0.heap.size cells.toArray hx hy ty zs (heap_alloc_new w0 _) (by simpa using hi) (by simpa using hsz) (all_oneCell_toArray h1) ?_
  exact h _ (below_setRow ((Below.refl _ _).alloc (Nat.le_refl _) _) (Nat.le_refl _) _) (setRow_heap (w0.alloc (.cells zs ty)) w0.heap.size zs cells.toArray ty (0, 0) (heap_alloc_new w0 _))

def stGet (s : Pure.St) (i : Nat) : UInt32 := [s.a, s.b, s.c, s.d, s.e].getD i 0
/-- A state of which the first j numbers are summed up. -/
def mixC (s x : Pure.St) (j : Nat) : List Value := (List.range 5).map fun i => u32V (if i < j then stGet s i + stGet x i else stGet s i)

set_option maxRecDepth 100000 in
set_option maxHeartbeats 4000000 in
theorem sha_mixed (s : Pure.St) (p : Option Addr) (l : List UInt8) (cap : Nat) (w : World) (hl : l.length = 64) (hcap : 64 ≤ cap) (hcm : cap ≤ 9223372036854775807) (hr : Rd w p l) :
    Calls Tryd.prog 37 #[.agg (stCells s).toArray, .slice p 64 cap] w fun e w' => e = .returned (.agg (stCells (Pure.blockS s l)).toArray) ∧ Grew w w' := by
  have cS := (fun W (g : Grew w W) => sha_schedule p l cap W hl hcap hcm (hr.below g (Nat.le_refl _)) : ∀ W, Grew w W → _)
  have hsl := Pure.sched_len l 80
  have hrounds : ∀ k, Pure.roundsS (Pure.sched l 80) (k + 1) s = Pure.roundS k ((Pure.sched l 80).getD k 0) (Pure.roundsS (Pure.sched l 80) k s) := fun k => rfl
  have hblock : Pure.blockS s l = Pure.addS s (Pure.roundsS (Pure.sched l 80) 80 s) := rfl
  have hzero : Pure.roundsS (Pure.sched l 80) 0 s = s := rfl
  have HB := Lib.hid hblock
  have HR := Lib.hid hrounds
  have HZ := Lib.hid hzero
  generalize Pure.sched l 80 = ws at *
  obtain ⟨V1, hV1⟩ : ∃ V, w.alloc (.cells (stCells s).toArray tSt) = V := ⟨_, rfl⟩
  obtain ⟨V2, hV2⟩ : ∃ V, V1.alloc (.cells #[.int .u32 0, .int .u32 0, .int .u32 0, .int .u32 0, .int .u32 0] tSt) = V := ⟨_, rfl⟩
  have g1 : Grew w V1 := by rw [← hV1]; exact (Below.refl _ _).alloc (Nat.le_refl _) _
  have g12 : Grew V1 V2 := by rw [← hV2]; exact (Below.refl _ _).alloc (Nat.le_refl _) _
  have g2 := g1.trans' g12
  have hs1 : V1.heap.size = w.heap.size + 1 := by rw [← hV1]; simp
  have hs2 : V2.heap.size = w.heap.size + 2 := by rw [← hV2]; simp [hs1]
  have hbox : V2.heap[w.heap.size]? = some (.cells (stCells s).toArray tSt (0, 0)) := (g12.block w.heap.size (by omega)).trans (by rw [← hV1]; exact heap_alloc_new w _)
  have hout : V2.heap[w.heap.size + 1]? = some (.cells #[.int .u32 0, .int .u32 0, .int .u32 0, .int .u32 0, .int .u32 0] tSt (0, 0)) := by rw [← hs1, ← hV2]; exact heap_alloc_new V1 _
  have hrow := range_row hbox
  have hsA := hs2
  simp only [List.toList_toArray] at hrow
  have nfS := infoSt s
  have one1 := stCells_one s
  clear hblock hrounds hzero
  go_enter Tryd.func37, Tryd.ntmps37
  go_wp2_with (first | (refine wpList_load_mid rfl tSt _ rfl w.heap.size 0 rfl (stCells s) _ hrow Tryd.underlying61 rfl nfS ?_) | (refine wpList_store_newS rfl tSt _ _ rfl V2 _ rfl (stCells s) (by rw [hs2]; rfl) rfl rfl nfS one1 ?_; intro V3 g23 hA) | (go_at_call 43; with_reducible refine (cS _ (g2.trans' (by assumption))).mono ?_))
  rintro e1 W1 ⟨rfl, g3⟩
  have g2W : Grew V2 W1 := by have := Grew.trans' (a := V2) (by assumption) g3; exact this
  have hA1 := (g3.block V2.heap.size (Array.getElem?_eq_some_iff.1 hA).1).trans hA
  rw [hs2] at hA1
  obtain ⟨gA, hgA⟩ : ∃ gA, w.heap.size + 2 = gA := ⟨_, rfl⟩
  go_wp2
  rw [hgA] at hA1
  have hgA2 : V2.heap.size ≤ gA := by omega
  have hix := index80 ws hsl
  have HIX := Lib.hid hix
  clear hix g3 hA cS hrow one1
  go_loopw [15] (fun i wr => ∃ k : Nat, k ≤ 80 ∧ i = .int .i64 (k : Int) ∧ Grew V2 wr ∧ wr.heap[gA]? = some (.cells (stCells (Pure.roundsS ws k s)).toArray tSt (0, 0))) (fun i _ => 80 - (intOf i).toNat)
  case atStart => exact ⟨0, by omega, rfl, g2W, by rw [HZ.out]; exact hA1⟩
  case round =>
    obtain ⟨k, hk, rfl, hb, hblk⟩ := hrel
    clear hA1 g2W
    by_cases hk80 : k < 80
    · have f1 : decide ((k : Int) < 80) = true := decide_eq_true (by omega)
      have hx0 := HIX.out k hk80
      obtain ⟨x, hx⟩ : ∃ x, ws.getD k 0 = x := ⟨_, rfl⟩
      rw [hx] at hx0
      have hnext := HR.out k
      rw [hx] at hnext
      obtain ⟨⟨a, b, c, d, e⟩, hS⟩ : ∃ y, Pure.roundsS ws k s = y := ⟨_, rfl⟩
      rw [hS] at hblk hnext
      have HN := Lib.hid hnext
      clear hnext hS hx
      have c0 : wr.cell? ⟨gA, 0, none⟩ = some (u32V a) := by rw [cell_of_row wr gA 0 _ _ (0, 0) hblk]; rfl
      have c1 : wr.cell? ⟨gA, 1, none⟩ = some (u32V b) := by rw [cell_of_row wr gA 1 _ _ (0, 0) hblk]; rfl
      have c2 : wr.cell? ⟨gA, 2, none⟩ = some (u32V c) := by rw [cell_of_row wr gA 2 _ _ (0, 0) hblk]; rfl
      have c3 : wr.cell? ⟨gA, 3, none⟩ = some (u32V d) := by rw [cell_of_row wr gA 3 _ _ (0, 0) hblk]; rfl
      have c4 : wr.cell? ⟨gA, 4, none⟩ = some (u32V e) := by rw [cell_of_row wr gA 4 _ _ (0, 0) hblk]; rfl
      have d0 : wr.drew.cell? ⟨gA, 0, none⟩ = some (u32V a) := c0
      have d1 : wr.drew.cell? ⟨gA, 1, none⟩ = some (u32V b) := c1
      have d2 : wr.drew.cell? ⟨gA, 2, none⟩ = some (u32V c) := c2
      have d3 : wr.drew.cell? ⟨gA, 3, none⟩ = some (u32V d) := c3
      have d4 : wr.drew.cell? ⟨gA, 4, none⟩ = some (u32V e) := c4
      have b0 : wr.drew.drew.cell? ⟨gA, 0, none⟩ = some (u32V a) := c0
      have b1 : wr.drew.drew.cell? ⟨gA, 1, none⟩ = some (u32V b) := c1
      have b2 : wr.drew.drew.cell? ⟨gA, 2, none⟩ = some (u32V c) := c2
      have b3 : wr.drew.drew.cell? ⟨gA, 3, none⟩ = some (u32V d) := c3
      have hblk2 : wr.drew.drew.heap[gA]? = some (.cells (stCells ⟨a, b, c, d, e⟩).toArray tSt (0, 0)) := hblk
      have hb2 : Grew V2 wr.drew.drew := hb.drew.drew
      have cL5 : ∀ W, Calls Tryd.prog 44 #[.int .u32 (a.toNat : Int), .int .i64 5] W fun e w' => e = .returned (u32V (Pure.rotl a (UInt32.ofNat 5))) ∧ w' = W := fun W => (bits_left a 5 (.inr (.inl rfl)) W).mono fun _ _ h => ⟨h.1, h.2.symm⟩
      have cL30 : ∀ W, Calls Tryd.prog 44 #[.int .u32 (b.toNat : Int), .int .i64 30] W fun e w' => e = .returned (u32V (Pure.rotl b (UInt32.ofNat 30))) ∧ w' = W := fun W => (bits_left b 30 (.inr (.inr rfl)) W).mono fun _ _ h => ⟨h.1, h.2.symm⟩
      obtain ⟨r5, hr5⟩ : ∃ y, Pure.rotl a (UInt32.ofNat 5) = y := ⟨_, rfl⟩
      obtain ⟨r30, hr30⟩ : ∃ y, Pure.rotl b (UInt32.ofNat 30) = y := ⟨_, rfl⟩
      rw [hr5] at cL5
      rw [hr30] at cL30
      by_cases h20 : k < 20
      · have hq : (k : Int) / 20 = 0 := by omega
        obtain ⟨p1, hp1⟩ : ∃ y, b &&& c = y := ⟨_, rfl⟩
        obtain ⟨n1, hn1⟩ : ∃ y, ~~~b = y := ⟨_, rfl⟩
        obtain ⟨p2, hp2⟩ : ∃ y, n1 &&& d = y := ⟨_, rfl⟩
        obtain ⟨f, hf⟩ : ∃ y, p1 ||| p2 = y := ⟨_, rfl⟩
        have e1 := w_and b c
        have e2 := w_notM b
        have e3 := w_and n1 d
        have e4 := w_or p1 p2
        rw [hp1] at e1
        rw [hn1] at e2
        rw [hp2] at e3
        rw [hf] at e4
        obtain ⟨s1, hs1'⟩ : ∃ y, r5 + f = y := ⟨_, rfl⟩
        obtain ⟨s2, hs2'⟩ : ∃ y, s1 + e = y := ⟨_, rfl⟩
        obtain ⟨s3, hs3'⟩ : ∃ y, s2 + 0x5a827999 = y := ⟨_, rfl⟩
        obtain ⟨t, ht'⟩ : ∃ y, s3 + x = y := ⟨_, rfl⟩
        have a1 := w_add r5 f
        have a2 := w_add s1 e
        have a3 := add_const s2 0x5a827999 1518500249 rfl
        have a4 := w_add s3 x
        rw [hs1'] at a1
        rw [hs2'] at a2
        rw [hs3'] at a3
        rw [ht'] at a4
        have hfin : Pure.roundS k x ⟨a, b, c, d, e⟩ = ⟨t, a, r30, c, d⟩ := by
          unfold Pure.roundS Pure.mixP Pure.chP
          simp only [if_pos h20]
          rw [hp1, hn1, hp2, hf, show Pure.rotl a 5 = r5 from hr5, show Pure.rotl b 30 = r30 from hr30, hs1', hs2', hs3', ht']
        have HF := Lib.hid hfin
        clear hfin hp1 hn1 hp2 hf hs1' hs2' hs3' ht' hr5 hr30
        go_wp2
        refine wp_region_still_lit (by kernel_rfl) (by kernel_rfl) ?_
        change wpStill _ _ wr.drew _ _ _
        repeat still_step
        still_call (cL5 _)
        repeat still_step
        refine wpStill_nil ?_
        go_wp2
        refine wp_region_still_tail 11 (by kernel_rfl) (by kernel_rfl) ?_
        simp only [List.take_succ_cons, List.take_zero, List.drop_succ_cons, List.drop_zero]
        change wpStill _ _ wr.drew.drew _ _ _
        repeat still_step
        still_call (cL30 _)
        repeat still_step
        refine wpStill_nil ?_
        change wpList _ _ _ _ _ wr.drew.drew
        have hset := setRow_heap wr.drew.drew gA _ (stCells ⟨t, a, r30, c, d⟩).toArray tSt (0, 0) hblk2
        have hgr := below_setRow hb2 hgA2 (stCells ⟨t, a, r30, c, d⟩).toArray
        have nf5 : (Tryd.prog.info? tSt).map (·.size) = some (stCells ⟨t, a, r30, c, d⟩).toArray.size := infoSt ⟨t, a, r30, c, d⟩
        have hs5 : (stCells ⟨a, b, c, d, e⟩).toArray.size = (stCells ⟨t, a, r30, c, d⟩).toArray.size := rfl
        have ho5 := all_oneCell_toArray (stCells_one ⟨t, a, r30, c, d⟩)
        go_wp2_with (refine wpList_store_row rfl tSt _ _ rfl gA (stCells ⟨t, a, r30, c, d⟩).toArray rfl rfl tSt _ hblk2 nf5 hs5 ho5 ?_)
        go_roundw
        case rel => exact ⟨k + 1, by omega, by go_num, hgr, by rw [HN.out, HF.out]; exact hset⟩
        case measure => simp [intOf]; omega
      by_cases h40 : k < 40
      · have hq : (k : Int) / 20 = 1 := by omega
        obtain ⟨p1, hp1⟩ : ∃ y, b ^^^ c = y := ⟨_, rfl⟩
        obtain ⟨f, hf⟩ : ∃ y, p1 ^^^ d = y := ⟨_, rfl⟩
        have e1 := w_xor b c
        have e2 := w_xor p1 d
        rw [hp1] at e1
        rw [hf] at e2
        obtain ⟨s1, hs1'⟩ : ∃ y, r5 + f = y := ⟨_, rfl⟩
        obtain ⟨s2, hs2'⟩ : ∃ y, s1 + e = y := ⟨_, rfl⟩
        obtain ⟨s3, hs3'⟩ : ∃ y, s2 + 0x6ed9eba1 = y := ⟨_, rfl⟩
        obtain ⟨t, ht'⟩ : ∃ y, s3 + x = y := ⟨_, rfl⟩
        have a1 := w_add r5 f
        have a2 := w_add s1 e
        have a3 := add_const s2 0x6ed9eba1 1859775393 rfl
        have a4 := w_add s3 x
        rw [hs1'] at a1
        rw [hs2'] at a2
        rw [hs3'] at a3
        rw [ht'] at a4
        have hfin : Pure.roundS k x ⟨a, b, c, d, e⟩ = ⟨t, a, r30, c, d⟩ := by
          unfold Pure.roundS Pure.mixP
          simp only [if_neg h20, if_pos h40]
          rw [hp1, hf, show Pure.rotl a 5 = r5 from hr5, show Pure.rotl b 30 = r30 from hr30, hs1', hs2', hs3', ht']
        have HF := Lib.hid hfin
        clear hfin hp1 hf hs1' hs2' hs3' ht' hr5 hr30
        go_wp2
        refine wp_region_still_lit (by kernel_rfl) (by kernel_rfl) ?_
        change wpStill _ _ wr.drew _ _ _
        repeat still_step
        still_call (cL5 _)
        repeat still_step
        refine wpStill_nil ?_
        go_wp2
        refine wp_region_still_tail 11 (by kernel_rfl) (by kernel_rfl) ?_
        simp only [List.take_succ_cons, List.take_zero, List.drop_succ_cons, List.drop_zero]
        change wpStill _ _ wr.drew.drew _ _ _
        repeat still_step
        still_call (cL30 _)
        repeat still_step
        refine wpStill_nil ?_
        change wpList _ _ _ _ _ wr.drew.drew
        have hset := setRow_heap wr.drew.drew gA _ (stCells ⟨t, a, r30, c, d⟩).toArray tSt (0, 0) hblk2
        have hgr := below_setRow hb2 hgA2 (stCells ⟨t, a, r30, c, d⟩).toArray
        have nf5 : (Tryd.prog.info? tSt).map (·.size) = some (stCells ⟨t, a, r30, c, d⟩).toArray.size := infoSt ⟨t, a, r30, c, d⟩
        have hs5 : (stCells ⟨a, b, c, d, e⟩).toArray.size = (stCells ⟨t, a, r30, c, d⟩).toArray.size := rfl
        have ho5 := all_oneCell_toArray (stCells_one ⟨t, a, r30, c, d⟩)
        go_wp2_with (refine wpList_store_row rfl tSt _ _ rfl gA (stCells ⟨t, a, r30, c, d⟩).toArray rfl rfl tSt _ hblk2 nf5 hs5 ho5 ?_)
        go_roundw
        case rel => exact ⟨k + 1, by omega, by go_num, hgr, by rw [HN.out, HF.out]; exact hset⟩
        case measure => simp [intOf]; omega
      by_cases h60 : k < 60
      · have hq : (k : Int) / 20 = 2 := by omega
        obtain ⟨p1, hp1⟩ : ∃ y, b &&& c = y := ⟨_, rfl⟩
        obtain ⟨p2, hp2⟩ : ∃ y, b &&& d = y := ⟨_, rfl⟩
        obtain ⟨p3, hp3⟩ : ∃ y, p1 ||| p2 = y := ⟨_, rfl⟩
        obtain ⟨p4, hp4⟩ : ∃ y, c &&& d = y := ⟨_, rfl⟩
        obtain ⟨f, hf⟩ : ∃ y, p3 ||| p4 = y := ⟨_, rfl⟩
        have e1 := w_and b c
        have e2 := w_and b d
        have e3 := w_or p1 p2
        have e4 := w_and c d
        have e5 := w_or p3 p4
        rw [hp1] at e1
        rw [hp2] at e2
        rw [hp3] at e3
        rw [hp4] at e4
        rw [hf] at e5
        obtain ⟨s1, hs1'⟩ : ∃ y, r5 + f = y := ⟨_, rfl⟩
        obtain ⟨s2, hs2'⟩ : ∃ y, s1 + e = y := ⟨_, rfl⟩
        obtain ⟨s3, hs3'⟩ : ∃ y, s2 + 0x8f1bbcdc = y := ⟨_, rfl⟩
        obtain ⟨t, ht'⟩ : ∃ y, s3 + x = y := ⟨_, rfl⟩
        have a1 := w_add r5 f
        have a2 := w_add s1 e
        have a3 := add_const s2 0x8f1bbcdc 2400959708 rfl
        have a4 := w_add s3 x
        rw [hs1'] at a1
        rw [hs2'] at a2
        rw [hs3'] at a3
        rw [ht'] at a4
        have hfin : Pure.roundS k x ⟨a, b, c, d, e⟩ = ⟨t, a, r30, c, d⟩ := by
          unfold Pure.roundS Pure.mixP Pure.majP
          simp only [if_neg h20, if_neg h40, if_pos h60]
          rw [hp1, hp2, hp3, hp4, hf, show Pure.rotl a 5 = r5 from hr5, show Pure.rotl b 30 = r30 from hr30, hs1', hs2', hs3', ht']
        have HF := Lib.hid hfin
        clear hfin hp1 hp2 hp3 hp4 hf hs1' hs2' hs3' ht' hr5 hr30
        go_wp2
        refine wp_region_still_lit (by kernel_rfl) (by kernel_rfl) ?_
        change wpStill _ _ wr.drew _ _ _
        repeat still_step
        still_call (cL5 _)
        repeat still_step
        refine wpStill_nil ?_
        go_wp2
        refine wp_region_still_tail 11 (by kernel_rfl) (by kernel_rfl) ?_
        simp only [List.take_succ_cons, List.take_zero, List.drop_succ_cons, List.drop_zero]
        change wpStill _ _ wr.drew.drew _ _ _
        repeat still_step
        still_call (cL30 _)
        repeat still_step
        refine wpStill_nil ?_
        change wpList _ _ _ _ _ wr.drew.drew
        have hset := setRow_heap wr.drew.drew gA _ (stCells ⟨t, a, r30, c, d⟩).toArray tSt (0, 0) hblk2
        have hgr := below_setRow hb2 hgA2 (stCells ⟨t, a, r30, c, d⟩).toArray
        have nf5 : (Tryd.prog.info? tSt).map (·.size) = some (stCells ⟨t, a, r30, c, d⟩).toArray.size := infoSt ⟨t, a, r30, c, d⟩
        have hs5 : (stCells ⟨a, b, c, d, e⟩).toArray.size = (stCells ⟨t, a, r30, c, d⟩).toArray.size := rfl
        have ho5 := all_oneCell_toArray (stCells_one ⟨t, a, r30, c, d⟩)
        go_wp2_with (refine wpList_store_row rfl tSt _ _ rfl gA (stCells ⟨t, a, r30, c, d⟩).toArray rfl rfl tSt _ hblk2 nf5 hs5 ho5 ?_)
        go_roundw
        case rel => exact ⟨k + 1, by omega, by go_num, hgr, by rw [HN.out, HF.out]; exact hset⟩
        case measure => simp [intOf]; omega
      have hq : (k : Int) / 20 = 3 := by omega
      obtain ⟨p1, hp1⟩ : ∃ y, b ^^^ c = y := ⟨_, rfl⟩
      obtain ⟨f, hf⟩ : ∃ y, p1 ^^^ d = y := ⟨_, rfl⟩
      have e1 := w_xor b c
      have e2 := w_xor p1 d
      rw [hp1] at e1
      rw [hf] at e2
      obtain ⟨s1, hs1'⟩ : ∃ y, r5 + f = y := ⟨_, rfl⟩
      obtain ⟨s2, hs2'⟩ : ∃ y, s1 + e = y := ⟨_, rfl⟩
      obtain ⟨s3, hs3'⟩ : ∃ y, s2 + 0xca62c1d6 = y := ⟨_, rfl⟩
      obtain ⟨t, ht'⟩ : ∃ y, s3 + x = y := ⟨_, rfl⟩
      have a1 := w_add r5 f
      have a2 := w_add s1 e
      have a3 := add_const s2 0xca62c1d6 3395469782 rfl
      have a4 := w_add s3 x
      rw [hs1'] at a1
      rw [hs2'] at a2
      rw [hs3'] at a3
      rw [ht'] at a4
      have hfin : Pure.roundS k x ⟨a, b, c, d, e⟩ = ⟨t, a, r30, c, d⟩ := by
        unfold Pure.roundS Pure.mixP
        simp only [if_neg h20, if_neg h40, if_neg h60]
        rw [hp1, hf, show Pure.rotl a 5 = r5 from hr5, show Pure.rotl b 30 = r30 from hr30, hs1', hs2', hs3', ht']
      have HF := Lib.hid hfin
      clear hfin hp1 hf hs1' hs2' hs3' ht' hr5 hr30
      go_wp2
      refine wp_region_still_lit (by kernel_rfl) (by kernel_rfl) ?_
      change wpStill _ _ wr.drew _ _ _
      repeat still_step
      still_call (cL5 _)
      repeat still_step
      refine wpStill_nil ?_
      go_wp2
      refine wp_region_still_tail 11 (by kernel_rfl) (by kernel_rfl) ?_
      simp only [List.take_succ_cons, List.take_zero, List.drop_succ_cons, List.drop_zero]
      change wpStill _ _ wr.drew.drew _ _ _
      repeat still_step
      still_call (cL30 _)
      repeat still_step
      refine wpStill_nil ?_
      change wpList _ _ _ _ _ wr.drew.drew
      have hset := setRow_heap wr.drew.drew gA _ (stCells ⟨t, a, r30, c, d⟩).toArray tSt (0, 0) hblk2
      have hgr := below_setRow hb2 hgA2 (stCells ⟨t, a, r30, c, d⟩).toArray
      have nf5 : (Tryd.prog.info? tSt).map (·.size) = some (stCells ⟨t, a, r30, c, d⟩).toArray.size := infoSt ⟨t, a, r30, c, d⟩
      have hs5 : (stCells ⟨a, b, c, d, e⟩).toArray.size = (stCells ⟨t, a, r30, c, d⟩).toArray.size := rfl
      have ho5 := all_oneCell_toArray (stCells_one ⟨t, a, r30, c, d⟩)
      go_wp2_with (refine wpList_store_row rfl tSt _ _ rfl gA (stCells ⟨t, a, r30, c, d⟩).toArray rfl rfl tSt _ hblk2 nf5 hs5 ho5 ?_)
      go_roundw
      case rel => exact ⟨k + 1, by omega, by go_num, hgr, by rw [HN.out, HF.out]; exact hset⟩
      case measure => simp [intOf]; omega
    · obtain rfl : k = 80 := by omega
      obtain ⟨A, hA⟩ : ∃ A, Pure.roundsS ws 80 s = A := ⟨_, rfl⟩
      rw [hA] at hblk
      have hB2 := HB.out
      rw [hA] at hB2
      have HB3 := Lib.hid hB2
      have hbx := (hb.block w.heap.size (by omega)).trans hbox
      have hob := (hb.block (w.heap.size + 1) (by omega)).trans hout
      have hgw := g2.trans' hb
      clear hB2 hA hb hbox hout
      go_wp2
      go_loopw [96] (fun i w2 => ∃ j : Nat, j ≤ 5 ∧ i = .int .i64 (j : Int) ∧ Grew w w2 ∧ w2.heap[w.heap.size]? = some (.cells (mixC s A j).toArray tSt (0, 0)) ∧ w2.heap[w.heap.size + 1]? = some (.cells #[.int .u32 0, .int .u32 0, .int .u32 0, .int .u32 0, .int .u32 0] tSt (0, 0)) ∧ w2.heap[gA]? = some (.cells (stCells A).toArray tSt (0, 0))) (fun i _ => 5 - (intOf i).toNat)
      case atStart => exact ⟨0, by omega, rfl, hgw, hbx, hob, hblk⟩
      case round =>
        obtain ⟨j, hj, rfl, hgw2, hbx2, hob2, hA2⟩ := hrel
        clear hbx hob hblk hgw
        by_cases hj5 : j < 5
        · have f1 : decide ((j : Int) < 5) = true := decide_eq_true (by omega)
          have hm : ∃ x y : UInt32, wr.cell? ⟨w.heap.size, j, none⟩ = some (u32V x) ∧ wr.cell? ⟨gA, j, none⟩ = some (u32V y) ∧ (mixC s A j).toArray.setIfInBounds j (u32V (x + y)) = (mixC s A (j + 1)).toArray := by
            refine ⟨stGet s j, stGet A j, ?_, ?_, ?_⟩
            · rw [cell_of_row wr _ j _ _ (0, 0) hbx2]
              have : j = 0 ∨ j = 1 ∨ j = 2 ∨ j = 3 ∨ j = 4 := by omega
              rcases this with rfl | rfl | rfl | rfl | rfl <;> rfl
            · rw [cell_of_row wr _ j _ _ (0, 0) hA2]
              have : j = 0 ∨ j = 1 ∨ j = 2 ∨ j = 3 ∨ j = 4 := by omega
              rcases this with rfl | rfl | rfl | rfl | rfl <;> rfl
            · have : j = 0 ∨ j = 1 ∨ j = 2 ∨ j = 3 ∨ j = 4 := by omega
              rcases this with rfl | rfl | rfl | rfl | rfl <;> rfl
          obtain ⟨x, y, hcx, hcy, hset⟩ := hm
          have dx : wr.drew.cell? ⟨w.heap.size, j, none⟩ = some (u32V x) := hcx
          have dy : wr.drew.cell? ⟨gA, j, none⟩ = some (u32V y) := hcy
          have dbx : wr.drew.heap[w.heap.size]? = some (.cells (mixC s A j).toArray tSt (0, 0)) := hbx2
          have dfz : wr.drew.frozen? ⟨w.heap.size, j, none⟩ = false := by simp [World.frozen?, dbx]
          obtain ⟨z, hz⟩ : ∃ z, x + y = z := ⟨_, rfl⟩
          have ea := w_add x y
          rw [hz] at ea hset
          have hh := set_cell_any wr.drew w.heap.size j _ _ _ (u32V z) dbx
          rw [hset] at hh
          have hh1 := (heap_setCell_other wr.drew ⟨w.heap.size, j, none⟩ (w.heap.size + 1) (u32V z) (by show w.heap.size + 1 ≠ w.heap.size; omega)).trans (show wr.drew.heap[w.heap.size + 1]? = _ from hob2)
          have hh2 := (heap_setCell_other wr.drew ⟨w.heap.size, j, none⟩ gA (u32V z) (by show gA ≠ w.heap.size; omega)).trans (show wr.drew.heap[gA]? = _ from hA2)
          have hgr : Grew w (wr.drew.setCell ⟨w.heap.size, j, none⟩ (u32V z)) := (hgw2.drew).setCell (p := ⟨w.heap.size, j, none⟩) (Nat.le_refl _) _
          have ij : (j : Int) < 5 := by omega
          have ij0 : (0 : Int) ≤ (j : Int) := by omega
          have HH := Lib.hid hh
          have HH1 := Lib.hid hh1
          have HH2 := Lib.hid hh2
          clear hh hh1 hh2 hset hz dbx
          go_wp2
          refine wp_region_still_tail 8 (by kernel_rfl) (by kernel_rfl) ?_
          simp only [List.take_succ_cons, List.take_zero, List.drop_succ_cons, List.drop_zero]
          change wpStill _ _ wr.drew _ _ _
          repeat still_step
          refine wpStill_nil ?_
          change wpList _ _ _ _ _ wr.drew
          generalize wr.drew = wd at *
          go_wp2
          go_roundw
          case rel =>
            refine ⟨_, _, _, _, _, _, _, _, _, _, _, _, _, ?_, rfl⟩
            exact ⟨j + 1, by omega, by go_num, hgr, HH.out, HH1.out, HH2.out⟩
          case measure => simp [intOf]; omega
        · obtain rfl : j = 5 := by omega
          have hfin : mixC s A 5 = stCells (Pure.addS s A) := rfl
          rw [hfin] at hbx2
          have hrow := range_row hbx2
          simp only [List.toList_toArray] at hrow
          have nf5 := infoSt (Pure.addS s A)
          have nf5' : (Tryd.prog.info? tSt).map (·.size) = some (stCells (Pure.addS s A)).toArray.size := infoSt (Pure.addS s A)
          have ho5 := all_oneCell_toArray (stCells_one (Pure.addS s A))
          have hs5 : (#[.int .u32 0, .int .u32 0, .int .u32 0, .int .u32 0, .int .u32 0] : Array Value).size = (stCells (Pure.addS s A)).toArray.size := rfl
          rw [← HB3.out] at hrow nf5 nf5' ho5 hs5
          clear hbx2 hfin
          go_wp2_with (first | (refine wpList_load_mid rfl tSt _ rfl w.heap.size 0 rfl (stCells (Pure.blockS s l)) _ hrow Tryd.underlying61 rfl nf5 ?_) | (refine wpList_store_row rfl tSt (.tmp 4) (.tmp 108) rfl (w.heap.size + 1) (stCells (Pure.blockS s l)).toArray rfl rfl tSt _ hob2 nf5' hs5 ho5 ?_))
          refine bodyPost_ret (results_cell_mid Tryd.results37 _ _ (w.heap.size + 1) 0 (stCells (Pure.blockS s l)) _ rfl (range_setRow hob2 _) Tryd.underlying61 rfl nf5) rfl ?_
          exact ⟨rfl, below_setRow hgw2 (by omega) _⟩

end Go.Proofs.YtdlhabldjdkfbaaDoor
