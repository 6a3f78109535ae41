/- sha.Sum: the sum of parts. Conditions: the parts together have at most 2^40 bytes. -/
import Derived.Test.YtdlhabldjdkfbaaDoorSha4
import Derived.Test.YtdlhabldjdkfbaaDoorConcat
namespace Go.Proofs.YtdlhabldjdkfbaaDoor
set_option linter.unusedVariables false
set_option linter.unusedSimpArgs false
open Go.RowKit

theorem wpStill_load_mid {P : Program} {ops : Array Oper} {rest : List Oper} {op : Oper} {a : Act} {w : World} {Q : Act → Prop} (hgd : op.guard = none) (ty : TypeId) (x : Operand) (ho : op.op = .load ty x)
    (b o : Nat) (hx : a.eval x = .pointer (some ⟨b, o, none⟩)) (cs : List Value) (d : TypeDesc) (hc : w.rangeAt b o cs) (hu : P.underlying ty = some d) (hd : d.isRow = true) (hi : (P.info? ty).map (·.size) = some cs.length)
    (h : wpStill P ops w Q rest (a.put op.dst (.agg cs.toArray))) : wpStill P ops w Q (op :: rest) a := by
  refine wpStill_step fun K hK => ?_
  have hw : Region.wanted op (yielded ops a.tmps) = true := by simp [Region.wanted, hgd]
  rw [if_pos hw]
  unfold Oper.still execOp
  simp only [ho, hx, Instr.loadAt, Instr.sureAddr, Sem.run_bind, Sem.run_pure, Result.andThen_ok, run_loadVar_mid w b o ty cs d hc hu hd hi, Oper.stillUpon]
  exact ⟨trivial, hK _ h⟩

/-- One byte in a row of its own. -/
theorem Rd.one (w : World) (x : UInt8) (ty : TypeId) : Rd (w.alloc (.cells #[.int .u8 (x.toNat : Int)] ty)) (some ⟨w.heap.size, 0, none⟩) [x] :=
  .inr ⟨_, 0, rfl, by simp, fun i hi => by
    have : i = 0 := by simp at hi; omega
    subst this
    rw [cell_of_row _ _ _ _ _ (0, 0) (heap_alloc_new w _)]
    rfl⟩

theorem Rd.oneZ (w : World) (z : Int) (x : UInt8) (ty : TypeId) (h : z = (x.toNat : Int)) : Rd (w.alloc (.cells #[.int .u8 z] ty)) (some ⟨w.heap.size, 0, none⟩) [x] := by
  subst h
  exact Rd.one w x ty

theorem OwnB.cap {w : World} {base : Nat} {p : Option Addr} {n c : Nat} {l : List UInt8} (h : OwnB w base (.slice p n c) l) : c ≤ 9223372036854775807 := by
  rcases h with ⟨h, _⟩ | ⟨g, cap, cur, fz, h, _, _, _, _, hm, _⟩
  · cases h; omega
  · cases h; unfold maxLen at hm; exact hm

def padA (l : List UInt8) (j : Nat) : List UInt8 := l ++ 128 :: List.replicate j 0
theorem padA_zero (l : List UInt8) : padA l 0 = l ++ [128] := rfl
theorem padA_succ (l : List UInt8) (j : Nat) : padA l (j + 1) = padA l j ++ [0] := by unfold padA; rw [List.replicate_succ']; simp
theorem padA_len (l : List UInt8) (j : Nat) : (padA l j).length = l.length + 1 + j := by unfold padA; simp; omega
def padB (l : List UInt8) (i : Nat) : List UInt8 := padA l (Pure.padN l.length) ++ (Pure.lenB l.length).take i
theorem padB_zero (l : List UInt8) : padB l 0 = padA l (Pure.padN l.length) := by simp [padB]
theorem padB_succ (l : List UInt8) (i : Nat) (hi : i < 8) : padB l (i + 1) = padB l i ++ [UInt8.ofNat (l.length * 8 / 2 ^ (56 - 8 * i))] := by
  have h : (Pure.lenB l.length)[i]? = some (UInt8.ofNat (l.length * 8 / 2 ^ (56 - 8 * i))) := by
    unfold Pure.lenB
    rw [List.getElem?_map, List.getElem?_range hi]; rfl
  unfold padB
  rw [List.take_add_one, h, List.append_assoc]; rfl
theorem padB_last (l : List UInt8) : padB l 8 = Pure.padded l := by
  unfold padB Pure.padded padA
  rw [List.take_of_length_le (by simp [Pure.lenB])]
theorem padB_len (l : List UInt8) (i : Nat) (hi : i ≤ 8) : (padB l i).length = l.length + 1 + Pure.padN l.length + i := by
  unfold padB
  rw [List.length_append, padA_len, List.length_take]
  simp [Pure.lenB]; omega
theorem pad_ends (n j : Nat) (hj : j ≤ Pure.padN n) : (n + 1 + j) % 64 = 56 ↔ j = Pure.padN n := by unfold Pure.padN at *; omega

theorem byte_of (n : Nat) : (n : Int) % 256 = ((UInt8.ofNat n).toNat : Int) := by
  rw [UInt8.toNat_ofNat']; omega

def slLen : Value → Nat
  | .slice _ n _ => n
  | _ => 0

/-- b[lo:hi] of a slice of bytes that is not used up. -/
theorem slice_bytes (b o n c lo hi : Nat) (x y : Int) (hx : x = (lo : Int)) (hy : y = (hi : Int)) (h1 : lo < c) (h2 : lo ≤ hi) (h3 : hi ≤ c) (W : World) :
    (Instr.slice 22 (.slice (some ⟨b, o, none⟩) n c) (some (.int .i64 x)) (some (.int .i64 y)) none).run Tryd.prog W = .ok (.slice (some ⟨b, o + lo, none⟩) (hi - lo) (c - lo)) W := by
  subst hx hy
  have hne : ¬ c = lo := by omega
  rw [run_slice_lh W 22 _ n c Tryd.underlying22 .i64 .i64 _ _ (by omega) (by omega) (by omega)]
  simp [go_sem, sliced, hne, Addr.add]

def outC (s : Pure.St) (i : Nat) : List UInt8 := (List.range 20).map fun j => if j < i then Pure.byteS s j else 0
theorem outC_len (s : Pure.St) (i : Nat) : (outC s i).length = 20 := by simp [outC]
theorem outC_next (s : Pure.St) (i : Nat) (hi : i < 20) : (Lib.byteCells (outC s i)).toArray.setIfInBounds i (.int .u8 ((Pure.byteS s i).toNat : Int)) = (Lib.byteCells (outC s (i + 1))).toArray := by
  have : i = 0 ∨ i = 1 ∨ i = 2 ∨ i = 3 ∨ i = 4 ∨ i = 5 ∨ i = 6 ∨ i = 7 ∨ i = 8 ∨ i = 9 ∨ i = 10 ∨ i = 11 ∨ i = 12 ∨ i = 13 ∨ i = 14 ∨ i = 15 ∨ i = 16 ∨ i = 17 ∨ i = 18 ∨ i = 19 := by omega
  rcases this with rfl | rfl | rfl | rfl | rfl | rfl | rfl | rfl | rfl | rfl | rfl | rfl | rfl | rfl | rfl | rfl | rfl | rfl | rfl | rfl <;> rfl
theorem outC_last (s : Pure.St) : outC s 20 = (List.range 20).map (Pure.byteS s) := by rfl
theorem byte_shr (x : UInt32) (n : Nat) (hn : n < 32) (k : Int) (hk : ((2 ^ n : Nat) : Int) = k) : IntKind.u8.wrap ((x.toNat : Int) / k) = (((x >>> UInt32.ofNat n).toUInt8).toNat : Int) := by
  rw [w_shr x n hn k hk]
  have h : ∀ z : Int, IntKind.u8.wrap z = z % 256 := fun z => rfl
  rw [h, UInt32.toNat_toUInt8]
  omega
theorem byteS_at (s : Pure.St) (q r : Nat) (hr : r < 4) : Pure.byteS s (4 * q + r) = ((stGet s q) >>> UInt32.ofNat (24 - 8 * r)).toUInt8 ∨ ¬ q < 5 := by
  by_cases hq : q < 5
  · left
    have h1 : q = 0 ∨ q = 1 ∨ q = 2 ∨ q = 3 ∨ q = 4 := by omega
    have h2 : r = 0 ∨ r = 1 ∨ r = 2 ∨ r = 3 := by omega
    rcases h1 with rfl | rfl | rfl | rfl | rfl <;> rcases h2 with rfl | rfl | rfl | rfl <;> rfl
  · exact .inr hq

set_option maxRecDepth 100000 in
set_option maxHeartbeats 4000000 in
theorem sha_Sum (p : Option Addr) (ls : List (List UInt8)) (cap : Nat) (w : World) (hr : RdP w p ls) (hn : ls.length ≤ 1000) (hl : ls.flatten.length ≤ 1099511627776) :
    Calls Tryd.prog 23 #[.slice p ls.length cap] w fun e w' => e = .returned (idV (Pure.sumS ls.flatten)) ∧ Grew w w' := by
  obtain ⟨V0, hV0⟩ : ∃ V0, w.alloc (.cells #[.int .u8 0, .int .u8 0, .int .u8 0, .int .u8 0, .int .u8 0, .int .u8 0, .int .u8 0, .int .u8 0, .int .u8 0, .int .u8 0, .int .u8 0, .int .u8 0, .int .u8 0, .int .u8 0, .int .u8 0, .int .u8 0, .int .u8 0, .int .u8 0, .int .u8 0, .int .u8 0] 30) = V0 := ⟨_, rfl⟩
  have g0 : Grew w V0 := by rw [← hV0]; exact (Below.refl _ _).alloc (Nat.le_refl _) _
  have hg0 : V0.heap.size = w.heap.size + 1 := by rw [← hV0]; simp
  have hres : V0.heap[w.heap.size]? = some (.cells #[.int .u8 0, .int .u8 0, .int .u8 0, .int .u8 0, .int .u8 0, .int .u8 0, .int .u8 0, .int .u8 0, .int .u8 0, .int .u8 0, .int .u8 0, .int .u8 0, .int .u8 0, .int .u8 0, .int .u8 0, .int .u8 0, .int .u8 0, .int .u8 0, .int .u8 0, .int .u8 0] 30 (0, 0)) := by rw [← hV0]; exact heap_alloc_new w _
  have cC := slices_Concat p ls cap V0 (hr.below g0) hn hl
  obtain ⟨L, hL⟩ : ∃ L, ls.flatten = L := ⟨_, rfl⟩
  rw [hL] at cC hl ⊢
  have HR := Lib.hid hres
  have HG := Lib.hid hg0
  clear hr hL hres hg0
  go_enter Tryd.func23, Tryd.ntmps23
  go_wp2_with fail
  go_fit cC
  rintro e1 W1 ⟨v1, rfl, how1, g1⟩
  obtain ⟨p1, c1, rfl, hr1, hlc1, hat1⟩ := how1.val
  have hA0 := padA_zero L
  have hAs := padA_succ L
  have hAl := padA_len L
  have hl0 : L.length ≤ 140737488355328 - 200 := by omega
  have HA0 := Lib.hid hA0
  have HAs := Lib.hid hAs
  have HAl := Lib.hid hAl
  clear cC hA0 hAs hAl
  go_wp2_with (at_builtin; refine wpList_append_B rfl _ _ rfl V0.heap.size _ L [128] _ 1 rfl rfl (how1.below ((Below.refl _ _).alloc (Nat.le_refl _) _)) (Rd.one W1 128 _) (by have := g1.size; simp; omega) (by simp; omega) ?_)
  intro v2 W2 how2 hb2 hgb2
  have gv2 : Grew V0 W2 := (g1.trans' ((Below.refl _ _).alloc (Nat.le_refl _) _)).trans hb2
  rw [← HA0.out] at how2
  clear how1 hr1 hat1 hb2 hgb2 HA0 g1
  obtain ⟨B, hB⟩ : ∃ B, V0.heap.size = B := ⟨_, rfl⟩
  rw [hB] at how2
  have HB := Lib.hid hB
  clear hB
  go_wp2_with fail
  obtain ⟨N, hN⟩ : ∃ N, Pure.padN L.length = N := ⟨_, rfl⟩
  have hN64 : N < 64 := by rw [← hN]; unfold Pure.padN; omega
  have hends := pad_ends L.length
  rw [hN] at hends
  have HE := Lib.hid hends
  have HN := Lib.hid hN
  clear hN hends
  go_loopw [3] (fun v wr => ∃ j : Nat, j ≤ N ∧ OwnB wr B v (padA L j) ∧ Grew V0 wr) (fun v _ => (L.length + 1 + N) - slLen v)
  case atStart => exact ⟨0, by omega, how2, gv2⟩
  case round =>
    obtain ⟨j, hj, how, hgv⟩ := hrel
    obtain ⟨p3, c3, rfl, hr3, hlc3, hat3⟩ := how.val
    have hal := HAl.out j
    rw [hal] at hlc3 ⊢
    by_cases hjN : j < N
    · have hne : ¬ (((L.length + 1 + j : Nat) : Int) % 64 = 56) := by
        have := (HE.out j hj).1
        omega
      have hAs := HAs.out j
      have HAS := Lib.hid hAs
      have HAL := Lib.hid hal
      clear hr3 hat3 hal hAs how2 gv2
      go_wp2_with (at_builtin; refine wpList_append_B rfl _ _ rfl B _ (padA L j) [0] _ 1 (by rw [HAL.out]; rfl) rfl (how.below ((Below.refl _ _).alloc (Nat.le_refl _) _)) (Rd.one wr 0 _) (by have := hgv.size; have := HB.out; simp; omega) (by rw [HAL.out]; simp; omega) ?_)
      intro v5 W5 how5 hb5 hgb5
      have gv5 : Grew V0 W5 := (hgv.trans' ((Below.refl _ _).alloc (Nat.le_refl _) _)).trans (by rw [← HB.out] at hb5; exact hb5)
      rw [← HAS.out] at how5
      obtain ⟨p5, c5, rfl, hr5, hlc5, hat5⟩ := how5.val
      have hal5 := HAl.out (j + 1)
      have HAL5 := Lib.hid hal5
      clear hb5 hgb5 hr5 hat5 hal5
      go_wp2
      go_roundw
      case rel => exact ⟨j + 1, by omega, how5, gv5⟩
      case measure =>
        simp only [slLen]
        have := HAL5.out
        have := HAL.out
        omega
    · obtain rfl : j = N := by omega
      have heq : ((L.length + 1 + j : Nat) : Int) % 64 = 56 := by
        have := (HE.out j hj).2 rfl
        omega
      have hbne : (((L.length : Int) + 1 + (j : Int)) % 64 != 56) = false := by
        have := (HE.out j hj).2 rfl
        rw [bne_eq_false_iff_eq]
        omega
      have h0 : padB L 0 = padA L j := by rw [padB_zero, HN.out]
      have how0 := how
      rw [← h0] at how0
      have hps := padB_succ L
      have hpl := padB_len L
      rw [HN.out] at hpl
      have hpe := padB_last L
      have HP := Lib.hid hps
      have HPL := Lib.hid hpl
      have HPE := Lib.hid hpe
      have HH0 := Lib.hid h0
      have hsz0 : L.length + 1 + j = (padB L 0).length := by rw [h0, hal]
      have HSZ0 := Lib.hid hsz0
      clear hsz0 h0 hps hpl hpe hr3 hat3 hal how how2 gv2
      go_wp2_with fail
      go_loopw [3, 5] (fun v k wr => ∃ i : Nat, i ≤ 8 ∧ k = .int .i64 (56 - 8 * (i : Int)) ∧ OwnB wr B v (padB L i) ∧ Grew V0 wr) (fun _ k _ => (intOf k + 8).toNat)
      case atStart => exact ⟨0, by omega, rfl, by rw [HSZ0.out]; exact how0, hgv⟩
      case round =>
        obtain ⟨i, hi, rfl, how, hgv⟩ := hrel
        obtain ⟨p6, c6, rfl, hr6, hlc6, hat6⟩ := how.val
        have hpl := HPL.out i hi
        have hi9 : i = 0 ∨ i = 1 ∨ i = 2 ∨ i = 3 ∨ i = 4 ∨ i = 5 ∨ i = 6 ∨ i = 7 ∨ i = 8 := by omega
        have HI := Lib.hid hpl
        have hsz := hgv.size
        have hszB := HB.out
        by_cases hi8 : i < 8
        · have hps := HP.out i hi8
          obtain ⟨x, hx⟩ : ∃ x, UInt8.ofNat (L.length * 8 / 2 ^ (56 - 8 * i)) = x := ⟨_, rfl⟩
          have hxi : ∀ d : Nat, 2 ^ (56 - 8 * i) = d → ((L.length : Int) * 8 / (d : Int)) % 256 = (x.toNat : Int) := by
            intro d hd
            rw [hd] at hx
            rw [← hx, ← byte_of, Int.natCast_ediv]
            rfl
          rw [hx] at hps
          have HPS := Lib.hid hps
          have HXI := Lib.hid hxi
          have hpl2 : (padB L i).length ≤ 1099511627776 + 200 := by omega
          clear hps hx hxi hr6 hat6 hpl how0
          rcases hi9 with rfl | rfl | rfl | rfl | rfl | rfl | rfl | rfl | rfl
          · have hv : ((L.length : Int) * 8 / 72057594037927936) % 256 = (x.toNat : Int) := HXI.out 72057594037927936 rfl
            go_wp2_with (at_builtin; refine wpList_append_B rfl _ _ rfl B _ (padB L 0) [x] _ 1 rfl rfl (how.below ((Below.refl _ _).alloc (Nat.le_refl _) _)) (Rd.oneZ wr _ x _ (by clear hpl2; omega)) (by simp; omega) (by simp; omega) ?_)
            intro v7 W7 how7 hb7 hgb7
            have gv7 : Grew V0 W7 := (hgv.trans' ((Below.refl _ _).alloc (Nat.le_refl _) _)).trans (by rw [← HB.out] at hb7; exact hb7)
            rw [← HPS.out] at how7
            clear hb7 hgb7
            go_wp2
            go_roundw
            case rel => exact ⟨1, by omega, by rfl, how7, gv7⟩
            case measure => simp [intOf]
          · have hv : ((L.length : Int) * 8 / 281474976710656) % 256 = (x.toNat : Int) := HXI.out 281474976710656 rfl
            go_wp2_with (at_builtin; refine wpList_append_B rfl _ _ rfl B _ (padB L 1) [x] _ 1 rfl rfl (how.below ((Below.refl _ _).alloc (Nat.le_refl _) _)) (Rd.oneZ wr _ x _ (by clear hpl2; omega)) (by simp; omega) (by simp; omega) ?_)
            intro v7 W7 how7 hb7 hgb7
            have gv7 : Grew V0 W7 := (hgv.trans' ((Below.refl _ _).alloc (Nat.le_refl _) _)).trans (by rw [← HB.out] at hb7; exact hb7)
            rw [← HPS.out] at how7
            clear hb7 hgb7
            go_wp2
            go_roundw
            case rel => exact ⟨2, by omega, by rfl, how7, gv7⟩
            case measure => simp [intOf]
          · have hv : ((L.length : Int) * 8 / 1099511627776) % 256 = (x.toNat : Int) := HXI.out 1099511627776 rfl
            go_wp2_with (at_builtin; refine wpList_append_B rfl _ _ rfl B _ (padB L 2) [x] _ 1 rfl rfl (how.below ((Below.refl _ _).alloc (Nat.le_refl _) _)) (Rd.oneZ wr _ x _ (by clear hpl2; omega)) (by simp; omega) (by simp; omega) ?_)
            intro v7 W7 how7 hb7 hgb7
            have gv7 : Grew V0 W7 := (hgv.trans' ((Below.refl _ _).alloc (Nat.le_refl _) _)).trans (by rw [← HB.out] at hb7; exact hb7)
            rw [← HPS.out] at how7
            clear hb7 hgb7
            go_wp2
            go_roundw
            case rel => exact ⟨3, by omega, by rfl, how7, gv7⟩
            case measure => simp [intOf]
          · have hv : ((L.length : Int) * 8 / 4294967296) % 256 = (x.toNat : Int) := HXI.out 4294967296 rfl
            go_wp2_with (at_builtin; refine wpList_append_B rfl _ _ rfl B _ (padB L 3) [x] _ 1 rfl rfl (how.below ((Below.refl _ _).alloc (Nat.le_refl _) _)) (Rd.oneZ wr _ x _ (by clear hpl2; omega)) (by simp; omega) (by simp; omega) ?_)
            intro v7 W7 how7 hb7 hgb7
            have gv7 : Grew V0 W7 := (hgv.trans' ((Below.refl _ _).alloc (Nat.le_refl _) _)).trans (by rw [← HB.out] at hb7; exact hb7)
            rw [← HPS.out] at how7
            clear hb7 hgb7
            go_wp2
            go_roundw
            case rel => exact ⟨4, by omega, by rfl, how7, gv7⟩
            case measure => simp [intOf]
          · have hv : ((L.length : Int) * 8 / 16777216) % 256 = (x.toNat : Int) := HXI.out 16777216 rfl
            go_wp2_with (at_builtin; refine wpList_append_B rfl _ _ rfl B _ (padB L 4) [x] _ 1 rfl rfl (how.below ((Below.refl _ _).alloc (Nat.le_refl _) _)) (Rd.oneZ wr _ x _ (by clear hpl2; omega)) (by simp; omega) (by simp; omega) ?_)
            intro v7 W7 how7 hb7 hgb7
            have gv7 : Grew V0 W7 := (hgv.trans' ((Below.refl _ _).alloc (Nat.le_refl _) _)).trans (by rw [← HB.out] at hb7; exact hb7)
            rw [← HPS.out] at how7
            clear hb7 hgb7
            go_wp2
            go_roundw
            case rel => exact ⟨5, by omega, by rfl, how7, gv7⟩
            case measure => simp [intOf]
          · have hv : ((L.length : Int) * 8 / 65536) % 256 = (x.toNat : Int) := HXI.out 65536 rfl
            go_wp2_with (at_builtin; refine wpList_append_B rfl _ _ rfl B _ (padB L 5) [x] _ 1 rfl rfl (how.below ((Below.refl _ _).alloc (Nat.le_refl _) _)) (Rd.oneZ wr _ x _ (by clear hpl2; omega)) (by simp; omega) (by simp; omega) ?_)
            intro v7 W7 how7 hb7 hgb7
            have gv7 : Grew V0 W7 := (hgv.trans' ((Below.refl _ _).alloc (Nat.le_refl _) _)).trans (by rw [← HB.out] at hb7; exact hb7)
            rw [← HPS.out] at how7
            clear hb7 hgb7
            go_wp2
            go_roundw
            case rel => exact ⟨6, by omega, by rfl, how7, gv7⟩
            case measure => simp [intOf]
          · have hv : ((L.length : Int) * 8 / 256) % 256 = (x.toNat : Int) := HXI.out 256 rfl
            go_wp2_with (at_builtin; refine wpList_append_B rfl _ _ rfl B _ (padB L 6) [x] _ 1 rfl rfl (how.below ((Below.refl _ _).alloc (Nat.le_refl _) _)) (Rd.oneZ wr _ x _ (by clear hpl2; omega)) (by simp; omega) (by simp; omega) ?_)
            intro v7 W7 how7 hb7 hgb7
            have gv7 : Grew V0 W7 := (hgv.trans' ((Below.refl _ _).alloc (Nat.le_refl _) _)).trans (by rw [← HB.out] at hb7; exact hb7)
            rw [← HPS.out] at how7
            clear hb7 hgb7
            go_wp2
            go_roundw
            case rel => exact ⟨7, by omega, by rfl, how7, gv7⟩
            case measure => simp [intOf]
          · have hv : ((L.length : Int) * 8 / 1) % 256 = (x.toNat : Int) := HXI.out 1 rfl
            go_wp2_with (at_builtin; refine wpList_append_B rfl _ _ rfl B _ (padB L 7) [x] _ 1 rfl rfl (how.below ((Below.refl _ _).alloc (Nat.le_refl _) _)) (Rd.oneZ wr _ x _ (by clear hpl2; omega)) (by simp; omega) (by simp; omega) ?_)
            intro v7 W7 how7 hb7 hgb7
            have gv7 : Grew V0 W7 := (hgv.trans' ((Below.refl _ _).alloc (Nat.le_refl _) _)).trans (by rw [← HB.out] at hb7; exact hb7)
            rw [← HPS.out] at how7
            clear hb7 hgb7
            go_wp2
            go_roundw
            case rel => exact ⟨8, by omega, by rfl, how7, gv7⟩
            case measure => simp [intOf]
          · omega
        · obtain rfl : i = 8 := by omega
          have hlast := HPE.out
          rw [hlast] at how
          have hpl8 : (Pure.padded L).length ≤ 1099511627776 + 200 := by rw [← hlast]; omega
          have hlenM : (padB L 8).length = (Pure.padded L).length := by rw [hlast]
          have hposM : 0 < (Pure.padded L).length := by rw [← hlast]; omega
          have hmod := Pure.padded_len L
          have hsum : Pure.sumS L = (List.range 20).map (Pure.byteS (Pure.blocksS (Pure.padded L) ((Pure.padded L).length / 64))) := rfl
          have hrM := hr6
          rw [hlast] at hrM
          rw [hlenM] at hlc6 ⊢
          obtain ⟨M, hM⟩ : ∃ M, Pure.padded L = M := ⟨_, rfl⟩
          rw [hM] at hpl8 hposM hmod hsum hrM hlc6 ⊢
          have HSUM := Lib.hid hsum
          have hcap6 := how.cap
          clear hM hsum hlenM hlast how how0 hr6 hat6 hpl hi9
          obtain ⟨Wm, rfl⟩ : ∃ Wm, Wm = wr := ⟨_, rfl⟩
          have hst0 : (Wm.alloc (.cells #[.int .u32 1732584193, .int .u32 4023233417, .int .u32 2562383102, .int .u32 271733878, .int .u32 3285377520] tSt)).heap[Wm.heap.size]? = some (.cells (stCells (Pure.blocksS M 0)).toArray tSt (0, 0)) := heap_alloc_new Wm _
          have hgm := (Below.refl _ _ : Grew Wm Wm).alloc (Nat.le_refl _) (.cells #[.int .u32 1732584193, .int .u32 4023233417, .int .u32 2562383102, .int .u32 271733878, .int .u32 3285377520] tSt)
          have hbs : ∀ k, Pure.blocksS M (k + 1) = Pure.blockS (Pure.blocksS M k) ((M.drop (64 * k)).take 64) := fun k => rfl
          have HST := Lib.hid hst0
          have HBS := Lib.hid hbs
          obtain ⟨nb, hnb⟩ : ∃ nb, M.length / 64 = nb := ⟨_, rfl⟩
          have hM64 : M.length = 64 * nb := by omega
          rw [hnb] at HSUM
          have HM64 := Lib.hid hM64
          rw [hM64, show ((56 : Int) - 8 * ((8 : Nat) : Int)) = -8 by rfl]
          rcases hrM with hrM | ⟨b, o, rfl, hlt, hcell⟩
          · rw [hrM] at hposM
            exact absurd hposM (by simp)
          have HCELL := Lib.hid hcell
          obtain ⟨gH, hgH⟩ : ∃ g, Wm.heap.size = g := ⟨_, rfl⟩
          rw [hgH] at hst0
          clear hcell hbs HST hmod hnb
          go_wp2_with fail
          go_loopw [7] (fun i wr => ∃ k : Nat, k ≤ nb ∧ i = .int .i64 (64 * (k : Int)) ∧ Grew Wm wr ∧ wr.heap[gH]? = some (.cells (stCells (Pure.blocksS M k)).toArray tSt (0, 0))) (fun i _ => 64 * nb - (intOf i).toNat)
          case atStart => exact ⟨0, by omega, rfl, hgm, hst0⟩
          case round =>
            obtain ⟨k, hk, rfl, hb, hblk⟩ := hrel
            clear hst0 hgm
            by_cases hkn : k < nb
            · have hbk := HBS.out k
              obtain ⟨s, hs⟩ : ∃ s, Pure.blocksS M k = s := ⟨_, rfl⟩
              obtain ⟨m, hm⟩ : ∃ m, (M.drop (64 * k)).take 64 = m := ⟨_, rfl⟩
              have hml : m.length = 64 := by rw [← hm]; simp; omega
              have hrd : ∀ W, Grew Wm W → Rd W (some ⟨b, o + 64 * k, none⟩) m := by
                intro W gW
                refine .inr ⟨b, o + 64 * k, rfl, by have := gW.size; omega, fun i hi => ?_⟩
                have h1 := (gW.cell (p := ⟨b, o + (64 * k + i), none⟩) hlt).trans (HCELL.out (64 * k + i) (by omega))
                rw [show o + 64 * k + i = o + (64 * k + i) by omega, h1, ← hm]
                simp [List.getD_eq_getElem?_getD, List.getElem?_take, List.getElem?_drop, show i < 64 by omega]
              have cM := (fun W (g : Grew Wm W) => sha_mixed s (some ⟨b, o + 64 * k, none⟩) m (c6 - 64 * k) W hml (by omega) (by omega) (hrd W g) : ∀ W, Grew Wm W → _)
              rw [hs] at hblk
              rw [hs, hm] at hbk
              rw [← hbk] at cM
              obtain ⟨s2, hs2⟩ : ∃ s2, Pure.blocksS M (k + 1) = s2 := ⟨_, rfl⟩
              rw [hs2] at cM
              have HS2 := Lib.hid hs2
              have hbd : Grew Wm wr.drew := hb.drew
              have hblkd : wr.drew.heap[gH]? = some (.cells (stCells s).toArray tSt (0, 0)) := hblk
              have hrow := range_row hblkd
              simp only [List.toList_toArray] at hrow
              have nfS := infoSt s
              clear hrd hm hs hbk hml hs2
              go_wp2_with fail
              refine wp_region_still_tail 6 (by kernel_rfl) (by kernel_rfl) ?_
              simp only [List.take_succ_cons, List.take_zero, List.drop_succ_cons, List.drop_zero]
              change wpStill _ _ wr.drew _ _ _
              have wS : IntKind.i64.wrap (64 * (k : Int) + 64) = 64 * (k : Int) + 64 := IntWalk.i64_in _ (by omega)
              have kS := fun W : World => slice_bytes b o (64 * nb) c6 (64 * k) (64 * k + 64) (64 * (k : Int)) (64 * (k : Int) + 64) (by omega) (by omega) (by omega) (by omega) (by omega) W
              rw [show 64 * k + 64 - 64 * k = 64 by omega] at kS
              refine wpStill_load_mid rfl tSt _ rfl gH 0 rfl (stCells s) _ hrow Tryd.underlying61 rfl nfS ?_
              repeat still_step
              refine wpStill_nil ?_
              change wpList _ _ _ _ _ wr.drew
              clear kS wS hblk hb
              generalize wr.drew = wd at *
              go_wp2_with (go_at_call 37; with_reducible refine (cM _ (by assumption)).mono ?_)
              rintro e8 W8 ⟨rfl, g8⟩
              have hblk8 := (g8.block gH (Array.getElem?_eq_some_iff.1 hblkd).1).trans hblkd
              have hgw8 := hbd.trans' g8
              have nf8 : (Tryd.prog.info? tSt).map (·.size) = some (stCells s2).toArray.size := infoSt _
              have hs8 : (stCells s).toArray.size = (stCells s2).toArray.size := rfl
              have ho8 := all_oneCell_toArray (stCells_one s2)
              have hset := setRow_heap W8 gH _ (stCells s2).toArray tSt (0, 0) hblk8
              have hgr := below_setRow hgw8 (g := gH) (by omega) (stCells s2).toArray
              clear hblkd hbd g8 hrow
              go_wp2_with (refine wpList_store_row rfl tSt _ _ rfl gH (stCells s2).toArray rfl rfl tSt _ hblk8 nf8 hs8 ho8 ?_)
              go_roundw
              case rel =>
                exact ⟨k + 1, by omega, by go_num, hgr, by rw [HS2.out]; exact hset⟩
              case measure => simp [intOf]; omega
            · obtain rfl : k = nb := by omega
              obtain ⟨s, hs⟩ : ∃ s, Pure.blocksS M k = s := ⟨_, rfl⟩
              have hsum := HSUM.out
              rw [hs] at hblk hsum
              have HSUM2 := Lib.hid hsum
              obtain ⟨gO, hgO⟩ : ∃ g, wr.heap.size = g := ⟨_, rfl⟩
              have hlH := (Array.getElem?_eq_some_iff.1 hblk).1
              have hgm := hgv.trans' hb
              have hsz0 := hgm.size
              have hrs := (hgm.block w.heap.size (by have := HG.out; omega)).trans HR.out
              have hout0 : (wr.alloc (.cells #[.int .u8 0, .int .u8 0, .int .u8 0, .int .u8 0, .int .u8 0, .int .u8 0, .int .u8 0, .int .u8 0, .int .u8 0, .int .u8 0, .int .u8 0, .int .u8 0, .int .u8 0, .int .u8 0, .int .u8 0, .int .u8 0, .int .u8 0, .int .u8 0, .int .u8 0, .int .u8 0] 30)).heap[gO]? = some (.cells (Lib.byteCells (outC s 0)).toArray 30 (0, 0)) := by rw [← hgO]; exact heap_alloc_new wr _
              have hblk0 : (wr.alloc (.cells #[.int .u8 0, .int .u8 0, .int .u8 0, .int .u8 0, .int .u8 0, .int .u8 0, .int .u8 0, .int .u8 0, .int .u8 0, .int .u8 0, .int .u8 0, .int .u8 0, .int .u8 0, .int .u8 0, .int .u8 0, .int .u8 0, .int .u8 0, .int .u8 0, .int .u8 0, .int .u8 0] 30)).heap[gH]? = some (.cells (stCells s).toArray tSt (0, 0)) := (((Below.refl wr.heap.size wr).alloc (Nat.le_refl _) _).block gH hlH).trans hblk
              have hgr0 : Grew V0 (wr.alloc (.cells #[.int .u8 0, .int .u8 0, .int .u8 0, .int .u8 0, .int .u8 0, .int .u8 0, .int .u8 0, .int .u8 0, .int .u8 0, .int .u8 0, .int .u8 0, .int .u8 0, .int .u8 0, .int .u8 0, .int .u8 0, .int .u8 0, .int .u8 0, .int .u8 0, .int .u8 0, .int .u8 0] 30)) := hgm.trans' ((Below.refl _ _).alloc (Nat.le_refl _) _)
              have hlt0 : gH < gO := by omega
              have hV0 : V0.heap.size ≤ gH := by omega
              have hwr : w.heap.size < V0.heap.size := by have := HG.out; omega
              have hrs0 := HR.out
              clear HSUM hs hblk hsum hb hgm hsz0 hrs hgH hszB hsz HB
              go_wp2
              go_loopw [51] (fun x w2 => ∃ i : Nat, i ≤ 20 ∧ x = .int .i64 (i : Int) ∧ Grew V0 w2 ∧ w2.heap[gH]? = some (.cells (stCells s).toArray tSt (0, 0)) ∧ w2.heap[gO]? = some (.cells (Lib.byteCells (outC s i)).toArray 30 (0, 0))) (fun x _ => 20 - (intOf x).toNat)
              case atStart => exact ⟨0, by omega, rfl, hgr0, hblk0, hout0⟩
              case round =>
                obtain ⟨i, hi, rfl, hgi, hst, hou⟩ := hrel
                clear hgr0 hblk0 hout0
                by_cases hi20 : i < 20
                · have f1 : decide ((i : Int) < 20) = true := decide_eq_true (by omega)
                  obtain ⟨q, r, hr4, hq5, rfl⟩ : ∃ q r, r < 4 ∧ q < 5 ∧ i = 4 * q + r := ⟨i / 4, i % 4, by omega, by omega, by omega⟩
                  have hqi : ((4 * q + r : Nat) : Int) / 4 = (q : Int) := by omega
                  have hri : ((4 * q + r : Nat) : Int) % 4 = (r : Int) := by omega
                  have hb := (byteS_at s q r hr4).resolve_right (by omega)
                  have hnx := outC_next s (4 * q + r) hi20
                  obtain ⟨x, hx⟩ : ∃ x, stGet s q = x := ⟨_, rfl⟩
                  have hcx : wr.cell? ⟨gH, q, none⟩ = some (u32V x) := by
                    rw [cell_of_row wr _ q _ _ (0, 0) hst, ← hx]
                    have : q = 0 ∨ q = 1 ∨ q = 2 ∨ q = 3 ∨ q = 4 := by omega
                    rcases this with rfl | rfl | rfl | rfl | rfl <;> rfl
                  rw [hx] at hb
                  have hby := byte_shr x (24 - 8 * r) (by omega) _ rfl
                  rw [← hb] at hby
                  obtain ⟨y, hy⟩ : ∃ y, Pure.byteS s (4 * q + r) = y := ⟨_, rfl⟩
                  rw [hy] at hby hnx
                  obtain ⟨m, hm⟩ : ∃ m, 4 * q + r = m := ⟨_, rfl⟩
                  rw [hm] at hqi hri hnx hou f1 hi20 hi ⊢
                  have hqd : ((m : Int)).tdiv 4 = (q : Int) := by rw [Int.tdiv_eq_ediv_of_nonneg (by omega)]; exact hqi
                  have hrd : ((m : Int)).tmod 4 = (r : Int) := by rw [Int.tmod_eq_emod_of_nonneg (by omega)]; exact hri
                  have hwq : IntKind.i64.wrap (q : Int) = (q : Int) := IntWalk.i64_in _ (by omega)
                  have iq : (q : Int) < 5 := by omega
                  have iq0 : (0 : Int) ≤ (q : Int) := by omega
                  have im : (m : Int) < 20 := by omega
                  have im0 : (0 : Int) ≤ (m : Int) := by omega
                  have dfz : wr.frozen? ⟨gO, m, none⟩ = false := by simp [World.frozen?, hou]
                  have hcm : ∃ v, wr.cell? ⟨gO, m, none⟩ = some v := by
                    rw [cell_of_row wr _ m _ _ (0, 0) hou]
                    exact ⟨_, Array.getElem?_eq_getElem (by rw [List.size_toArray, Lib.byteCells_length, outC_len]; exact hi20)⟩
                  obtain ⟨v0, hv0⟩ := hcm
                  have hh := set_cell_any wr gO m _ _ _ (.int .u8 (y.toNat : Int)) hou
                  rw [hnx] at hh
                  have hh1 := (heap_setCell_other wr ⟨gO, m, none⟩ gH (.int .u8 (y.toNat : Int)) (by show gH ≠ gO; omega)).trans hst
                  have hgr : Grew V0 (wr.setCell ⟨gO, m, none⟩ (.int .u8 (y.toNat : Int))) := (hgi).setCell (p := ⟨gO, m, none⟩) (by show V0.heap.size ≤ gO; omega) _
                  have HH := Lib.hid hh
                  have HH1 := Lib.hid hh1
                  clear hh hh1 hnx hst hou hgi hb hx hy
                  have hr : r = 0 ∨ r = 1 ∨ r = 2 ∨ r = 3 := by omega
                  rcases hr with rfl | rfl | rfl | rfl
                  · have hb2 : (x.toNat : Int) / 16777216 % 256 = (y.toNat : Int) := hby
                    go_wp2
                    go_roundw
                    case rel => exact ⟨m + 1, by omega, by go_num, hgr, HH1.out, HH.out⟩
                    case measure => simp [intOf]; omega
                  · have hb2 : (x.toNat : Int) / 65536 % 256 = (y.toNat : Int) := hby
                    go_wp2
                    go_roundw
                    case rel => exact ⟨m + 1, by omega, by go_num, hgr, HH1.out, HH.out⟩
                    case measure => simp [intOf]; omega
                  · have hb2 : (x.toNat : Int) / 256 % 256 = (y.toNat : Int) := hby
                    go_wp2
                    go_roundw
                    case rel => exact ⟨m + 1, by omega, by go_num, hgr, HH1.out, HH.out⟩
                    case measure => simp [intOf]; omega
                  · have hb2 : (x.toNat : Int) % 256 = (y.toNat : Int) := by
                      have h1 : (x.toNat : Int) / 1 % 256 = (y.toNat : Int) := hby
                      rwa [Int.ediv_one] at h1
                    go_wp2
                    go_roundw
                    case rel => exact ⟨m + 1, by omega, by go_num, hgr, HH1.out, HH.out⟩
                    case measure => simp [intOf]; omega
                · obtain rfl : i = 20 := by omega
                  rw [outC_last, ← HSUM2.out] at hou
                  have hl20 := Pure.sumS_len L
                  obtain ⟨SL, hSL⟩ : ∃ SL, Pure.sumS L = SL := ⟨_, rfl⟩
                  rw [hSL] at hou hl20
                  have HSL := Lib.hid hSL
                  have hrow2 := range_row hou
                  simp only [List.toList_toArray] at hrow2
                  have hres := (hgi.block w.heap.size (by omega)).trans hrs0
                  have nfI := infoId' hl20
                  have nfI2 := infoId'' hl20
                  have hsI : (#[.int .u8 0, .int .u8 0, .int .u8 0, .int .u8 0, .int .u8 0, .int .u8 0, .int .u8 0, .int .u8 0, .int .u8 0, .int .u8 0, .int .u8 0, .int .u8 0, .int .u8 0, .int .u8 0, .int .u8 0, .int .u8 0, .int .u8 0, .int .u8 0, .int .u8 0, .int .u8 0] : Array Value).size = (Lib.byteCells SL).toArray.size := by simp [Lib.byteCells_length, hl20]
                  have hoI := one_bytes SL
                  clear hSL hst hou
                  go_wp2_with (first | (refine wpList_load_mid rfl 30 _ rfl gO 0 rfl (Lib.byteCells SL) _ hrow2 Tryd.underlying30 rfl nfI ?_) | (refine wpList_store_row rfl 30 _ _ rfl w.heap.size (Lib.byteCells SL).toArray rfl rfl 30 _ hres nfI2 hsI hoI ?_))
                  refine bodyPost_ret (results_cell_mid Tryd.results23 _ _ w.heap.size 0 (Lib.byteCells SL) _ rfl (range_setRow hres _) Tryd.underlying30 rfl nfI) rfl ?_
                  refine ⟨by rw [HSL.out]; rfl, ?_⟩
                  have gV : Below w.heap.size w (wr.setRow w.heap.size (Lib.byteCells SL).toArray) := below_setRow ((g0.trans' hgi)) (by omega) _
                  exact gV

end Go.Proofs.YtdlhabldjdkfbaaDoor
