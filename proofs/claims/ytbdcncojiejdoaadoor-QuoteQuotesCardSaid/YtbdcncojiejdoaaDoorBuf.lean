/- Bytes that a call has made itself, in a row whose head, or whose place behind the last cell, may be frozen: appended to, read, converted. No function of the program. -/
import Derived.Test.YtbdcncojiejdoaaDoorWords2
import Derived.Test.YtbdcncojiejdoaaDoorFrozen
import Derived.Lib.FrozenHead2
import Derived.Lib.ConvBytes
namespace Go.Proofs.YtbdcncojiejdoaaDoor
set_option linter.unusedVariables false
set_option linter.unusedSimpArgs false
open Go.RowKit

/-- The slice v of bytes, made from base on, holds l. -/
def OwnB (w : World) (base : Nat) (v : Value) (l : List UInt8) : Prop :=
  (v = .slice none 0 0 ∧ l = []) ∨
  ∃ g cap cur fz, v = .slice (some ⟨g, 0, none⟩) l.length cap ∧ base ≤ g ∧ w.heap[g]? = some (.cells cur 5 fz) ∧ (fz.2 ≤ l.length ∨ cap ≤ fz.1) ∧ l.length ≤ cap ∧ cap ≤ maxLen ∧ cur.size = cap ∧ cur.toList.take l.length = Lib.byteCells l

theorem OwnB.nil (w : World) (base : Nat) : OwnB w base (.slice none 0 0) [] := .inl ⟨rfl, rfl⟩

theorem OwnB.lt {w : World} {base : Nat} {v : Value} {l : List UInt8} (h : OwnB w base v l) : ∀ k, v.ownBlock = some k → base ≤ k ∧ k < w.heap.size := by
  intro k hk
  rcases h with ⟨rfl, _⟩ | ⟨g, cap, cur, fz, rfl, hb, hg, _⟩
  · simp [Value.ownBlock] at hk
  · simp [Value.ownBlock] at hk
    subst hk
    exact ⟨hb, (Array.getElem?_eq_some_iff.1 hg).1⟩

theorem OwnB.kept {w w' : World} {base : Nat} {v : Value} {l : List UInt8} {row : Option Nat} (h : OwnB w base v l) (hg : w.grownBy w' row) (hne : v.ownBlock = none ∨ v.ownBlock ≠ row) : OwnB w' base v l := by
  rcases h with hn | ⟨g, cap, cur, fz, rfl, hb, hgg, rest⟩
  · exact .inl hn
  · refine .inr ⟨g, cap, cur, fz, rfl, hb, ?_, rest⟩
    rw [hg.block g (Array.getElem?_eq_some_iff.1 hgg).1 (by simpa [Value.ownBlock] using hne)]
    exact hgg

/-- What only makes new blocks leaves it. -/
theorem OwnB.below {w w' : World} {base : Nat} {v : Value} {l : List UInt8} (h : OwnB w base v l) (hb : Grew w w') : OwnB w' base v l := by
  rcases h with hn | ⟨g, cap, cur, fz, rfl, hbs, hgg, rest⟩
  · exact .inl hn
  · exact .inr ⟨g, cap, cur, fz, rfl, hbs, (hb.block g (Array.getElem?_eq_some_iff.1 hgg).1).trans hgg, rest⟩
theorem OwnB.base {w : World} {B C : Nat} {v : Value} {l : List UInt8} (h : OwnB w C v l) (hBC : B ≤ C) : OwnB w B v l := by
  rcases h with hn | ⟨g, cap, cur, fz, rfl, hbs, rest⟩
  · exact .inl hn
  · exact .inr ⟨g, cap, cur, fz, rfl, by omega, rest⟩

theorem OwnB.val {w : World} {base : Nat} {v : Value} {l : List UInt8} (h : OwnB w base v l) : ∃ p cap, v = .slice p l.length cap ∧ Rd w p l ∧ l.length ≤ cap ∧ (∀ a, p = some a → base ≤ a.block ∧ a.block < w.heap.size) := by
  rcases h with ⟨rfl, rfl⟩ | ⟨g, cap, cur, fz, rfl, hb, hg, hfz, hlc, hcm, hcs, ht⟩
  · exact ⟨none, 0, rfl, .inl rfl, Nat.le_refl _, fun a h => by cases h⟩
  · have hlt := (Array.getElem?_eq_some_iff.1 hg).1
    refine ⟨_, cap, rfl, .inr ⟨g, 0, rfl, hlt, fun i hi => ?_⟩, hlc, fun a h => by cases h; exact ⟨hb, hlt⟩⟩
    rw [cell_of_row w g _ cur _ fz hg, Nat.zero_add]
    have h1 : (Lib.byteCells l)[i]? = some (.int .u8 ((l.getD i 0).toNat : Int)) := by simp [Lib.byteCells, List.getElem?_eq_getElem hi, List.getD_eq_getElem?_getD]
    rw [← ht, List.getElem?_take, if_pos hi] at h1
    simpa using h1

theorem OwnB.of_ownsRow {w : World} {base : Nat} {v : Value} {n : Nat} {l : List UInt8} (h : w.ownsRow base 5 1 v n (Lib.byteCells l)) : OwnB w base v l := by
  have hn : n = l.length := by have := h.1; rw [Lib.byteCells_length] at this; omega
  subst hn
  rcases h.2 with ⟨rfl, h0⟩ | ⟨g, cap, cur, rfl, hb, hg, hnc, hcm, hcs, ht⟩
  · exact .inl ⟨rfl, List.eq_nil_of_length_eq_zero h0⟩
  · exact .inr ⟨g, cap, cur, (0, 0), rfl, hb, hg, .inl (Nat.zero_le _), hnc, hcm, by omega, by simpa using ht⟩

/-- '[]byte(s)'. -/
theorem OwnB.conv {w : World} {base : Nat} (s : ByteArray) (hb : base ≤ w.heap.size) (hs : s.size ≤ 9223372036854775807) : OwnB (Lib.bytesWorld w 5 s) base (.slice (some ⟨w.heap.size, 0, none⟩) s.data.toList.length (grownCap w s.size 0 5)) s.data.toList := by
  have hl : s.data.toList.length = s.size := Array.length_toList
  have hge := grownCap_ge w s.size 0 5
  have hcm := grownCap_le_maxLen w s.size 0 5 (by unfold maxLen; exact hs)
  have hsz : (Lib.bytesCells w 5 s).size = grownCap w s.size 0 5 := by
    unfold Lib.bytesCells
    have : s.data.size = s.size := rfl
    rw [Array.size_append, Array.size_map, Array.size_replicate]
    omega
  refine .inr ⟨_, _, _, _, rfl, hb, Lib.bytesWorld_at_new w 5 s, .inr (by rw [hsz]; exact Nat.le_refl _), by omega, hcm, hsz, ?_⟩
  unfold Lib.bytesCells
  rw [Array.toList_append, List.take_append_of_le_length (by simp), List.take_of_length_le (by simp)]
  simp [Lib.byteCells]
theorem OwnB.conv' {w : World} {base : Nat} (s : ByteArray) (hb : base ≤ w.heap.size) (hs : s.size ≤ 9223372036854775807) : OwnB (Lib.bytesWorld w 5 s) base (.slice (some ⟨w.heap.size, 0, none⟩) s.size (grownCap w s.size 0 5)) s.data.toList := by
  have h := OwnB.conv s hb hs
  rwa [show s.data.toList.length = s.size from Array.length_toList] at h
/-- Two texts, one behind the other. -/
theorem str_add (a b c : ByteArray) (h : a.size + b.size < 9223372036854775808) (hc : a ++ b = c) (w : World) : (binOp .add 9 (.string a) (.string b)).run Tryd.prog w = .ok (.string c) w := by
  subst hc
  simp [binOp_string_add, Op.stringOp, go_sem, ByteArray.size_append]
  omega
theorem bytesWorld_grew (w : World) (s : ByteArray) : Grew w (Lib.bytesWorld w 5 s) :=
  ⟨rfl, rfl, rfl, by rw [Lib.bytesWorld_size]; omega, fun k hk => Lib.bytesWorld_at_old w _ s k hk⟩
theorem run_conv_bytes (w : World) (s : ByteArray) : (convert 9 25 (.string s)).run Tryd.prog w = .ok (.slice (some ⟨w.heap.size, 0, none⟩) s.data.toList.length (grownCap w s.size 0 5)) (Lib.bytesWorld w 5 s) := by
  have hl : s.data.toList.length = s.size := Array.length_toList
  rw [hl]
  exact Lib.run_convert_string_bytes w _ _ _ s Tryd.underlying9 Tryd.underlying25 Tryd.underlying5

theorem run_storeCells_atT (P : Program) (g o : Nat) (t : TypeId) (fz : Nat × Nat) : ∀ (vs : List Value) (i : Nat) (cur : Array Value) (w : World), w.heap[g]? = some (.cells cur t fz) → (fz.2 ≤ o + i ∨ o + i + vs.length ≤ fz.1) → o + i + vs.length ≤ cur.size → (∀ v ∈ vs, v.oneCell' = true) →
    (storeCells ⟨g, o, none⟩ vs i).run P w = .ok () (w.setRow g (cur.toList.take (o + i) ++ vs ++ cur.toList.drop (o + i + vs.length)).toArray)
  | [], i, cur, w, hg, _, _, _ => by
    simp only [storeCells, List.append_nil, List.length_nil, Nat.add_zero, List.take_append_drop, Array.toArray_toList]
    rw [setRow_self w g cur t fz hg]
    rfl
  | v :: rest, i, cur, w, hg, hfz, hl, h1 => by
    have hi : o + i < cur.size := by simp at hl; omega
    have hadd : (⟨g, o, none⟩ : Addr).add i = ⟨g, o + i, none⟩ := by unfold Addr.add; split <;> simp_all
    have hcell : w.cell? ⟨g, o + i, none⟩ = some cur[o + i] := by simp [World.cell?, hg, hi]
    have hfro : w.frozen? ⟨g, o + i, none⟩ = false := by
      obtain ⟨lo, hi'⟩ := fz
      simp only [World.frozen?, hg, Bool.and_eq_false_iff, decide_eq_false_iff_not]
      simp only [List.length_cons] at hfz
      omega
    have hst : (store ((⟨g, o, none⟩ : Addr).add i) v).run P w = .ok () (w.setRow g (cur.setIfInBounds (o + i) v)) := by
      rw [hadd, run_store P w _ v _ (h1 v (by simp)), hcell]
      simp [hfro, setCell_eq_setRow w g (o + i) cur t fz v hg]
    have ih := run_storeCells_atT P g o t fz rest (i + 1) (cur.setIfInBounds (o + i) v) (w.setRow g (cur.setIfInBounds (o + i) v)) (setRow_heap w g cur _ t _ hg) (by simp only [List.length_cons] at hfz; omega) (by simp at hl ⊢; omega) (fun x hx => h1 x (by simp [hx]))
    simp only [storeCells, Sem.run_bind, hst, Result.andThen_ok, ih, setRow_setRow]
    congr 3
    have e := list_seg_step cur.toList (o + i) v rest (by simp at hl ⊢; omega)
    simpa [Array.toList_setIfInBounds, Nat.add_assoc] using e

/-- What both sources of an append come to. -/
theorem append_core (v : Value) (l m : List UInt8) (w : World) (base : Nat) (hown : OwnB w base v l) (hbase : base ≤ w.heap.size) (h63 : l.length + m.length ≤ 140737488355328) (x : Value) (t2 : TypeId) (ty : TypeId) (i0 : TypeInfo) (hi : Tryd.prog.info? 5 = some i0) (hz0 : i0.zero = some (.int .u8 0)) (hz1 : i0.size = 1) (hz2 : i0.bytes = 1)
    (hnil : v = .slice none 0 0 → ∃ v' w', (Builtin.append_ #[25, t2] ty #[v, x]).run Tryd.prog w = .ok v' w' ∧ w'.ownsRow base 5 1 v' (0 + m.length) ([] ++ Lib.byteCells m) ∧ w.grownBy w' none)
    (hroom : ∀ g cap cur fz, v = .slice (some ⟨g, 0, none⟩) l.length cap → w.heap[g]? = some (.cells cur 5 fz) → (fz.2 ≤ l.length ∨ l.length + m.length ≤ fz.1) → l.length + m.length ≤ cap → l.length + m.length ≤ cur.size →
      (Builtin.append_ #[25, t2] ty #[v, x]).run Tryd.prog w = .ok (.slice (some ⟨g, 0, none⟩) (l.length + m.length) cap) (w.setRow g (cur.toList.take l.length ++ Lib.byteCells m ++ cur.toList.drop (l.length + m.length)).toArray))
    (hgrow : ∀ g cap, v = .slice (some ⟨g, 0, none⟩) l.length cap → (∀ j u, (Lib.byteCells l)[j]? = some u → w.cell? ((⟨g, 0, none⟩ : Addr).add j) = some u) → cap < l.length + m.length →
      (Builtin.append_ #[25, t2] ty #[v, x]).run Tryd.prog w = .ok (.slice (some ⟨w.heap.size, 0, none⟩) (l.length + m.length) (grownCap w (l.length + m.length) cap 5)) (w.drew.alloc (.cells ((Lib.byteCells l).toArray ++ (Lib.byteCells m).toArray ++ Builtin.zeroCells (Value.int .u8 0).cells (grownCap w (l.length + m.length) cap 5 - (l.length + m.length))) 5))) :
    ∃ v' w', (Builtin.append_ #[25, t2] ty #[v, x]).run Tryd.prog w = .ok v' w' ∧ OwnB w' base v' (l ++ m) ∧ Below base w w' ∧ w.grownBy w' v.ownBlock := by
  have hl0 := hown.lt
  rcases hown with ⟨rfl, rfl⟩ | ⟨g, cap, cur, fz, rfl, hbg, hg, hfz, hnc, hcm, hcs, htake⟩
  · obtain ⟨v', w', h1, h2, h3⟩ := hnil rfl
    exact ⟨v', w', h1, OwnB.of_ownsRow h2, (Below.refl _ _).grown h3 hbase (fun k hk => by cases hk), h3⟩
  · have hlen : (Lib.byteCells (l ++ m)).length = l.length + m.length := by rw [Lib.byteCells_length, List.length_append]
    have hlen2 : (l ++ m).length = l.length + m.length := List.length_append
    by_cases hr : l.length + m.length ≤ cap
    · have hrun := hroom g cap cur fz rfl hg (by omega) hr (by omega)
      have hgb : w.grownBy (w.setRow g (cur.toList.take l.length ++ Lib.byteCells m ++ cur.toList.drop (l.length + m.length)).toArray) (Value.slice (some ⟨g, 0, none⟩) l.length cap).ownBlock :=
        ⟨rfl, rfl, rfl, by simp, fun k _ hk => setRow_other w g k _ (fun e => hk (by simp [Value.ownBlock, e]))⟩
      refine ⟨_, _, hrun, .inr ⟨g, cap, _, fz, by rw [hlen2], hbg, setRow_heap w g cur _ _ _ hg, by omega, by omega, hcm, ?_, ?_⟩, (Below.refl _ _).grown hgb hbase (fun k hk => (hl0 k hk).1), hgb⟩
      · simp only [List.size_toArray, List.length_append, List.length_take, List.length_drop, Array.length_toList, Lib.byteCells_length]
        omega
      · rw [htake, ← Lib.byteCells_append, hlen2, ← hlen]
        exact List.take_left
    · have hcells : ∀ j u, (Lib.byteCells l)[j]? = some u → w.cell? ((⟨g, 0, none⟩ : Addr).add j) = some u := by
        intro j u hu
        rw [Addr.add_mid, Nat.zero_add, cell_of_row w g j cur _ fz hg]
        rw [← htake, List.getElem?_take] at hu
        split at hu
        · simpa using hu
        · cases hu
      have hrun := hgrow g cap rfl hcells (by omega)
      have hge := grownCap_ge w (l.length + m.length) cap 5
      have hcm2 : grownCap w (l.length + m.length) cap 5 ≤ maxLen := grownCap_le_maxLen w (l.length + m.length) cap 5 (by unfold maxLen; omega)
      have hgb : w.grownBy (w.drew.alloc (.cells ((Lib.byteCells l).toArray ++ (Lib.byteCells m).toArray ++ Builtin.zeroCells (Value.int .u8 0).cells (grownCap w (l.length + m.length) cap 5 - (l.length + m.length))) 5)) (Value.slice (some ⟨g, 0, none⟩) l.length cap).ownBlock :=
        ⟨rfl, rfl, rfl, by simp, fun k hk _ => heap_alloc_old w.drew _ hk⟩
      refine ⟨_, _, hrun, .inr ⟨w.heap.size, _, _, (0, 0), by rw [hlen2], hbase, heap_alloc_new w.drew _, .inl (Nat.zero_le _), by rw [hlen2]; exact hge, hcm2, ?_, ?_⟩, (Below.refl _ _).grown hgb hbase (fun k hk => (hl0 k hk).1), hgb⟩
      · have hz3 : (Value.int IntKind.u8 0).cells.size = 1 := rfl
        simp only [Array.size_append, List.size_toArray, size_zeroCells, hz3, Lib.byteCells_length]
        omega
      · simp only [Array.toList_append]
        rw [hlen2, ← hlen, Lib.byteCells_append]
        exact List.take_left

theorem infoB : ∃ i0, Tryd.prog.info? 5 = some i0 ∧ i0.zero = some (.int .u8 0) ∧ i0.size = 1 ∧ i0.bytes = 1 := info_parts infoU8'

/-- append(v, x...), x bytes in memory. -/
theorem own_append (v : Value) (l m : List UInt8) (p : Option Addr) (c : Nat) (w : World) (base : Nat) (ty : TypeId) (hown : OwnB w base v l) (hr : Rd w p m) (hbase : base ≤ w.heap.size) (h63 : l.length + m.length ≤ 140737488355328) :
    ∃ v' w', (Builtin.append_ #[25, 25] ty #[v, .slice p m.length c]).run Tryd.prog w = .ok v' w' ∧ OwnB w' base v' (l ++ m) ∧ Below base w w' ∧ w.grownBy w' v.ownBlock := by
  obtain ⟨i0, hi, hz0, hz1, hz2⟩ := infoB
  cases p with
  | none =>
    have hm : m = [] := by
      rcases hr with h | ⟨b, o, e, _⟩
      · exact h
      · cases e
    subst hm
    refine ⟨v, w, ?_, by rw [List.append_nil]; exact hown, Below.refl _ _, ⟨rfl, rfl, rfl, Nat.le_refl _, fun _ _ _ => rfl⟩⟩
    rcases hown with ⟨rfl, rfl⟩ | ⟨g, cap, cur, fz, rfl, hbg, hg, hfz, hnc, hcm, hcs, htake⟩
    · simp [Builtin.append_, run_underlying Tryd.underlying25, sizeOf, typeInfo, hi, Builtin.lenOf, Builtin.firstCells, storeCells]
    · simp [Builtin.append_, run_underlying Tryd.underlying25, sizeOf, typeInfo, hi, Builtin.lenOf, Builtin.firstCells, hnc, storeCells]
  | some a =>
    refine append_core v l m w base hown hbase h63 _ _ ty i0 hi hz0 hz1 hz2 ?_ ?_ ?_
    · intro hv
      subst hv
      have hl : l = [] := by
        rcases hown with ⟨_, h⟩ | ⟨g, cap, cur, fz, h, _⟩
        · exact h
        · cases h
      subst hl
      obtain ⟨v', w', r1, r2, r3, r4⟩ := run_append_own (P := Tryd.prog) w base 25 ty 5 i0 (.int .u8 0) 1 1 Tryd.underlying25 hi hz0 hz1 hz2 rfl (by decide) (.slice none 0 0) 0 [] ⟨by simp, .inl ⟨rfl, rfl⟩⟩ a m.length c (Lib.byteCells m) (by rw [Lib.byteCells_length, Nat.mul_one]) hr.cells (one_bytes' m) (by unfold maxLen; simp at h63; omega) (by simp at h63; omega) hbase
      exact ⟨v', w', r1, r2, r3⟩
    · intro g cap cur fz hv hg hfz hroom hfit
      subst hv
      have hf := run_firstCells_some (P := Tryd.prog) w 1 m.length a m.length c (Lib.byteCells m) (by rw [Lib.byteCells_length, Nat.mul_one]) hr.cells
      have hst := run_storeCells_atT Tryd.prog g l.length 5 fz (Lib.byteCells m) 0 cur w hg (by rw [Lib.byteCells_length]; simpa using hfz) (by rw [Lib.byteCells_length]; simpa using hfit) (one_bytes' m)
      simp only [Nat.add_zero, Lib.byteCells_length] at hst
      simp [Builtin.append_, run_underlying Tryd.underlying25, sizeOf, typeInfo, hi, hz1, Builtin.lenOf, hroom, hf, Addr.add_lit, hst]
    · intro g cap hv hc hcap
      subst hv
      have hlc : l.length ≤ cap := by
        rcases hown with ⟨h, _⟩ | ⟨g', cap', cur, fz, h, _, _, _, hn, _⟩
        · cases h
        · cases h; exact hn
      have hr := run_append_grow (P := Tryd.prog) w 25 ty 5 i0 (.int .u8 0) Tryd.underlying25 hi hz0 ⟨g, 0, none⟩ l.length cap (Lib.byteCells l) (by rw [Lib.byteCells_length, hz1, Nat.mul_one]) hc a m.length c (Lib.byteCells m) (by rw [Lib.byteCells_length, hz1, Nat.mul_one]) hr.cells (by omega) (by omega) (by rw [hz2]; exact growslice_fits (by omega) (by omega))
      exact hr

/-- append(v, s...), s a text. -/
theorem own_append_str (v : Value) (l : List UInt8) (s : ByteArray) (w : World) (base : Nat) (ty : TypeId) (hown : OwnB w base v l) (hbase : base ≤ w.heap.size) (h63 : l.length + s.size ≤ 140737488355328) :
    ∃ v' w', (Builtin.append_ #[25, 9] ty #[v, .string s]).run Tryd.prog w = .ok v' w' ∧ OwnB w' base v' (l ++ s.data.toList) ∧ Below base w w' ∧ w.grownBy w' v.ownBlock := by
  obtain ⟨i0, hi, hz0, hz1, hz2⟩ := infoB
  have hsl : s.data.toList.length = s.size := Array.length_toList
  have hsc : Lib.strCells s = Lib.byteCells s.data.toList := rfl
  refine append_core v l s.data.toList w base hown hbase (by omega) _ _ ty i0 hi hz0 hz1 hz2 ?_ ?_ ?_
  · intro hv
    subst hv
    have hl : l = [] := by
      rcases hown with ⟨_, h⟩ | ⟨g, cap, cur, fz, h, _⟩
      · exact h
      · cases h
    subst hl
    obtain ⟨v', w', r1, r2, r3, r4⟩ := Lib.run_append_own_string (P := Tryd.prog) w base 25 9 ty 5 i0 Tryd.underlying25 Tryd.underlying9 hi hz0 hz1 hz2 (.slice none 0 0) 0 [] ⟨by simp, .inl ⟨rfl, rfl⟩⟩ s (by unfold maxLen; simp at h63; omega) (by simp at h63; omega) hbase
    rw [hsl]
    exact ⟨v', w', r1, r2, r3⟩
  · intro g cap cur fz hv hg hfz hroom hfit
    subst hv
    rw [hsl] at hfz hroom hfit ⊢
    have hf := Lib.run_firstCells_string (P := Tryd.prog) w 1 s
    have hst := run_storeCells_atT Tryd.prog g l.length 5 fz (Lib.strCells s) 0 cur w hg (by rw [Lib.strCells_length]; simpa using hfz) (by rw [Lib.strCells_length]; simpa using hfit) (Lib.strCells_oneCell s)
    simp only [Nat.add_zero, Lib.strCells_length] at hst
    rw [← hsc]
    simp [Builtin.append_, run_underlying Tryd.underlying25, run_underlying Tryd.underlying9, sizeOf, typeInfo, hi, hz1, Builtin.lenOf, hroom, hf, Addr.add_lit, hst]
  · intro g cap hv hc hcap
    subst hv
    rw [hsl] at hcap ⊢
    have hlc : l.length ≤ cap := by
      rcases hown with ⟨h, _⟩ | ⟨g', cap', cur, fz, h, _, _, _, hn, _⟩
      · cases h
      · cases h; exact hn
    have hr := Lib.run_append_grow_string (P := Tryd.prog) w 25 9 ty 5 i0 (.int .u8 0) Tryd.underlying25 Tryd.underlying9 hi hz0 ⟨g, 0, none⟩ l.length cap (Lib.byteCells l) (by rw [Lib.byteCells_length, hz1, Nat.mul_one]) hc s (by omega) (by omega) (by rw [hz2]; exact growslice_fits (by omega) (by omega))
    exact hr

/-- The two, for a walk. -/
theorem wpList_append_B {ops : Array Oper} {rest : List Oper} {o : Oper} {a : Act} {w : World} {Q : Exit → Act → World → Prop} (hgd : o.guard = none) (s x : Operand)
    (ho : o.op = .call { callee := .builtin .append, args := #[s, x], argTypes := #[25, 25] }) (base : Nat) (v : Value) (l m : List UInt8) (p : Option Addr) (c : Nat) (hs : a.eval s = v) (hx : a.eval x = .slice p m.length c)
    (hown : OwnB w base v l) (hr : Rd w p m) (hbase : base ≤ w.heap.size) (h63 : l.length + m.length ≤ 140737488355328)
    (h : ∀ v' w', OwnB w' base v' (l ++ m) → Below base w w' → w.grownBy w' v.ownBlock → wpList Tryd.prog ops Q rest (a.put o.dst v') w') : wpList Tryd.prog ops Q (o :: rest) a w := by
  refine wpList_plain hgd fun K hK => ?_
  obtain ⟨v', w', hrun, h2, h3, h4⟩ := own_append v l m p c w base o.type hown hr hbase h63
  unfold Oper.wp execOp
  simp only [ho, resolve, invoke, builtin, Sem.run_bind, Sem.run_pure, Result.andThen_ok, List.map_toArray, List.map_cons, List.map_nil, hs, hx, hrun]
  exact hK _ _ (h v' w' h2 h3 h4)
theorem wpList_append_S {ops : Array Oper} {rest : List Oper} {o : Oper} {a : Act} {w : World} {Q : Exit → Act → World → Prop} (hgd : o.guard = none) (s x : Operand)
    (ho : o.op = .call { callee := .builtin .append, args := #[s, x], argTypes := #[25, 9] }) (base : Nat) (v : Value) (l : List UInt8) (t : ByteArray) (hs : a.eval s = v) (hx : a.eval x = .string t)
    (hown : OwnB w base v l) (hbase : base ≤ w.heap.size) (h63 : l.length + t.size ≤ 140737488355328)
    (h : ∀ v' w', OwnB w' base v' (l ++ t.data.toList) → Below base w w' → w.grownBy w' v.ownBlock → wpList Tryd.prog ops Q rest (a.put o.dst v') w') : wpList Tryd.prog ops Q (o :: rest) a w := by
  refine wpList_plain hgd fun K hK => ?_
  obtain ⟨v', w', hrun, h2, h3, h4⟩ := own_append_str v l t w base o.type hown hbase h63
  unfold Oper.wp execOp
  simp only [ho, resolve, invoke, builtin, Sem.run_bind, Sem.run_pure, Result.andThen_ok, List.map_toArray, List.map_cons, List.map_nil, hs, hx, hrun]
  exact hK _ _ (h v' w' h2 h3 h4)

/-- The two, as one step of a region that draws. -/
theorem step_append_B {ops : Array Oper} {o : Oper} {a : Act} {w : World} {K : Act → World → Prop} {Q : Exit → Act → World → Prop} {E : Prop} (hgd : o.guard = none) (s x : Operand)
    (ho : o.op = .call { callee := .builtin .append, args := #[s, x], argTypes := #[25, 25] }) (base : Nat) (v : Value) (l m : List UInt8) (p : Option Addr) (c : Nat) (hs : a.eval s = v) (hx : a.eval x = .slice p m.length c)
    (hown : OwnB w base v l) (hr : Rd w p m) (hbase : base ≤ w.heap.size) (h63 : l.length + m.length ≤ 140737488355328)
    (h : ∀ v' w', OwnB w' base v' (l ++ m) → Below base w w' → w.grownBy w' v.ownBlock → K (a.put o.dst v') w') : if Region.wanted o (yielded ops a.tmps) = true then Oper.wp Tryd.prog o a w K Q else E := by
  have hw : Region.wanted o (yielded ops a.tmps) = true := by simp [Region.wanted, hgd]
  rw [if_pos hw]
  obtain ⟨v', w', hrun, h2, h3, h4⟩ := own_append v l m p c w base o.type hown hr hbase h63
  unfold Oper.wp execOp
  simp only [ho, resolve, invoke, builtin, Sem.run_bind, Sem.run_pure, Result.andThen_ok, List.map_toArray, List.map_cons, List.map_nil, hs, hx, hrun]
  exact h v' w' h2 h3 h4
theorem step_append_S {ops : Array Oper} {o : Oper} {a : Act} {w : World} {K : Act → World → Prop} {Q : Exit → Act → World → Prop} {E : Prop} (hgd : o.guard = none) (s x : Operand)
    (ho : o.op = .call { callee := .builtin .append, args := #[s, x], argTypes := #[25, 9] }) (base : Nat) (v : Value) (l : List UInt8) (t : ByteArray) (hs : a.eval s = v) (hx : a.eval x = .string t)
    (hown : OwnB w base v l) (hbase : base ≤ w.heap.size) (h63 : l.length + t.size ≤ 140737488355328)
    (h : ∀ v' w', OwnB w' base v' (l ++ t.data.toList) → Below base w w' → w.grownBy w' v.ownBlock → K (a.put o.dst v') w') : if Region.wanted o (yielded ops a.tmps) = true then Oper.wp Tryd.prog o a w K Q else E := by
  have hw : Region.wanted o (yielded ops a.tmps) = true := by simp [Region.wanted, hgd]
  rw [if_pos hw]
  obtain ⟨v', w', hrun, h2, h3, h4⟩ := own_append_str v l t w base o.type hown hbase h63
  unfold Oper.wp execOp
  simp only [ho, resolve, invoke, builtin, Sem.run_bind, Sem.run_pure, Result.andThen_ok, List.map_toArray, List.map_cons, List.map_nil, hs, hx, hrun]
  exact h v' w' h2 h3 h4

/-- A block that a call lays ahead (an argument that is a struct): its cells stand in every later world. -/
theorem boxed (w : World) (cs : Array Value) (t : TypeId) : ∃ W0, w.alloc (.cells cs t) = W0 ∧ Grew w W0 ∧ Grew W0 W0 ∧ (∀ W, Grew W0 W → ∀ (j : Nat) v, cs[j]? = some v → W.cell? ⟨w.heap.size, j, none⟩ = some v) := by
  refine ⟨_, rfl, (Below.refl _ _).alloc (Nat.le_refl _) _, Below.refl _ _, fun W g j v hv => ?_⟩
  have h0 : (w.alloc (.cells cs t)).cell? ⟨w.heap.size, j, none⟩ = some v := by rw [cell_of_row _ _ _ _ _ (0, 0) (heap_alloc_new w _)]; exact hv
  exact (g.cell (World.block_lt_of_cell? _ _ h0)).trans h0
/-- Of such a block nothing is frozen. -/
theorem boxed_free {w W0 : World} {cs : Array Value} {t : TypeId} (h : w.alloc (.cells cs t) = W0) (W : World) (g : Grew W0 W) (j : Nat) : W.frozen? ⟨w.heap.size, j, none⟩ = false := by
  subst h
  have hb := heap_alloc_new w (.cells cs t)
  have hb2 := (g.block w.heap.size (Array.getElem?_eq_some_iff.1 hb).1).trans hb
  simp [World.frozen?, hb2]
/-- Bytes that lie in another block than the one that is written to. -/
theorem Rd.set {w : World} {q : Option Addr} {l : List UInt8} (h : Rd w q l) (p : Addr) (v : Value) (hne : ∀ a, q = some a → a.block ≠ p.block) : Rd (w.setCell p v) q l := by
  rcases h with h | ⟨b, o, rfl, hlt, hc⟩
  · exact .inl h
  · have hb := heap_setCell_other w p b v (hne _ rfl)
    refine .inr ⟨b, o, rfl, ?_, fun i hi => ?_⟩
    · have h1 : w.heap[b]? = some w.heap[b] := Array.getElem?_eq_getElem hlt
      rw [← hb] at h1
      exact (Array.getElem?_eq_some_iff.1 h1).1
    · rw [← hc i hi]
      simp only [World.cell?, hb]
theorem append_list (a b : ByteArray) : (a ++ b).data.toList = a.data.toList ++ b.data.toList := by
  rw [ByteArray.data_append]; simp

end Go.Proofs.YtbdcncojiejdoaaDoor
