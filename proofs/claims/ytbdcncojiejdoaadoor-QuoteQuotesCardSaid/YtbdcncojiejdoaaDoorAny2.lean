/- strings.IndexAny at a blank and the end of a line, in any text. Conditions: at most 2^30 bytes; the library's tables are laid. -/
import Derived.Test.YtbdcncojiejdoaaDoorAny1
import Derived.Test.YtbdcncojiejdoaaDoorQ7
import Derived.Shelf.Strings.IndexAnyAll
import Derived.Lib.TrimU
namespace Go.Proofs.YtbdcncojiejdoaaDoor
set_option linter.unusedVariables false
set_option linter.unusedSimpArgs false
open Go.RowKit

/-- Where the first blank, or end of a line, stands; -1. -/
def idxBl (l : List UInt8) : Int := if Pure.stopQ l = l.length then -1 else (Pure.stopQ l : Int)
theorem bl_iff (c : UInt8) : ([32, 10] : List UInt8).contains c = true ↔ (c.toNat = 32 ∨ c.toNat = 10) := by
  have h1 : c = 32 ↔ c.toNat = 32 := ⟨fun h => by rw [h]; rfl, fun h => UInt8.toNat_inj.1 h⟩
  have h2 : c = 10 ↔ c.toNat = 10 := ⟨fun h => by rw [h]; rfl, fun h => UInt8.toNat_inj.1 h⟩
  simp [h1, h2]
theorem indexAny_bl : ∀ l : List UInt8, Lib.indexAny l [32, 10] = idxBl l
  | [] => rfl
  | c :: l => by
    have ih := indexAny_bl l
    unfold Lib.indexAny
    by_cases h : c.toNat = 32 ∨ c.toNat = 10
    · rw [if_pos ((bl_iff c).2 h)]
      unfold idxBl Pure.stopQ
      rw [if_pos h]
      simp
    · rw [if_neg (fun e => h ((bl_iff c).1 e)), ih]
      unfold idxBl
      have hs : Pure.stopQ (c :: l) = Pure.stopQ l + 1 := by conv => lhs; unfold Pure.stopQ; rw [if_neg h]
      rw [hs, List.length_cons]
      by_cases he : Pure.stopQ l = l.length
      · simp [he]
      · have hb : ((Pure.stopQ l : Int) == -1) = false := by rw [beq_eq_false_iff_ne]; omega
        have h3 : ¬ Pure.stopQ l + 1 = l.length + 1 := by omega
        rw [if_neg h3, if_neg he, hb]
        simp
/-- n bytes that are none of the two. -/
theorem stop_skip : ∀ (n : Nat) (l : List UInt8), n ≤ l.length → (∀ j, j < n → ∃ c : UInt8, l[j]? = some c ∧ ¬ (c.toNat = 32 ∨ c.toNat = 10)) → Pure.stopQ l = n + Pure.stopQ (l.drop n)
  | 0, l, _, _ => by simp
  | n + 1, [], h, _ => by simp at h
  | n + 1, c :: l, h, hj => by
    obtain ⟨d, hd, hno⟩ := hj 0 (by omega)
    cases hd
    have hs : Pure.stopQ (c :: l) = Pure.stopQ l + 1 := by conv => lhs; unfold Pure.stopQ; rw [if_neg hno]
    rw [hs, stop_skip n l (by simpa using h) (fun j hjn => by have := hj (j + 1) (by omega); simpa using this), List.drop_succ_cons]
    omega
theorem bl_ascii : ∀ b ∈ ([32, 10] : List UInt8), b.toNat < 128 := by decide

set_option maxRecDepth 100000 in
theorem indexRune_bl (r : Int) (w : World) (h0 : 0 ≤ r) (h1 : r ≤ 1114111) :
    Calls Tryd.prog 51 #[.string ⟨#[32, 10]⟩, .int .i32 r] w fun e w' => (∃ n : Int, e = .returned (.int .i64 n) ∧ (0 ≤ n ↔ r = 32 ∨ r = 10)) ∧ Grew w w' := by
  by_cases h8 : r < 128
  · have f1 : decide ((0 : Int) ≤ r) = true := decide_eq_true h0
    have f2 : decide (r < 128) = true := decide_eq_true h8
    have hw : IntKind.u8.wrap r = r := by show r % 256 = r; omega
    have cB := fun W => Tryd.strings_IndexByte ⟨#[32, 10]⟩ r W
    have hb : (0 ≤ Lib.indexByte [32, 10] r.toNat.toUInt8 ↔ r = 32 ∨ r = 10) := by
      have key : ∀ k : Fin 128, (0 ≤ Lib.indexByte [32, 10] (k.val).toUInt8 ↔ k.val = 32 ∨ k.val = 10) := by decide +kernel
      have := key ⟨r.toNat, by omega⟩
      simp only at this
      rw [this]
      omega
    obtain ⟨N, hN⟩ : ∃ N, Lib.indexByte [32, 10] r.toNat.toUInt8 = N := ⟨_, rfl⟩
    simp only [show (⟨#[32, 10]⟩ : ByteArray).data.toList = [32, 10] from rfl, hN] at cB
    rw [hN] at hb
    have HB := Lib.hid hb
    clear hb hN
    go_enter Tryd.func51, Tryd.ntmps51
    go_wp2_with (first | (go_at_call 63; with_reducible refine (cB _).mono ?_; rintro e1 W1 ⟨rfl, h1⟩; subst W1))
    go_ret
    exact ⟨⟨_, rfl, HB.out⟩, Below.refl _ _⟩
  · by_cases he : r = 65533
    · subst he
      refine (indexRune_error ⟨#[32, 10]⟩ w bl_ascii (by decide)).mono ?_
      rintro e w' ⟨rfl, g⟩
      exact ⟨⟨_, rfl, by omega⟩, g⟩
    · refine (indexRune_short ⟨#[32, 10]⟩ r w (by omega) h1 he bl_ascii (by decide)).mono ?_
      rintro e w' ⟨rfl, g⟩
      exact ⟨⟨_, rfl, by omega⟩, g⟩

set_option maxRecDepth 100000 in
theorem useSet (n : Int) (w : World) : Calls Tryd.prog 52 #[.int .i64 n] w fun e w' => e = .returned (.bool (decide (8 < n))) ∧ w' = w := by
  go_enter Tryd.func52, Tryd.ntmps52
  go_wp2
  go_ret
  exact ⟨rfl, rfl⟩

set_option maxRecDepth 100000 in
set_option maxHeartbeats 1000000 in
theorem indexAny_run (s : ByteArray) (w : World) (hs : s.size ≤ 1073741824) :
    Calls Tryd.prog 43 #[.string s, .string ⟨#[32, 10]⟩] w fun e w' => e = .returned (.int .i64 (idxBl s.data.toList)) ∧ Grew w w' := by
  by_cases h8 : 8 < s.size
  · have h116 : (Tryd.prog.info? 74).map (fun i => (i.zero, i.size)) = some (some (.agg (Array.replicate 256 (.bool false))), 256) := by kernel_rfl
    refine (Any.strings_IndexAny_long Tryd.lays153 (zero_of_info h116).1 (zero_of_info h116).2 s ⟨#[32, 10]⟩ w (by decide) h8 (by omega) (by decide) (fun j b h => bl_ascii b (List.mem_of_getElem? h))).mono ?_
    rintro e w' ⟨rfl, rfl⟩
    refine ⟨?_, ((Below.refl _ _).alloc (Nat.le_refl _) _).alloc (by simp) _⟩
    rw [show (⟨#[32, 10]⟩ : ByteArray).data.toList = [32, 10] from rfl, indexAny_bl]
  · have h8d : decide (8 < (s.size : Int)) = false := decide_eq_false (by omega)
    have cU := fun W => useSet (s.size : Int) W
    rw [h8d] at cU
    have hsl : s.data.toList.length = s.size := Array.length_toList
    have HSL := Lib.hid hsl
    clear hsl
    go_enter Tryd.func43, Tryd.ntmps43
    go_wp2_with (first | (go_at_call 52; with_reducible refine (cU _).mono ?_; rintro e1 W1 ⟨rfl, h1⟩; subst W1))
    obtain ⟨it, hit⟩ : ∃ it, w.heap.size = it := ⟨_, rfl⟩
    have g0 : Grew w (w.alloc (.stringIter s 0)) := (Below.refl _ _).alloc (Nat.le_refl _) _
    have hi0 : (w.alloc (.stringIter s 0)).heap[it]? = some (.stringIter s 0) := by rw [← hit]; exact heap_alloc_new _ _
    try rw [hit]
    clear hi0
    go_loopw [] (fun wr => ∃ pos : Nat, pos ≤ s.size ∧ wr.heap[it]? = some (.stringIter s pos) ∧ Grew w wr ∧ Hid (Pure.stopQ s.data.toList = pos + Pure.stopQ (s.data.toList.drop pos))) (fun wr => s.size - wr.iterPos it)
    case atStart =>
      subst hit
      exact ⟨0, Nat.zero_le _, by simpa using World.iter_heap w s 0, g0, Lib.hid (by simp)⟩
    case round =>
      obtain ⟨pos, hps, hi, hg, hst⟩ := hrel
      clear g0
      by_cases hp : pos < s.size
      · have hnx : ∀ ty, (Instr.next (.pointer (some ⟨it, 0, none⟩)) true ty).run Tryd.prog wr = _ := fun ty => Lib.run_next_any_at wr it s pos ty hi hp
        obtain ⟨x, n, hd, hn1, hn, hcase⟩ := rune_at s pos hp
        have hxm : x ≤ 1114111 := by have := Lib.rune_le s pos; rw [hd] at this; exact this
        have hit2 := Lib.iterAt_heap wr it s pos (pos + n) hi
        have hb2 := Lib.below_iterAt hg (k := it) (Nat.le_of_eq hit) s (pos + n)
        rw [hd] at hnx
        simp only at hnx
        generalize hW : wr.iterAt it s (pos + n) = W at *
        have cI := indexRune_bl (x : Int) W (by omega) (by omega)
        clear hg
        have HC := Lib.hid hcase
        have HS := Lib.hid (HSL.out)
        clear hcase hd
        go_wp2_with (go_at_call 51; with_reducible refine cI.mono ?_)
        rintro e1 W1 ⟨⟨N, rfl, hN⟩, g1⟩
        clear cI
        have hit3 : W1.heap[it]? = some (.stringIter s (pos + n)) := (g1.block it (Array.getElem?_eq_some_iff.1 hit2).1).trans hit2
        have hdr : (s.data.toList.drop pos).length = s.size - pos := by rw [List.length_drop, HSL.out]
        by_cases h0 : 0 ≤ N
        · have fN : decide ((0 : Int) ≤ N) = true := decide_eq_true h0
          have hres : idxBl s.data.toList = (pos : Int) := by
            have hx := hN.1 h0
            rcases HC.out with ⟨rfl, hx8, hxs, hsp⟩ | ⟨hx8, -⟩
            · have hd2 : s.data.toList.drop pos = s[pos]'hp :: s.data.toList.drop (pos + 1) := by
                have hlt : pos < s.data.toList.length := by rw [HSL.out]; exact hp
                rw [List.drop_eq_getElem_cons hlt]
                have := List.getElem?_eq_getElem hlt
                rw [hsp] at this
                rw [Option.some.inj this]
              have hz : Pure.stopQ (s.data.toList.drop pos) = 0 := by rw [hd2]; unfold Pure.stopQ; rw [if_pos (by omega)]
              have := hst.out
              unfold idxBl
              rw [this, hz, HSL.out, Nat.add_zero, if_neg (by omega)]
            · omega
          have HR := Lib.hid hres
          clear hres hN HC
          go_wp2
          go_ret
          exact ⟨by rw [HR.out]; rfl, Grew.trans' hb2 g1⟩
        · have fN : decide ((0 : Int) ≤ N) = false := decide_eq_false h0
          have hnx2 : ¬ ((x : Int) = 32 ∨ (x : Int) = 10) := fun h => h0 (hN.2 h)
          have hst2 : Pure.stopQ s.data.toList = (pos + n) + Pure.stopQ (s.data.toList.drop (pos + n)) := by
            have h1 := stop_skip n (s.data.toList.drop pos) (by rw [hdr]; omega) (fun j hj => by
              rw [List.getElem?_drop]
              rcases HC.out with ⟨rfl, hx8, hxs, hsp⟩ | ⟨hx8, hall⟩
              · obtain rfl : j = 0 := by omega
                exact ⟨_, hsp, by omega⟩
              · obtain ⟨c, hc, hc8⟩ := hall j hj
                exact ⟨c, hc, by omega⟩)
            rw [hst.out, h1, List.drop_drop]
            omega
          have HST2 := Lib.hid hst2
          clear hst2 hst hN HC hnx2 hdr
          go_wp2
          go_roundw
          case rel => exact ⟨pos + n, hn, hit3, Grew.trans' hb2 g1, HST2⟩
          case measure =>
            simp only [World.iterPos, hit3, hi]
            omega
      · have hnx : ∀ ty, (Instr.next (.pointer (some ⟨it, 0, none⟩)) true ty).run Tryd.prog wr = _ := fun ty => Lib.run_next_end_at wr it s pos ty hi hp
        obtain rfl : pos = s.size := by omega
        have hres : idxBl s.data.toList = -1 := by
          have h1 := hst.out
          rw [List.drop_of_length_le (by rw [HSL.out]; exact Nat.le_refl _)] at h1
          unfold idxBl
          rw [h1, HSL.out]
          simp [Pure.stopQ]
        have HR := Lib.hid hres
        clear hres hst
        go_wp2
        go_ret
        exact ⟨by rw [HR.out]; rfl, hg⟩

end Go.Proofs.YtbdcncojiejdoaaDoor
