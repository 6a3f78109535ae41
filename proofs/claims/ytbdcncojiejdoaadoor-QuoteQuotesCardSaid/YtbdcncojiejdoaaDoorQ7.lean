/- quote.Quote, walked. Conditions: the decoder's tables are laid; the text is at most 2^30 bytes long. -/
import Derived.Test.YtbdcncojiejdoaaDoorQ6
namespace Go.Proofs.YtbdcncojiejdoaaDoor
set_option linter.unusedVariables false
set_option linter.unusedSimpArgs false
open Go.RowKit

abbrev QCells (s : ByteArray) (k : Nat) : List Value := Lib.byteCells (34 :: (s.data.toList.take k).flatMap Pure.oneQ)

theorem q_len (s : ByteArray) (k : Nat) (hs : s.size ≤ 1073741824) : (QCells s k).length ≤ 4294967300 := by
  have h1 := flat_len (s.data.toList.take k)
  have hsl : s.data.toList.length = s.size := Array.length_toList
  unfold QCells
  rw [Lib.byteCells_length, List.length_cons]
  rw [List.length_take] at h1
  omega
theorem q_next (s : ByteArray) (k : Nat) (c : UInt8) (hc : s.data.toList[k]? = some c) : QCells s (k + 1) = QCells s k ++ Lib.byteCells (Pure.oneQ c) := by
  unfold QCells
  rw [List.take_add_one, hc, ← Lib.byteCells_append]
  simp
theorem cells_str (l : List UInt8) : Lib.strCells ⟨l.toArray⟩ = Lib.byteCells l := by
  simp [Lib.strCells, Lib.byteCells]

theorem one_oct {c : UInt8} (h34 : c.toNat ≠ 34) (h92 : c.toNat ≠ 92) (h10 : c.toNat ≠ 10) (h9 : c.toNat ≠ 9) (h : c.toNat < 32 ∨ 127 ≤ c.toNat) : Pure.oneQ c = Pure.octB c := by
  unfold Pure.oneQ
  rw [if_neg (fun e => h34 (by rw [e]; rfl)), if_neg (fun e => h92 (by rw [e]; rfl)), if_neg (fun e => h10 (by rw [e]; rfl)), if_neg (fun e => h9 (by rw [e]; rfl)), if_pos h]
theorem one_self {c : UInt8} (h34 : c.toNat ≠ 34) (h92 : c.toNat ≠ 92) (h0 : 32 ≤ c.toNat) (h1 : c.toNat < 127) : Pure.oneQ c = [c] := by
  unfold Pure.oneQ
  rw [if_neg (fun e => h34 (by rw [e]; rfl)), if_neg (fun e => h92 (by rw [e]; rfl)), if_neg (fun e => by rw [e] at h0; exact absurd h0 (by decide)), if_neg (fun e => by rw [e] at h0; exact absurd h0 (by decide)), if_neg (by omega)]

/-- What stands at a place of a text, for a rune: the rune, how many bytes it has, and that these are all written as signs. -/
theorem rune_at (s : ByteArray) (pos : Nat) (hp : pos < s.size) : ∃ x n : Nat, Utf8.decode s pos = (x, n) ∧ 1 ≤ n ∧ pos + n ≤ s.size ∧
    ((n = 1 ∧ x < 128 ∧ x = (s[pos]'hp).toNat ∧ s.data.toList[pos]? = some (s[pos]'hp)) ∨ (128 ≤ x ∧ ∀ j, j < n → ∃ c : UInt8, s.data.toList[pos + j]? = some c ∧ 128 ≤ c.toNat)) := by
  have hx := Lib.data_getElem? s pos hp
  have hf := decode_fits s pos hp
  have hsl : s.data.toList.length = s.size := Array.length_toList
  by_cases h8 : (s[pos]'hp).toNat < 128
  · have hd := decode_ascii s pos hp h8
    rw [hd] at hf
    exact ⟨_, _, hd, Nat.le_refl _, hf, .inl ⟨rfl, h8, rfl, hx⟩⟩
  · have hh : 128 ≤ (s[pos]'hp).toNat := by omega
    have hd := decode_high s pos hp hh
    refine ⟨(Utf8.decode s pos).1, (Utf8.decode s pos).2, rfl, hd.2, hf, .inr ⟨hd.1, fun (j : Nat) (hj : j < (Utf8.decode s pos).2) => ?_⟩⟩
    have hl : pos + j < s.data.toList.length := by omega
    refine ⟨s.data.toList[pos + j], List.getElem?_eq_getElem hl, ?_⟩
    refine Pure.decode_bytes s pos hp hh _ (List.mem_of_getElem? (i := j) ?_)
    rw [List.getElem?_take, if_pos hj, List.getElem?_drop, List.getElem?_eq_getElem hl]

theorem builder_lt {B b : Nat} {bs : List Value} {w : World} (h : Lib.IsBuilderF tB tU8 B b bs w) : b < w.heap.size := by
  rcases h with h | h <;> exact h.lt
theorem kept_iter {b k : Nat} {s : ByteArray} {pos : Nat} {w w' : World} (hk : Lib.OthersKept tU8 (some b) w w') (hne : k ≠ b) (h : w.heap[k]? = some (.stringIter s pos)) : w'.heap[k]? = some (.stringIter s pos) :=
  hk k _ h (by simpa using hne) (fun _ _ e => nomatch e)

set_option maxRecDepth 100000 in
set_option maxHeartbeats 4000000 in
theorem quote_Quote (s : ByteArray) (w : World) (hs : s.size ≤ 1073741824) (hu : U8Ok w) :
    Calls Tryd.prog 13 #[.string s] w fun e w' => e = .returned (.string ⟨(Pure.quoteP s.data.toList).toArray⟩) ∧ Grew w w' := by
  have g0 : Grew w w := Below.refl _ _
  have cP := (fun W (g : Grew w W) => quote_Plain s W hs : ∀ W, Grew w W → _)
  have cC := (fun W (g : Grew w W) => any_blank s W : ∀ W, Grew w W → _)
  have hsl : s.data.toList.length = s.size := Array.length_toList
  obtain ⟨A, hA⟩ : ∃ A, Pure.plainP s.data.toList = A := ⟨_, rfl⟩
  obtain ⟨C, hC⟩ : ∃ A, Pure.cleanP s.data.toList = A := ⟨_, rfl⟩
  have hq : Pure.quoteP s.data.toList = if (A && C) = true then s.data.toList else Pure.quoteB s.data.toList := by unfold Pure.quoteP; rw [hA, hC]
  simp only [hA] at cP
  simp only [hC] at cC
  clear hA hC
  rw [hq]
  clear hq
  have HSL := Lib.hid hsl
  have HU := Lib.hid hu
  clear hsl hu
  by_cases hAC : (A && C) = true
  · obtain ⟨rfl, rfl⟩ : A = true ∧ C = true := by simpa using hAC
    clear hAC
    go_enter Tryd.func13, Tryd.ntmps13
    go_wp2_with (first | (go_at_call 11; with_reducible refine (cP _ (by assumption)).mono ?_; rintro e1 W1 ⟨rfl, g1⟩; replace g1 := Grew.trans' (a := w) (by assumption) g1) | (go_at_call 23; with_reducible refine (cC _ (by assumption)).mono ?_; rintro e1 W1 ⟨rfl, g1⟩; replace g1 := Grew.trans' (a := w) (by assumption) g1))
    go_ret
    exact ⟨rfl, by assumption⟩
  · rw [if_neg hAC]
    have hA2 : A = false ∨ (A = true ∧ C = false) := by cases A <;> cases C <;> simp_all
    rcases hA2 with rfl | ⟨rfl, rfl⟩
    all_goals
      clear hAC
      go_enter Tryd.func13, Tryd.ntmps13
      go_wp2_with (first | (go_at_call 11; with_reducible refine (cP _ (by assumption)).mono ?_; rintro e1 W1 ⟨rfl, g1⟩; replace g1 := Grew.trans' (a := w) (by assumption) g1) | (go_at_call 23; with_reducible refine (cC _ (by assumption)).mono ?_; rintro e1 W1 ⟨rfl, g1⟩; replace g1 := Grew.trans' (a := w) (by assumption) g1))
      have gW : Grew w W1 := by assumption
      have hsz0 := gW.size
      have hI0 := Lib.IsBuilderF.of (Lib.fresh_isBuilder tB tU8 W1)
      clear cP cC
      have hz : ([] : List Value).length + 1 ≤ 140737488355328 := (show 0 + 1 ≤ 140737488355328 by omega)
      with_reducible refine (writeByte W1.heap.size W1.heap.size [] 34 _ hI0 hz (Nat.le_of_lt (builder_lt hI0))).mono ?_
      rintro e W2 ⟨rfl, hI, hb2, -⟩
      have gW2 : Grew w W2 := (gW.alloc hsz0 _).trans (hb2.mono hsz0)
      have hbl := builder_lt hI
      clear hb2 hI0 gW
      generalize W1.heap.size = b at *
      obtain ⟨it, hit⟩ : ∃ it, W2.heap.size = it := ⟨_, rfl⟩
      have hitb : it ≠ b := by omega
      have hitw : w.heap.size ≤ it := by have := gW2.size; omega
      go_wp2
      go_loopw [] (fun wr => ∃ pos : Nat, pos ≤ s.size ∧ wr.heap[it]? = some (.stringIter s pos) ∧ Lib.IsBuilderF tB tU8 b b (QCells s pos) wr ∧ Grew w wr) (fun wr => s.size - wr.iterPos it)
      case atStart =>
        subst hit
        refine ⟨0, Nat.zero_le _, by simpa using World.iter_heap W2 s 0, ?_, (gW2.alloc gW2.size _)⟩
        exact (hI.alloc _ : _)
      case round =>
        obtain ⟨pos, hps, hi, hB, hg⟩ := hrel
        clear hI gW2 hbl hit
        have hql := q_len s pos hs
        have hql2 : ∀ x : Nat, x ≤ 4 → (QCells s pos).length + x ≤ 140737488355328 := fun x hx => by omega
        have hbl := builder_lt hB
        by_cases hp : pos < s.size
        · have hnx : ∀ ty, (Instr.next (.pointer (some ⟨it, 0, none⟩)) true ty).run Tryd.prog wr = _ := fun ty => Lib.run_next_any_at wr it s pos ty hi hp
          obtain ⟨x, n, hd, hn1, hn, hcase⟩ := rune_at s pos hp
          have hit2 := Lib.iterAt_heap wr it s pos (pos + n) hi
          have hb2 := Lib.below_iterAt hg (k := it) hitw s (pos + n)
          have hB2 := hB.iterAt hi (pos + n)
          have hbl2 := builder_lt hB2
          rw [hd] at hnx
          simp only at hnx
          generalize hW : wr.iterAt it s (pos + n) = W at *
          clear hB hg hbl
          have finish : ∀ (W' : World) (m : Nat), m = pos + n → Lib.OthersKept tU8 (some b) W W' → Below b W W' → W'.heap[it]? = some (.stringIter s m) ∧ Grew w W' ∧ s.size - W'.iterPos it < s.size - wr.iterPos it := by
            intro W' m hm hk hb
            subst hm
            have h1 := kept_iter hk hitb hit2
            refine ⟨h1, hb2.trans (hb.mono hsz0), ?_⟩
            simp only [World.iterPos, h1, hi]
            omega
          by_cases ha : n = 1 ∧ x < 127 ∧ (32 ≤ x ∨ x = 10 ∨ x = 9)
          · obtain ⟨rfl, hx7, hx0⟩ := ha
            obtain ⟨-, -, hxs, hc⟩ := hcase.resolve_right (by rintro ⟨h, -⟩; omega)
            obtain ⟨c, hcc⟩ : ∃ c, s[pos]'hp = c := ⟨_, rfl⟩
            rw [hcc] at hc hxs
            have hnq := q_next s pos c hc
            clear hcase hd hc hcc hi
            obtain ⟨y, hy⟩ : ∃ y : Int, (x : Int) = y := ⟨_, rfl⟩
            rw [hy] at hnx
            by_cases h34 : y = 34 ∨ y = 92
            · have hone : QCells s (pos + 1) = QCells s pos ++ [.int .u8 92] ++ [.int .u8 y] := by
                have hcy : c = 34 ∨ c = 92 := by
                  rcases h34 with h | h
                  · exact .inl (UInt8.toNat_inj.1 (by show c.toNat = 34; omega))
                  · exact .inr (UInt8.toNat_inj.1 (by show c.toNat = 92; omega))
                rcases hcy with rfl | rfl
                · have : y = 34 := by rw [← hy, hxs]; rfl
                  subst this; rw [hnq]; simp [Pure.oneQ, Lib.byteCells]
                · have : y = 92 := by rw [← hy, hxs]; rfl
                  subst this; rw [hnq]; simp [Pure.oneQ, Lib.byteCells]
              have hyy := hy
              clear hy hxs hnq
              rcases h34 with rfl | rfl
              all_goals
                go_wp2_with (go_at_call 25; with_reducible refine (writeByte b b _ _ _ hB2 (by omega) (by omega)).mono ?_)
                rintro e W3 ⟨rfl, hI3, hb3, hk3⟩
                have hbl3 := builder_lt hI3
                go_wp2_with (go_at_call 25; with_reducible refine (writeByte b b _ _ _ hI3 (by simp; omega) (by omega)).mono ?_)
                rintro e W4 ⟨rfl, hI4, hb4, hk4⟩
                obtain ⟨f1, f2, f3⟩ := finish W4 (pos + 1) rfl (hk3.trans hk4) (hb3.trans hb4)
                clear finish
                go_wp2
                go_roundw
                case rel => exact ⟨pos + 1, by omega, f1, by rw [hone]; exact hI4, f2⟩
                case measure => exact f3
            have e34 : (y == 34) = false := beq_eq_false_iff_ne.2 fun e => h34 (.inl e)
            have e92 : (y == 92) = false := beq_eq_false_iff_ne.2 fun e => h34 (.inr e)
            by_cases h10 : y = 10 ∨ y = 9
            · have hone : QCells s (pos + 1) = QCells s pos ++ [.int .u8 92] ++ [.int .u8 (if y = 10 then 110 else 116)] := by
                rcases h10 with h | h
                · have : c = 10 := UInt8.toNat_inj.1 (by show c.toNat = 10; omega)
                  subst this; rw [hnq, if_pos h]; simp [Pure.oneQ, Lib.byteCells]
                · have : c = 9 := UInt8.toNat_inj.1 (by show c.toNat = 9; omega)
                  subst this; rw [hnq, if_neg (by omega)]; simp [Pure.oneQ, Lib.byteCells]
              have hyy := hy
              clear hy hxs hnq h34
              rcases h10 with rfl | rfl
              all_goals
                go_wp2_with (go_at_call 26; with_reducible refine (writeString b b _ _ _ hB2 (hql2 _ (by decide)) (by omega)).mono ?_; rintro e W4 ⟨rfl, hI4, hb4, hk4⟩)
                obtain ⟨f1, f2, f3⟩ := finish W4 (pos + 1) rfl hk4 hb4
                clear finish
                go_roundw
                case rel => exact ⟨pos + 1, by omega, f1, by rw [hone]; simpa [Lib.strCells] using hI4, f2⟩
                case measure => exact f3
            · have f10 : (y == 10) = false := beq_eq_false_iff_ne.2 fun e => h10 (.inl e)
              have f9 : (y == 9) = false := beq_eq_false_iff_ne.2 fun e => h10 (.inr e)
              have h32 : 32 ≤ y := by omega
              have h127 : y < 127 := by omega
              have hone : QCells s (pos + 1) = QCells s pos ++ [.int .u8 y] := by
                rw [hnq, one_self (by omega) (by omega) (by omega) (by omega), ← hy, hxs]
                rfl
              have hyy := hy
              clear hy hxs hnq h34 h10
              go_wp2_with (go_at_call 25; with_reducible refine (writeByte b b _ _ _ hB2 (by omega) (by omega)).mono ?_)
              rintro e W4 ⟨rfl, hI4, hb4, hk4⟩
              obtain ⟨f1, f2, f3⟩ := finish W4 (pos + 1) rfl hk4 hb4
              clear finish
              go_wp2
              go_roundw
              case rel => exact ⟨pos + 1, by omega, f1, by rw [hone]; exact hI4, f2⟩
              case measure => exact f3
          · have hoct : ∀ j, j < n → ∃ c : UInt8, s.data.toList[pos + j]? = some c ∧ Pure.oneQ c = Pure.octB c := by
              intro j hj
              rcases hcase with ⟨h1, h2, h3, h4⟩ | ⟨_, h⟩
              · have hj0 : j = 0 := by omega
                subst hj0
                exact ⟨_, h4, one_oct (by omega) (by omega) (by omega) (by omega) (by omega)⟩
              · obtain ⟨c, hc, h8⟩ := h j hj
                exact ⟨c, hc, one_oct (by omega) (by omega) (by omega) (by omega) (by omega)⟩
            obtain ⟨y, hy⟩ : ∃ y : Int, (x : Int) = y := ⟨_, rfl⟩
            rw [hy] at hnx
            have e34 : (y == 34) = false := beq_eq_false_iff_ne.2 (by omega)
            have e92 : (y == 92) = false := beq_eq_false_iff_ne.2 (by omega)
            have e10 : (y == 10) = false := beq_eq_false_iff_ne.2 (by omega)
            have e9 : (y == 9) = false := beq_eq_false_iff_ne.2 (by omega)
            have hout : y < 32 ∨ 127 ≤ y := by omega
            have cD := Tryd.utf8_DecodeRuneInString (s.extract pos s.size) W (u8_grew HU.out hb2)
            rw [decode_tail s pos hp, hd] at cD
            simp only at cD
            rw [hy] at cD
            have HO := Lib.hid hoct
            clear hcase hd hoct hy ha
            rcases hout with hout | hout
            all_goals
              go_wp2_with (go_at_call 27; with_reducible refine cD.mono ?_; rintro e W3 ⟨rfl, g3⟩)
              have hB3 := builder_grew hB2 g3
              have hit3 := (g3.block _ (Array.getElem?_eq_some_iff.1 hit2).1).trans hit2
              have hg3 := hb2.trans (g3.mono hb2.size)
              have hbl3 := builder_lt hB3
              clear hB2 hit2 cD hb2 g3 hbl2 finish e34 e92 e10 e9 hout hnx
              have hfin : ∀ wr2 : World, wr2.heap[it]? = some (.stringIter s (pos + n)) → s.size - wr2.iterPos it < s.size - wr.iterPos it := by
                intro wr2 h1
                simp only [World.iterPos, h1, hi]
                omega
              clear hi
              go_loopw [32] (fun k wr2 => ∃ j : Nat, j ≤ n ∧ k = .int .i64 j ∧ wr2.heap[it]? = some (.stringIter s (pos + n)) ∧ Lib.IsBuilderF tB tU8 b b (QCells s (pos + j)) wr2 ∧ Grew w wr2) (fun k _ => n - (intOf k).toNat)
              case atStart => exact ⟨0, Nat.zero_le _, rfl, hit3, hB3, hg3⟩
              case round =>
                obtain ⟨j, hj, rfl, hit4, hB4, hg4⟩ := hrel
                clear hB3 hit3 hg3 hbl3 hql hql2
                have hql4 := q_len s (pos + j) hs
                have hbl4 := builder_lt hB4
                by_cases hjn : j < n
                · obtain ⟨c, hc, ho⟩ := HO.out j hjn
                  have hnq : QCells s (pos + j + 1) = QCells s (pos + j) ++ Lib.strCells ⟨(Pure.octB c).toArray⟩ := by
                    rw [q_next s (pos + j) c hc, ho, cells_str]
                  obtain ⟨z, hz⟩ : ∃ z : Nat, pos + j = z := ⟨_, rfl⟩
                  have hzi : (pos : Int) + (j : Int) = (z : Int) := by omega
                  rw [hz] at hc hnq
                  have hix := index_str s z c hc
                  obtain ⟨v, hv⟩ : ∃ v : Int, (c.toNat : Int) = v := ⟨_, rfl⟩
                  rw [hv] at hix
                  have c1 := quote_octal c v hv wr
                  have hO4 : (⟨(Pure.octB c).toArray⟩ : ByteArray).size ≤ 4 := Nat.le_refl 4
                  obtain ⟨E, hE⟩ : ∃ E : ByteArray, (⟨(Pure.octB c).toArray⟩ : ByteArray) = E := ⟨_, rfl⟩
                  rw [hE] at c1 hnq hO4
                  clear hE hv hc ho hfin
                  have hz1 : z < s.size := by omega
                  go_wp2_with (first | (go_at_call 28; with_reducible refine c1.mono ?_; rintro e W5 ⟨rfl, g5⟩; have hB5 := builder_grew hB4 g5; have hbl5 := builder_lt hB5) | (go_at_call 26; with_reducible refine (writeString b b _ _ _ hB5 (by omega) (by omega)).mono ?_; rintro e W6 ⟨rfl, hI6, hb6, hk6⟩))
                  go_roundw
                  case rel =>
                    refine ⟨j + 1, by omega, by go_num, kept_iter hk6 hitb ((g5.block _ (Array.getElem?_eq_some_iff.1 hit4).1).trans hit4), ?_, (hg4.trans (g5.mono hg4.size)).trans (hb6.mono hsz0)⟩
                    rw [← Nat.add_assoc, hz, hnq, ← hz]
                    exact hI6
                  case measure => simp [intOf]; omega
                · have hje : j = n := by omega
                  subst hje
                  have hf := hfin wr hit4
                  clear hfin
                  go_wp2
                  go_roundw
                  case rel => exact ⟨pos + j, hn, hit4, hB4, hg4⟩
                  case measure => exact hf
        · have hpe : pos = s.size := by omega
          subst hpe
          have hnx : ∀ ty, (Instr.next (.pointer (some ⟨it, 0, none⟩)) true ty).run Tryd.prog wr = _ := fun ty => Lib.run_next_end_at wr it s s.size ty hi hp
          go_wp2_with (go_at_call 25; with_reducible refine (writeByte b b _ _ _ hB (by omega) (by omega)).mono ?_)
          rintro e W3 ⟨rfl, hI3, hb3, -⟩
          have hbl3 := builder_lt hI3
          have hI4 : Lib.IsBuilderF tB tU8 b b (Lib.byteCells (Pure.quoteB s.data.toList)) W3 := by
            have e : Lib.byteCells (Pure.quoteB s.data.toList) = QCells s s.size ++ [.int .u8 34] := by
              unfold QCells
              rw [List.take_of_length_le (by rw [HSL.out]; omega)]
              show Lib.byteCells ((34 :: s.data.toList.flatMap Pure.oneQ) ++ [34]) = _
              rw [Lib.byteCells_append]
              rfl
            rw [e]; exact hI3
          go_wp2_with (go_at_call 29; with_reducible refine (Tryd.Builder_String_any_k b b _ _ hI4 (by omega)).mono ?_)
          rintro e W4 ⟨rfl, -, hb4, -⟩
          go_wp2
          go_ret
          exact ⟨rfl, hg.trans ((hb3.trans hb4).mono hsz0)⟩

end Go.Proofs.YtbdcncojiejdoaaDoor
