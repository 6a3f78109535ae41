/- The law QuoteParts of layer 3, walked. Conditions: the library's tables are laid. -/
import Derived.Test.YtbdcncojiejdoaaDoorLaw03a
import Derived.Test.YtbdcncojiejdoaaDoorPure03b
import Derived.Test.YtbdcncojiejdoaaDoorInts
import Derived.Test.YtbdcncojiejdoaaDoorFrozen
import Derived.Test.YtbdcncojiejdoaaDoorConst
namespace Go.Proofs.YtbdcncojiejdoaaDoor
set_option linter.unusedVariables false
set_option linter.unusedSimpArgs false
open Go.RowKit

/-- The bytes of ".git", the letters before place j in either case. -/
def GitAt (j : Nat) (L : List UInt8) : Prop := ∃ b c d : UInt8, L = [46, b, c, d] ∧ (b = 103 ∨ (2 ≤ j ∧ b = 71)) ∧ (c = 105 ∨ (3 ≤ j ∧ c = 73)) ∧ (d = 116 ∨ (4 ≤ j ∧ d = 84))

theorem GitAt.mono {j : Nat} {L : List UInt8} (h : GitAt j L) : GitAt (j + 1) L := by
  obtain ⟨b, c, d, rfl, hb, hc, hd⟩ := h
  exact ⟨b, c, d, rfl, hb.imp id (fun h => ⟨by omega, h.2⟩), hc.imp id (fun h => ⟨by omega, h.2⟩), hd.imp id (fun h => ⟨by omega, h.2⟩)⟩
/-- The letter at a place that has not been reached, and the text with its capital there. -/
theorem GitAt.cap {j : Nat} {L : List UInt8} (h : GitAt j L) (h0 : j ≠ 0) (h4 : j < 4) : ∃ c : UInt8, L.getD j 0 = c ∧ 103 ≤ c.toNat ∧ c.toNat ≤ 116 ∧ j < L.length ∧ GitAt (j + 1) (L.set j (UInt8.ofNat (c.toNat - 32))) := by
  obtain ⟨b, c, d, rfl, hb, hc, hd⟩ := h
  have : j = 1 ∨ j = 2 ∨ j = 3 := by omega
  rcases this with rfl | rfl | rfl
  · obtain rfl : b = 103 := hb.resolve_right (fun h => by omega)
    exact ⟨103, rfl, by decide, by decide, by simp, 71, c, d, rfl, .inr ⟨by omega, rfl⟩, hc.imp id (fun h => ⟨by omega, h.2⟩), hd.imp id (fun h => ⟨by omega, h.2⟩)⟩
  · obtain rfl : c = 105 := hc.resolve_right (fun h => by omega)
    exact ⟨105, rfl, by decide, by decide, by simp, b, 73, d, rfl, hb.imp id (fun h => ⟨by omega, h.2⟩), .inr ⟨by omega, rfl⟩, hd.imp id (fun h => ⟨by omega, h.2⟩)⟩
  · obtain rfl : d = 116 := hd.resolve_right (fun h => by omega)
    exact ⟨116, rfl, by decide, by decide, by simp, b, c, 84, rfl, hb.imp id (fun h => ⟨by omega, h.2⟩), hc.imp id (fun h => ⟨by omega, h.2⟩), .inr ⟨by omega, rfl⟩⟩

theorem bool_step {gb G g : Bool} (h : gb = (G && g)) (kb : Bool) : (gb && kb) = (G && (g && kb)) := by rw [h, Bool.and_assoc]
theorem parts_first {S P : ByteArray} {k : Nat} {g g' : Bool} (h : Pure.PartsQ k S.data.toList g) (hk : k = 0) (hp : Pure.PieceQ P.data.toList g') : Pure.PartsQ (k + 1) (S ++ P).data.toList (g && g') := by
  rcases h with ⟨_, h1, h2⟩ | ⟨h1, _⟩
  · subst hk
    rw [append_list, h1, h2, Bool.true_and]
    exact Pure.PartsQ.first hp
  · omega
theorem parts_next {S P : ByteArray} {k : Nat} {g g' : Bool} (h : Pure.PartsQ k S.data.toList g) (hk : 1 ≤ k) (hp : Pure.PieceQ P.data.toList g') : Pure.PartsQ (k + 1) (S ++ (⟨#[47]⟩ : ByteArray) ++ P).data.toList (g && g') := by
  rw [append_list, append_list]
  exact Pure.PartsQ.next h hk hp

set_option maxRecDepth 100000 in
set_option maxHeartbeats 4000000 in
theorem law_QuoteParts (p : Option Addr) (zs : List Int) (cap : Nat) (x : Int) (w : World) (hr : RdZ w p zs) (hl : zs.length ≤ 9223372036854775807) (hz : ∀ z ∈ zs, -9223372036854775808 ≤ z ∧ z ≤ 9223372036854775807) (hx0 : -9223372036854775808 ≤ x) (hx1 : x ≤ 9223372036854775807) (hm : MaxOk w) (hu : U8Ok w) (hF : FoldOk w) :
    Calls Tryd.prog 4 #[.slice p zs.length cap, .int .i64 x] w fun e w' => e = .returned (.bool true) ∧ Grew w w' := by
  have ca := fun W (g : Grew w W) => awake03 W (hm.grew g) (u8_grew hu g) (hF.grew g)
  have g0 : Grew w w := Below.refl _ _
  by_cases h0 : zs.length = 0
  · clear hm hu hF
    go_enter Tryd.func4, Tryd.ntmps4
    go_wp2_with (first | (go_at_call 8; with_reducible refine (ca _ (by assumption)).mono ?_; rintro e1 W1 ⟨rfl, g1⟩; replace g1 := Grew.trans' (a := w) (by assumption) g1))
    go_ret
    exact ⟨rfl, by assumption⟩
  by_cases h12 : 20 < zs.length
  · clear hm hu hF
    go_enter Tryd.func4, Tryd.ntmps4
    go_wp2_with (first | (go_at_call 8; with_reducible refine (ca _ (by assumption)).mono ?_; rintro e1 W1 ⟨rfl, g1⟩; replace g1 := Grew.trans' (a := w) (by assumption) g1))
    go_ret
    exact ⟨rfl, by assumption⟩
  have f1 : decide (20 < (zs.length : Int)) = false := decide_eq_false (by omega)
  have f2 : ((zs.length : Int) == 0) = false := by rw [beq_eq_false_iff_ne]; omega
  rcases hr with hr | ⟨b, o, rfl, hlt, hcell⟩
  · subst hr; simp at h0
  have HC := Lib.hid hcell
  have HM := Lib.hid hm
  have HU := Lib.hid hu
  have HF := Lib.hid hF
  clear hcell hz hm hu hF
  obtain ⟨G16, hG16⟩ : ∃ G, decide ((zs.length : Int) ≤ 16) = G := ⟨_, rfl⟩
  go_enter Tryd.func4, Tryd.ntmps4
  go_wp2
  go_loopw [5, 6, 7] (fun v gd i wr => ∃ (k : Nat) (S : ByteArray) (g gb : Bool), v = .string S ∧ gd = .bool gb ∧ Hid (gb = (G16 && g)) ∧ i = .int .i64 (k : Int) ∧ k ≤ zs.length ∧ S.size ≤ 6 * k ∧ Hid (Pure.PartsQ k S.data.toList g) ∧ Grew w wr) (fun _ _ i _ => zs.length - (intOf i).toNat)
  case atStart => exact ⟨0, _, true, G16, rfl, rfl, (by simp [Hid]), rfl, by omega, Nat.le_refl _, .inl ⟨rfl, rfl, rfl⟩, g0⟩
  case round =>
    obtain ⟨k, S, gg, gb, rfl, rfl, hgb, rfl, hk, hSz, hG, hb⟩ := hrel
    by_cases hlk : k < zs.length
    · obtain ⟨z, hzk⟩ : ∃ z, zs.getD k 0 = z := ⟨_, rfl⟩
      have hcz : ∀ W, Grew w W → W.cell? ⟨b, o + k, none⟩ = some (.int .i64 z) := fun W g => (g.cell (p := ⟨b, o + k, none⟩) hlt).trans (by rw [HC.out k hlk, hzk])
      obtain ⟨K, hK, hK8⟩ := pick_wrap z 8 8 rfl (by decide) (by decide)
      clear hzk
      have hsz := hb.size
      have hb1 := heap_alloc_new wr (.cells #[Value.int .u8 46, Value.int .u8 103, Value.int .u8 105, Value.int .u8 116] 5 (4, 5))
      have gal : Grew w (wr.alloc (.cells #[Value.int .u8 46, Value.int .u8 103, Value.int .u8 105, Value.int .u8 116] 5 (4, 5))) := hb.trans' ((Below.refl _ _).alloc (Nat.le_refl _) _)
      have kc1 : (convert 25 25 (.slice (some ⟨wr.heap.size, 0, none⟩) 4 4)).run Tryd.prog (wr.alloc (.cells #[Value.int .u8 46, Value.int .u8 103, Value.int .u8 105, Value.int .u8 116] 5)) = .ok (.slice (some ⟨wr.heap.size, 0, none⟩) 4 4) (wr.alloc (.cells #[Value.int .u8 46, Value.int .u8 103, Value.int .u8 105, Value.int .u8 116] 5 (4, 5))) := conv_const wr _ 4 4
      obtain ⟨r, hr⟩ : ∃ r, wr.heap.size = r := ⟨_, rfl⟩
      rw [hr] at hb1 kc1 hsz
      obtain ⟨W1, hW1⟩ : ∃ W1, wr.alloc (.cells #[Value.int .u8 46, Value.int .u8 103, Value.int .u8 105, Value.int .u8 116] 5 (4, 5)) = W1 := ⟨_, rfl⟩
      rw [hW1] at hb1 kc1 gal
      have hk1 : decide (0 < k) = false ∨ decide (0 < k) = true := by cases decide (0 < k) <;> simp
      have hK1 : decide (K < 4) = false ∨ decide (K < 4) = true := by cases decide (K < 4) <;> simp
      rcases hk1 with hk1 | hk1
      · have hkp : ¬ 0 < k := of_decide_eq_false hk1
        have HK : Hid (k = 0) := Nat.eq_zero_of_not_pos hkp
        clear hkp
        go_wp2
        go_loopw [37] (fun i wr => ∃ (j : Nat) (cs : Array Value) (L : List UInt8), i = .int .i64 (j : Int) ∧ j ≤ 4 ∧ wr.heap[r]? = some (.cells cs 5 (4, 5)) ∧ Holds8 cs L ∧ Hid (GitAt j L) ∧ Grew w wr) (fun i _ => 4 - (intOf i).toNat)
        case atStart =>
          refine ⟨0, _, [46, 103, 105, 116], rfl, by omega, hb1, ?_, ⟨_, _, _, rfl, .inl rfl, .inl rfl, .inl rfl⟩, gal⟩
          intro i hi
          have : i = 0 ∨ i = 1 ∨ i = 2 ∨ i = 3 := by have : i < 4 := hi; omega
          rcases this with rfl | rfl | rfl | rfl <;> rfl
        case round =>
          obtain ⟨j, cs, L, rfl, hj, hrow, hH, hgit, hb2⟩ := hrel
          by_cases hj4 : j < 4
          · by_cases hj0 : j = 0
            · subst hj0
              go_wp2
              all_goals
                go_roundw
                case rel => exact ⟨1, cs, L, by go_num, by omega, hrow, hH, GitAt.mono hgit.out, hb2⟩
                case measure => simp [intOf]
            · obtain ⟨c, hcL, hc0, hc1, hjL, hnext⟩ := GitAt.cap hgit.out hj0 hj4
              have hce2 : wr.cell? ⟨r, j, none⟩ = some (.int .u8 (c.toNat : Int)) := by rw [cell_of_row wr r j _ _ _ hrow, hH j hjL, hcL]
              have hfr := frozen_any wr r j _ _ 4 5 hrow hj4
              have hset := set_cell_any wr r j _ _ _ (.int .u8 ((c.toNat : Int) - 32)) hrow
              obtain ⟨y, hy⟩ : ∃ y : Int, (c.toNat : Int) = y := ⟨_, rfl⟩
              have hc' : (((UInt8.ofNat (c.toNat - 32)).toNat : Nat) : Int) = y - 32 := by rw [UInt8.toNat_ofNat']; omega
              have hH2 := holds_set hH j (UInt8.ofNat (c.toNat - 32))
              rw [hc'] at hH2
              rw [hy] at hce2 hset
              have hw8 : IntKind.u8.wrap (y - 32) = y - 32 := by simp [IntKind.wrap, IntKind.bits, IntKind.signed]; omega
              have HN := Lib.hid hnext
              have hjp : decide (0 < j) = true := decide_eq_true (by omega)
              have gset : Grew w (wr.setCell ⟨r, j, none⟩ (.int .u8 (y - 32))) := hb2.setCell (p := ⟨r, j, none⟩) hsz _
              clear hnext hcL hc'
              go_wp2
              all_goals
                go_roundw
                case rel => first | exact ⟨j + 1, cs, L, by go_num, by omega, hrow, hH, GitAt.mono hgit.out, hb2⟩ | exact ⟨j + 1, _, _, by go_num, by omega, hset, hH2, HN.out, gset⟩
                case measure => simp [intOf]; omega
          · obtain rfl : j = 4 := by omega
            have hLl : L.length = 4 := by obtain ⟨_, _, _, rfl, _⟩ := hgit.out; rfl
            have hRd := rd_holds hrow hH
            have hcz2 := hcz wr hb2
            have hgq : Pure.PieceQ L false := by
              obtain ⟨b, c, d, rfl, hb, hc, hd⟩ := hgit.out
              exact Pure.piece_git b (by rcases hb with rfl | ⟨_, rfl⟩ <;> simp) c (by rcases hc with rfl | ⟨_, rfl⟩ <;> simp) d (by rcases hd with rfl | ⟨_, rfl⟩ <;> simp)
            have kg := conv_string 4 hRd
            obtain ⟨G, hG0⟩ : ∃ G : ByteArray, (⟨L.toArray⟩ : ByteArray) = G := ⟨_, rfl⟩
            have hGd : G.data.toList = L := by rw [← hG0]
            rw [hLl, hG0] at kg
            obtain ⟨P, hPc, hPq⟩ : ∃ P : ByteArray, (#[Value.string ⟨#[97]⟩, Value.string ⟨#[98, 32, 99]⟩, Value.string ⟨#[99, 97, 102, 195, 169]⟩, Value.string ⟨#[46, 46, 120]⟩, Value.string G, Value.string ⟨#[46, 46]⟩, Value.string ⟨#[46]⟩, Value.string ⟨#[]⟩] : Array Value)[K]? = some (.string P) ∧ Pure.PieceQ P.data.toList (decide (K < 4)) := by
              have : K = 0 ∨ K = 1 ∨ K = 2 ∨ K = 3 ∨ K = 4 ∨ K = 5 ∨ K = 6 ∨ K = 7 := by omega
              rcases this with rfl | rfl | rfl | rfl | rfl | rfl | rfl | rfl
              · exact ⟨_, rfl, Pure.piece_good _ (by simp)⟩
              · exact ⟨_, rfl, Pure.piece_good _ (by simp)⟩
              · exact ⟨_, rfl, Pure.piece_good _ (by simp)⟩
              · exact ⟨_, rfl, Pure.piece_good _ (by simp)⟩
              · exact ⟨G, rfl, by rw [hGd]; exact hgq⟩
              · exact ⟨_, rfl, Pure.piece_bad _ (by simp)⟩
              · exact ⟨_, rfl, Pure.piece_bad _ (by simp)⟩
              · exact ⟨_, rfl, Pure.piece_bad _ (by simp)⟩
            have hpc : (wr.alloc (.cells #[Value.string ⟨#[97]⟩, Value.string ⟨#[98, 32, 99]⟩, Value.string ⟨#[99, 97, 102, 195, 169]⟩, Value.string ⟨#[46, 46, 120]⟩, Value.string G, Value.string ⟨#[46, 46]⟩, Value.string ⟨#[46]⟩, Value.string ⟨#[]⟩] 9)).cell? ⟨wr.heap.size, K, none⟩ = some (.string P) := by
              rw [cell_of_row _ _ _ _ _ (0, 0) (heap_alloc_new wr _)]
              exact hPc
            have hP5 := hPq.2.2.2.2
            have hPs : P.size ≤ 5 := by have h1 : P.data.toList.length = P.size := Array.length_toList; omega
            have HP := Lib.hid hPq
            have gA : Grew w (wr.alloc (.cells #[Value.string ⟨#[97]⟩, Value.string ⟨#[98, 32, 99]⟩, Value.string ⟨#[99, 97, 102, 195, 169]⟩, Value.string ⟨#[46, 46, 120]⟩, Value.string G, Value.string ⟨#[46, 46]⟩, Value.string ⟨#[46]⟩, Value.string ⟨#[]⟩] 9)) := hb2.trans' ((Below.refl _ _).alloc (Nat.le_refl _) _)
            clear hPq hP5 hGd hPc hgq hG0 hRd hH hrow
            cases gb <;> rcases hK1 with hK1 | hK1
            all_goals
              go_wp2
              go_roundw
              case rel =>
                refine ⟨k + 1, _, gg && decide (K < 4), _, rfl, rfl, ?_, by go_num, by omega, ?_, ?_, gA⟩
                · have := hgb.out
                  unfold Hid
                  rw [hK1]
                  first
                    | exact bool_step this _
                    | (rw [show decide ((K : Int) < 4) = decide (K < 4) from decide_eq_decide.2 (by omega), hK1]; exact bool_step this _)
                · rw [ByteArray.size_append]; omega
                · exact parts_first hG.out HK.out HP.out
              case measure => simp [intOf]; omega
      · have hkp : 0 < k := of_decide_eq_true hk1
        have HK : Hid (1 ≤ k) := hkp
        clear hkp
        go_wp2
        go_loopw [37] (fun i wr => ∃ (j : Nat) (cs : Array Value) (L : List UInt8), i = .int .i64 (j : Int) ∧ j ≤ 4 ∧ wr.heap[r]? = some (.cells cs 5 (4, 5)) ∧ Holds8 cs L ∧ Hid (GitAt j L) ∧ Grew w wr) (fun i _ => 4 - (intOf i).toNat)
        case atStart =>
          refine ⟨0, _, [46, 103, 105, 116], rfl, by omega, hb1, ?_, ⟨_, _, _, rfl, .inl rfl, .inl rfl, .inl rfl⟩, gal⟩
          intro i hi
          have : i = 0 ∨ i = 1 ∨ i = 2 ∨ i = 3 := by have : i < 4 := hi; omega
          rcases this with rfl | rfl | rfl | rfl <;> rfl
        case round =>
          obtain ⟨j, cs, L, rfl, hj, hrow, hH, hgit, hb2⟩ := hrel
          by_cases hj4 : j < 4
          · by_cases hj0 : j = 0
            · subst hj0
              go_wp2
              all_goals
                go_roundw
                case rel => exact ⟨1, cs, L, by go_num, by omega, hrow, hH, GitAt.mono hgit.out, hb2⟩
                case measure => simp [intOf]
            · obtain ⟨c, hcL, hc0, hc1, hjL, hnext⟩ := GitAt.cap hgit.out hj0 hj4
              have hce2 : wr.cell? ⟨r, j, none⟩ = some (.int .u8 (c.toNat : Int)) := by rw [cell_of_row wr r j _ _ _ hrow, hH j hjL, hcL]
              have hfr := frozen_any wr r j _ _ 4 5 hrow hj4
              have hset := set_cell_any wr r j _ _ _ (.int .u8 ((c.toNat : Int) - 32)) hrow
              obtain ⟨y, hy⟩ : ∃ y : Int, (c.toNat : Int) = y := ⟨_, rfl⟩
              have hc' : (((UInt8.ofNat (c.toNat - 32)).toNat : Nat) : Int) = y - 32 := by rw [UInt8.toNat_ofNat']; omega
              have hH2 := holds_set hH j (UInt8.ofNat (c.toNat - 32))
              rw [hc'] at hH2
              rw [hy] at hce2 hset
              have hw8 : IntKind.u8.wrap (y - 32) = y - 32 := by simp [IntKind.wrap, IntKind.bits, IntKind.signed]; omega
              have HN := Lib.hid hnext
              have hjp : decide (0 < j) = true := decide_eq_true (by omega)
              have gset : Grew w (wr.setCell ⟨r, j, none⟩ (.int .u8 (y - 32))) := hb2.setCell (p := ⟨r, j, none⟩) hsz _
              clear hnext hcL hc'
              go_wp2
              all_goals
                go_roundw
                case rel => first | exact ⟨j + 1, cs, L, by go_num, by omega, hrow, hH, GitAt.mono hgit.out, hb2⟩ | exact ⟨j + 1, _, _, by go_num, by omega, hset, hH2, HN.out, gset⟩
                case measure => simp [intOf]; omega
          · obtain rfl : j = 4 := by omega
            have hLl : L.length = 4 := by obtain ⟨_, _, _, rfl, _⟩ := hgit.out; rfl
            have hRd := rd_holds hrow hH
            have hcz2 := hcz wr hb2
            have hgq : Pure.PieceQ L false := by
              obtain ⟨b, c, d, rfl, hb, hc, hd⟩ := hgit.out
              exact Pure.piece_git b (by rcases hb with rfl | ⟨_, rfl⟩ <;> simp) c (by rcases hc with rfl | ⟨_, rfl⟩ <;> simp) d (by rcases hd with rfl | ⟨_, rfl⟩ <;> simp)
            have kg := conv_string 4 hRd
            obtain ⟨G, hG0⟩ : ∃ G : ByteArray, (⟨L.toArray⟩ : ByteArray) = G := ⟨_, rfl⟩
            have hGd : G.data.toList = L := by rw [← hG0]
            rw [hLl, hG0] at kg
            obtain ⟨P, hPc, hPq⟩ : ∃ P : ByteArray, (#[Value.string ⟨#[97]⟩, Value.string ⟨#[98, 32, 99]⟩, Value.string ⟨#[99, 97, 102, 195, 169]⟩, Value.string ⟨#[46, 46, 120]⟩, Value.string G, Value.string ⟨#[46, 46]⟩, Value.string ⟨#[46]⟩, Value.string ⟨#[]⟩] : Array Value)[K]? = some (.string P) ∧ Pure.PieceQ P.data.toList (decide (K < 4)) := by
              have : K = 0 ∨ K = 1 ∨ K = 2 ∨ K = 3 ∨ K = 4 ∨ K = 5 ∨ K = 6 ∨ K = 7 := by omega
              rcases this with rfl | rfl | rfl | rfl | rfl | rfl | rfl | rfl
              · exact ⟨_, rfl, Pure.piece_good _ (by simp)⟩
              · exact ⟨_, rfl, Pure.piece_good _ (by simp)⟩
              · exact ⟨_, rfl, Pure.piece_good _ (by simp)⟩
              · exact ⟨_, rfl, Pure.piece_good _ (by simp)⟩
              · exact ⟨G, rfl, by rw [hGd]; exact hgq⟩
              · exact ⟨_, rfl, Pure.piece_bad _ (by simp)⟩
              · exact ⟨_, rfl, Pure.piece_bad _ (by simp)⟩
              · exact ⟨_, rfl, Pure.piece_bad _ (by simp)⟩
            have hpc : (wr.alloc (.cells #[Value.string ⟨#[97]⟩, Value.string ⟨#[98, 32, 99]⟩, Value.string ⟨#[99, 97, 102, 195, 169]⟩, Value.string ⟨#[46, 46, 120]⟩, Value.string G, Value.string ⟨#[46, 46]⟩, Value.string ⟨#[46]⟩, Value.string ⟨#[]⟩] 9)).cell? ⟨wr.heap.size, K, none⟩ = some (.string P) := by
              rw [cell_of_row _ _ _ _ _ (0, 0) (heap_alloc_new wr _)]
              exact hPc
            have hP5 := hPq.2.2.2.2
            have hPs : P.size ≤ 5 := by have h1 : P.data.toList.length = P.size := Array.length_toList; omega
            have HP := Lib.hid hPq
            have gA : Grew w (wr.alloc (.cells #[Value.string ⟨#[97]⟩, Value.string ⟨#[98, 32, 99]⟩, Value.string ⟨#[99, 97, 102, 195, 169]⟩, Value.string ⟨#[46, 46, 120]⟩, Value.string G, Value.string ⟨#[46, 46]⟩, Value.string ⟨#[46]⟩, Value.string ⟨#[]⟩] 9)) := hb2.trans' ((Below.refl _ _).alloc (Nat.le_refl _) _)
            clear hPq hP5 hGd hPc hgq hG0 hRd hH hrow
            cases gb <;> rcases hK1 with hK1 | hK1
            all_goals
              go_wp2
              go_roundw
              case rel =>
                refine ⟨k + 1, _, gg && decide (K < 4), _, rfl, rfl, ?_, by go_num, by omega, ?_, ?_, gA⟩
                · have := hgb.out
                  unfold Hid
                  rw [hK1]
                  first
                    | exact bool_step this _
                    | (rw [show decide ((K : Int) < 4) = decide (K < 4) from decide_eq_decide.2 (by omega), hK1]; exact bool_step this _)
                · rw [ByteArray.size_append, ByteArray.size_append]; show S.size + 1 + P.size ≤ _; omega
                · exact parts_next hG.out HK.out HP.out
              case measure => simp [intOf]; omega
    · obtain rfl : k = zs.length := by omega
      obtain ⟨hp1, hp2, hp3, hp4⟩ := Pure.PartsQ.path hG.out (by omega) (by omega)
      have hSl : S.data.toList.length = S.size := Array.length_toList
      have hpg : Pure.pathP S.data.toList = gb := by
        rw [hp1, hgb.out, ← hG16, Bool.and_comm]
        congr 1
        exact decide_eq_decide.2 (by omega)
      have z1 : (S ++ (⟨#[47]⟩ : ByteArray)).size ≤ 200 := by rw [ByteArray.size_append]; show S.size + 1 ≤ _; omega
      have z2 : ((⟨#[47]⟩ : ByteArray) ++ S).size ≤ 200 := by rw [ByteArray.size_append]; show 1 + S.size ≤ _; omega
      have c1 := fun W (g : Grew w W) => quote_Path S W (by omega) (HM.out.grew g) (u8_grew HU.out g) (HF.out.grew g)
      have c2 := fun W (g : Grew w W) => quote_Path (S ++ (⟨#[47]⟩ : ByteArray)) W (by omega) (HM.out.grew g) (u8_grew HU.out g) (HF.out.grew g)
      have c3 := fun W (g : Grew w W) => quote_Path ((⟨#[47]⟩ : ByteArray) ++ S) W (by omega) (HM.out.grew g) (u8_grew HU.out g) (HF.out.grew g)
      rw [append_list, hp2] at c2
      rw [append_list, hp3] at c3
      rw [hpg] at c1
      clear hp1 hp2 hp3 hpg hG hgb
      cases gb
      all_goals
        go_wp2_with (first | (go_at_call 8; with_reducible refine (ca _ (by assumption)).mono ?_; rintro e1 W1 ⟨rfl, g1⟩; replace g1 := Grew.trans' (a := w) (by assumption) g1) | (go_at_call 9; with_reducible refine (c1 _ (by assumption)).mono ?_; rintro e1 W1 ⟨rfl, g1⟩; replace g1 := Grew.trans' (a := w) (by assumption) g1) | (go_at_call 9; with_reducible refine (c2 _ (by assumption)).mono ?_; rintro e1 W1 ⟨rfl, g1⟩; replace g1 := Grew.trans' (a := w) (by assumption) g1) | (go_at_call 9; with_reducible refine (c3 _ (by assumption)).mono ?_; rintro e1 W1 ⟨rfl, g1⟩; replace g1 := Grew.trans' (a := w) (by assumption) g1))
        go_ret
        exact ⟨rfl, by assumption⟩

end Go.Proofs.YtbdcncojiejdoaaDoor
