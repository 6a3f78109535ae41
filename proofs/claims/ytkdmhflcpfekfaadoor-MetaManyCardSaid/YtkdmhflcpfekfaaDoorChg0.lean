/- change.key: which keys an extra may have. Conditions: at most 2^30 bytes. -/
import Derived.Test.YtkdmhflcpfekfaaDoorPure17
import Derived.Test.YtkdmhflcpfekfaaDoorRunes
namespace Go.Proofs.YtkdmhflcpfekfaaDoor
set_option linter.unusedVariables false
set_option linter.unusedSimpArgs false
open Go.RowKit

def okK (first : Bool) (c : UInt8) : Bool := if first then smallB c else otherB c
def scanK : Bool → List UInt8 → Bool
  | _, [] => true
  | f, c :: r => okK f c && scanK false r
theorem scanK_false : ∀ l : List UInt8, scanK false l = l.all otherB
  | [] => rfl
  | c :: r => by
    show (okK false c && scanK false r) = _
    rw [scanK_false r, List.all_cons]
    rfl
theorem keyP_scan (l : List UInt8) : keyP l = (scanK true l && (!l.isEmpty && decide (l.length ≤ 40))) := by
  unfold keyP
  cases l with
  | nil => rfl
  | cons c r =>
    show (smallB c && r.all otherB && _) = (okK true c && scanK false r && _)
    rw [scanK_false]
    rfl
theorem high_not {c : UInt8} (h : 128 ≤ c.toNat) (f : Bool) : okK f c = false := by
  have h1 : smallB c = false := by unfold smallB; rw [decide_eq_false]; omega
  have h2 : otherB c = false := by
    unfold otherB
    rw [h1, decide_eq_false (by omega)]
    have e1 : (c.toNat == 45) = false := by rw [beq_eq_false_iff_ne]; omega
    have e2 : (c.toNat == 46) = false := by rw [beq_eq_false_iff_ne]; omega
    rw [e1, e2]
    rfl
  cases f
  · exact h2
  · exact h1

/-- How the walk asks for a byte. -/
def badK (x : Int) (p : Int) : Bool := !(decide (97 ≤ x) && decide (x ≤ 122)) && (p == 0 || (x != 45 && (x != 46 && (decide (x < 48) || decide (57 < x)))))
theorem badK_ok (c : UInt8) (pos : Nat) : badK (c.toNat : Int) (pos : Int) = !okK (pos == 0) c := by
  have e1 : (decide (97 ≤ (c.toNat : Int)) && decide ((c.toNat : Int) ≤ 122)) = smallB c := by
    unfold smallB
    rw [Bool.eq_iff_iff]
    simp only [Bool.and_eq_true, decide_eq_true_eq]
    omega
  have e2 : ((c.toNat : Int) != 45 && ((c.toNat : Int) != 46 && (decide ((c.toNat : Int) < 48) || decide (57 < (c.toNat : Int))))) = !(c.toNat == 45 || c.toNat == 46 || decide (48 ≤ c.toNat ∧ c.toNat ≤ 57)) := by
    rw [Bool.eq_iff_iff]
    simp only [Bool.and_eq_true, Bool.or_eq_true, Bool.not_eq_true', Bool.or_eq_false_iff, decide_eq_true_eq, decide_eq_false_iff_not, bne_iff_ne, ne_eq, beq_eq_false_iff_ne]
    omega
  unfold badK okK
  rw [e1, e2]
  by_cases h : pos = 0
  · subst h
    simp
  · have h1 : ((pos : Int) == 0) = false := by rw [beq_eq_false_iff_ne]; omega
    have h2 : (pos == 0) = false := by rw [beq_eq_false_iff_ne]; exact h
    rw [h1, h2]
    unfold otherB
    cases smallB c <;> simp

set_option maxRecDepth 100000 in
set_option maxHeartbeats 4000000 in
theorem change_key (s : ByteArray) (w : World) (hs : s.size ≤ 1073741824) :
    Calls Tryd.prog 54 #[.string s] w fun e w' => e = .returned (.bool (keyP s.data.toList)) ∧ Grew w w' := by
  have hsl : s.data.toList.length = s.size := Array.length_toList
  have hkp := keyP_scan s.data.toList
  obtain ⟨A, hA⟩ : ∃ A, scanK true s.data.toList = A := ⟨_, rfl⟩
  rw [hA] at hkp
  have HSL := Lib.hid hsl
  have HKP := Lib.hid hkp
  have HA := Lib.hid hA.symm
  clear hsl hkp hA
  go_enter Tryd.func54, Tryd.ntmps54
  go_wp2
  go_loopw [] (fun wr => ∃ pos : Nat, wr.heap[w.heap.size]? = some (.stringIter s pos) ∧ Grew w wr ∧ Hid (A = scanK (pos == 0) (s.data.toList.drop pos))) (fun wr => s.size - wr.iterPos w.heap.size)
  case atStart => exact ⟨0, by simpa using World.iter_heap w s 0, (Below.refl _ w).alloc (Nat.le_refl _) _, by rw [List.drop_zero]; exact HA⟩
  case round =>
    obtain ⟨pos, hit, hb, hal⟩ := hrel
    by_cases hp : pos < s.size
    · have hnx : ∀ ty, (Instr.next (.pointer (some ⟨w.heap.size, 0, none⟩)) true ty).run Tryd.prog wr = _ := fun ty => Lib.run_next_any_at wr w.heap.size s pos ty hit hp
      have hdrop : s.data.toList.drop pos = (s[pos]'hp) :: s.data.toList.drop (pos + 1) := by
        rw [List.drop_eq_getElem_cons (by simpa using hp)]; congr 1
      have hal2 := hal.out
      rw [hdrop] at hal2
      replace hal2 : A = (okK (pos == 0) (s[pos]'hp) && scanK false (s.data.toList.drop (pos + 1))) := hal2
      by_cases ha : (s[pos]'hp).toNat < 128
      · have hd := decode_ascii s pos hp ha
        have hit2 := Lib.iterAt_heap wr w.heap.size s pos (pos + (Utf8.decode s pos).2) hit
        have hb2 := Lib.below_iterAt hb (k := w.heap.size) (Nat.le_refl _) s (pos + (Utf8.decode s pos).2)
        rw [hd] at hnx hit2 hb2
        simp only at hnx hit2 hb2
        generalize hW : wr.iterAt w.heap.size s (pos + 1) = W at *
        have hbk := badK_ok (s[pos]'hp) pos
        obtain ⟨x, hx⟩ : ∃ x : Int, ((s[pos]'hp).toNat : Int) = x := ⟨_, rfl⟩
        rw [hx] at hnx hbk
        obtain ⟨K, hK⟩ : ∃ K, okK (pos == 0) (s[pos]'hp) = K := ⟨_, rfl⟩
        rw [hK] at hbk hal2
        have HAL := Lib.hid hal2
        unfold badK at hbk
        have hbk2 : (!(decide (97 ≤ x) && decide (x ≤ 122)) && ((pos : Int) == 0 || (x != 45 && (x != 46 && (decide (x < 48) || decide (57 < x)))))) = !K := hbk
        have ways : (decide (97 ≤ x) = true ∧ decide (x ≤ 122) = true ∧ K = true) ∨
          ((decide (97 ≤ x) = false ∨ (decide (97 ≤ x) = true ∧ decide (x ≤ 122) = false)) ∧
            (((pos : Int) == 0) = true ∧ K = false ∨
              (((pos : Int) == 0) = false ∧ ((x != 45) = false ∧ K = true ∨ ((x != 45) = true ∧ ((x != 46) = false ∧ K = true ∨ ((x != 46) = true ∧ (decide (x < 48) = true ∧ K = false ∨ (decide (x < 48) = false ∧ (decide (57 < x) = true ∧ K = false ∨ decide (57 < x) = false ∧ K = true)))))))))) := by
          revert hbk2
          cases decide (97 ≤ x) <;> cases decide (x ≤ 122) <;> cases ((pos : Int) == 0) <;> cases (x != 45) <;> cases (x != 46) <;> cases decide (x < 48) <;> cases decide (57 < x) <;> cases K <;> simp
        clear hbk hbk2 hd hx hb hdrop hal2 hal ha hK
        rcases ways with ⟨a1, a2, rfl⟩ | ⟨a1 | ⟨a1, a2⟩, ⟨a3, rfl⟩ | ⟨a3, ⟨a4, rfl⟩ | ⟨a4, ⟨a5, rfl⟩ | ⟨a5, ⟨a6, rfl⟩ | ⟨a6, ⟨a7, rfl⟩ | ⟨a7, rfl⟩⟩⟩⟩⟩⟩
        all_goals
          go_wp2
          first
            | (go_ret
               exact ⟨by rw [HKP.out, HAL.out]; rfl, hb2⟩)
            | (go_roundw
               case rel => exact ⟨pos + 1, hit2, hb2, by have := HAL.out; unfold Hid; rw [this, Bool.true_and]; rfl⟩
               case measure =>
                 simp only [World.iterPos, hit2, hit]
                 omega)
      · have hh : 128 ≤ (s[pos]'hp).toNat := by omega
        have hit2 := Lib.iterAt_heap wr w.heap.size s pos (pos + (Utf8.decode s pos).2) hit
        have hb2 := Lib.below_iterAt hb (k := w.heap.size) (Nat.le_refl _) s (pos + (Utf8.decode s pos).2)
        rw [high_not hh, Bool.false_and] at hal2
        have hbad : keyP s.data.toList = false := by rw [HKP.out, hal2]; rfl
        have HB := Lib.hid hbad
        have hr0 := (decode_high s pos hp hh).1
        generalize Utf8.decode s pos = d at *
        generalize hW : wr.iterAt w.heap.size s (pos + d.2) = W at *
        have a1 : decide (97 ≤ (d.1 : Int)) = true := decide_eq_true (by omega)
        have a2 : decide ((d.1 : Int) ≤ 122) = false := decide_eq_false (by omega)
        have a4 : ((d.1 : Int) != 45) = true := by rw [bne_iff_ne]; omega
        have a5 : ((d.1 : Int) != 46) = true := by rw [bne_iff_ne]; omega
        have a6 : decide ((d.1 : Int) < 48) = false := decide_eq_false (by omega)
        have a7 : decide (57 < (d.1 : Int)) = true := decide_eq_true (by omega)
        clear hal2 hal hb hh ha hdrop hbad
        cases a3 : ((pos : Int) == 0)
        all_goals
          go_wp2
          go_ret
          exact ⟨by rw [HB.out]; rfl, hb2⟩
    · have hnx : ∀ ty, (Instr.next (.pointer (some ⟨w.heap.size, 0, none⟩)) true ty).run Tryd.prog wr = _ := fun ty => Lib.run_next_end_at wr w.heap.size s pos ty hit hp
      have hal2 := hal.out
      rw [List.drop_eq_nil_of_le (by have := HSL.out; omega)] at hal2
      have hk2 : keyP s.data.toList = (!s.data.toList.isEmpty && decide (s.size ≤ 40)) := by
        rw [HKP.out, hal2, HSL.out]
        rfl
      have hemp : (!s.data.toList.isEmpty) = !(s.toList == ([] : List UInt8)) := by
        rw [ByteArray.toList_eq]
        cases s.data.toList <;> rfl
      rw [hemp] at hk2
      obtain ⟨E, hE⟩ : ∃ E, (s.toList == ([] : List UInt8)) = E := ⟨_, rfl⟩
      rw [hE] at hk2
      have HK2 := Lib.hid hk2
      clear hal2 hal hemp hk2
      by_cases h40 : s.size ≤ 40
      · have f2 : decide ((s.size : Int) ≤ 40) = true := decide_eq_true (by omega)
        have HH : Hid (decide (s.size ≤ 40) = true) := by simp [Hid, h40]
        cases E
        all_goals
          go_wp2
          go_ret
          exact ⟨by rw [HK2.out, HH.out]; rfl, hb⟩
      · have f2 : decide ((s.size : Int) ≤ 40) = false := decide_eq_false (by omega)
        have HH : Hid (decide (s.size ≤ 40) = false) := by simp [Hid, h40]
        cases E
        all_goals
          go_wp2
          go_ret
          exact ⟨by rw [HK2.out, HH.out]; rfl, hb⟩

end Go.Proofs.YtkdmhflcpfekfaaDoor
