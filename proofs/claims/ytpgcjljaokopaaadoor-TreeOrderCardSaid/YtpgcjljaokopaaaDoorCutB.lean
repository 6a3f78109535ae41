/- bytes.Cut at one byte. Conditions: at most 2^31 bytes; a nil slice has no capacity. -/
import Derived.Test.YtpgcjljaokopaaaDoorBytes
import Derived.Test.YtpgcjljaokopaaaDoorPureCut
namespace Go.Proofs.YtpgcjljaokopaaaDoor
set_option linter.unusedVariables false
set_option linter.unusedSimpArgs false
open Go.RowKit

set_option maxRecDepth 100000 in
theorem bytes_CutC (c : UInt8) (p q : Option Addr) (l : List UInt8) (cap : Nat) (w : World) (hr : Rd w p l) (hq : Rd w q [c]) (hp : p = none → cap = 0) (hcap : l.length ≤ cap) (hl : l.length ≤ 2147483648) (hm : MaxOk w) :
    Calls Tryd.prog 35 #[.slice p l.length cap, .slice q 1 1] w fun e w' => Grew w w' ∧ ((Pure.cutC c l = none ∧ e = .returned (.tuple #[.slice p l.length cap, .slice none 0 0, .bool false])) ∨
      ∃ a r p' c', Pure.cutC c l = some (a, r) ∧ e = .returned (.tuple #[.slice p a.length cap, .slice p' r.length c', .bool true]) ∧ (∀ W, Rd W p l → Rd W p a ∧ Rd W p' r) ∧ r.length ≤ c' ∧ (p' = none → c' = 0)) := by
  obtain ⟨m, hm⟩ := hm
  refine (Tryd.bytes_Cut_all p q l.length cap 1 1 (nums l) (nums [c]) m w (nums_len l) rfl (nums_byte l) (nums_byte _) hr.bytesIn hq.bytesIn hp hcap (by omega) (by decide) hm).mono ?_
  rintro e w' ⟨rfl, k, rfl⟩
  have hg : Grew w (w.drewN k) := Grew.drewN (Below.refl _ _) k
  refine ⟨hg, ?_⟩
  rw [bytesOf_nums, bytesOf_nums, Lib.index_one]
  by_cases h0 : 0 ≤ Lib.indexByte l c
  · obtain ⟨i, hi⟩ := Int.eq_ofNat_of_zero_le h0
    obtain ⟨h1, h2⟩ := Lib.indexByte_some hi
    have hlt : i < l.length := (List.getElem?_eq_some_iff.1 h1).1
    have hd : l.drop i = c :: l.drop (i + 1) := by
      rw [List.drop_eq_getElem_cons hlt, (List.getElem?_eq_some_iff.1 h1).2]
    have hcut : Pure.cutC c l = some (l.take i, l.drop (i + 1)) := by
      rw [Pure.cutC_some]
      refine ⟨by conv => lhs; rw [← List.take_append_drop i l, hd], ?_⟩
      intro x hc e
      subst e
      obtain ⟨j, hj⟩ := List.mem_iff_getElem?.1 hc
      rw [List.getElem?_take] at hj
      split at hj
      · rename_i hji; exact h2 j hji hj
      · cases hj
    have hlen : (l.take i).length = i := by rw [List.length_take]; omega
    have hlen2 : (l.drop (i + 1)).length = l.length - (i + 1) := List.length_drop
    right
    refine ⟨l.take i, l.drop (i + 1), if cap = i + 1 then p else p.map (fun x => x.add (i + 1)), cap - (i + 1), hcut, ?_, ?_, ?_, ?_⟩
    · unfold Lib.cutV
      rw [if_pos h0, hi, hlen, hlen2]
      rfl
    · intro W hW
      rcases hW with rfl | ⟨b, o, rfl, hb, hc⟩
      · simp at hlt
      refine ⟨.inr ⟨b, o, rfl, hb, fun j hj => ?_⟩, ?_⟩
      · rw [hlen] at hj
        rw [hc j (by omega), List.getD_eq_getElem?_getD, List.getD_eq_getElem?_getD, List.getElem?_take, if_pos hj]
      · by_cases hr0 : l.drop (i + 1) = []
        · exact .inl hr0
        · have hpos : 0 < (l.drop (i + 1)).length := List.length_pos_iff.2 hr0
          rw [hlen2] at hpos
          rw [if_neg (show cap ≠ i + 1 by omega)]
          refine .inr ⟨b, o + (i + 1), ?_, hb, fun j hj => ?_⟩
          · simp only [Option.map_some, Addr.add_mid]
          · rw [hlen2] at hj
            rw [Nat.add_assoc, hc (i + 1 + j) (by omega), List.getD_eq_getElem?_getD, List.getD_eq_getElem?_getD, List.getElem?_drop]
    · rw [hlen2]; omega
    · intro hn
      by_cases hc : cap = i + 1
      · rw [hc]; omega
      · rw [if_neg hc] at hn
        rw [Option.map_eq_none_iff] at hn
        have := hp hn
        omega
  · left
    refine ⟨?_, ?_⟩
    · rw [Pure.cutC_none]
      intro x hc e
      subst e
      have h1 : -1 ≤ Lib.indexByte l x := by rw [← Lib.index_one]; exact Lib.index_ge _ _
      obtain ⟨j, hj⟩ := List.mem_iff_getElem?.1 hc
      exact Lib.indexByte_none (show Lib.indexByte l x = -1 by omega) j hj
    · unfold Lib.cutV
      rw [if_neg h0]

end Go.Proofs.YtpgcjljaokopaaaDoor
