/- The law CommitBack of layer 9, walked. Conditions: the library's tables are laid. -/
import Derived.Test.YtemojhcbhljemaaGreatDoorCom7
import Derived.Test.YtemojhcbhljemaaGreatDoorCom8
import Derived.Test.YtemojhcbhljemaaGreatDoorCom9
import Derived.Test.YtemojhcbhljemaaGreatDoorHelpBytes
import Derived.Test.YtemojhcbhljemaaGreatDoorLaw09b
namespace Go.Proofs.YtemojhcbhljemaaGreatDoor
set_option linter.unusedVariables false
set_option linter.unusedSimpArgs false
open Go.RowKit

theorem parL_inj (r s : Rec) (hr : rightN r.au = true) (hs : rightN s.au = true) : ∀ l m : List (List UInt8), parL l ++ tailR r = parL m ++ tailR s → l = m ∧ tailR r = tailR s
  | [], [], h => ⟨rfl, h⟩
  | [], y :: m, h => by
    have h1 := next_end hr
    rw [show tailR r = parL [] ++ tailR r from rfl, h, next_par] at h1
    cases h1
  | x :: l, [], h => by
    have h1 := next_end hs
    rw [show tailR s = parL [] ++ tailR s from rfl, ← h, next_par] at h1
    cases h1
  | x :: l, y :: m, h => by
    have h1 := next_par x l (tailR r)
    rw [h, next_par] at h1
    simp only [Option.some.injEq, Prod.mk.injEq] at h1
    have h2 : y = x := by have := congrArg Pure.unhex h1.1; rw [Pure.unhex_hex, Pure.unhex_hex] at this; exact Option.some.inj this
    obtain ⟨h3, h4⟩ := parL_inj r s hr hs l m h1.2.symm
    exact ⟨by rw [h2, h3], h4⟩
/-- Right records that are printed alike are alike. -/
theorem good_uniq {b : List UInt8} {r s : Rec} (hr : GoodR b r) (hs : GoodR b s) : r = s := by
  have h1 := next_tree r
  have h2 := next_tree s
  rw [hr.2.2.2] at h1
  rw [hs.2.2.2, h1] at h2
  simp only [Option.some.injEq, Prod.mk.injEq] at h2
  have ht : r.tree = s.tree := by have := congrArg Pure.unhex h2.1; rw [Pure.unhex_hex, Pure.unhex_hex] at this; exact Option.some.inj this
  have ha := (rightR_parts hr.2.2.1).2.1
  have hb := (rightR_parts hs.2.2.1).2.1
  obtain ⟨hp, hq⟩ := parL_inj r s ha hb _ _ h2.2
  have h3 := next_au ha
  have h4 := next_au hb
  rw [hq, h4] at h3
  simp only [Option.some.injEq, Prod.mk.injEq] at h3
  have hau := print_inj ha hb h3.1.symm
  have hc := (rightR_parts hr.2.2.1).2.2.1
  have hd := (rightR_parts hs.2.2.1).2.2.1
  have h5 := next_co hc
  have h6 := next_co hd
  rw [← h3.2, h6] at h5
  simp only [Option.some.injEq, Prod.mk.injEq] at h5
  have hco := print_inj hc hd h5.1.symm
  have htx : r.text = s.text := ba_ext (by have := h5.2; simp only [List.cons.injEq, true_and] at this; exact this.symm)
  obtain ⟨a1, a2, a3, a4, a5⟩ := r
  obtain ⟨b1, b2, b3, b4, b5⟩ := s
  simp only at ht hp hau hco htx
  subst ht hp hau hco htx
  rfl
theorem printR_short {r : Rec} (h20 : r.tree.length = 20) (hp : ∀ x ∈ r.par, x.length = 20) (h : rightR r = true) : (printR r).length ≤ 1073741824 := by
  obtain ⟨k1, k2, k3, k4⟩ := rightR_parts h
  have l1 := printN_len k2
  have l2 := printN_len k3
  have l3 := parL_len r.par hp
  have l4 := hex_len r.tree
  have l5 : r.text.data.toList.length = r.text.size := Array.length_toList
  unfold printR
  simp only [List.length_append, List.length_cons, List.length_nil, treeT, auT, coT, l3, l4, l5]
  omega
/-- What Parse leaves, in one. -/
theorem parse_ways {b : List UInt8} {w w' : World} {e : Ending} (h : ParsePostR b w e w') : Grew w w' ∧ ∃ (r : Rec) (p : Option Addr) (c : Nat) (k : Int), e = .returned (.tuple #[.agg (r.cells (.slice p r.par.length c)).toArray, .int .i64 k]) ∧ FineR r ∧ RdG kId w' p r.par ∧ r.par.length ≤ c ∧
    ((k = 0 ∧ GoodR b r) ∨ (k = 4 ∧ r = zeroR ∧ ∀ s, ¬ GoodR b s)) := by
  obtain ⟨g, ⟨r, v, hg, rfl, ho⟩ | ⟨hn, rfl⟩⟩ := h
  · obtain ⟨p, c, rfl, h1, h2, -, -⟩ := ho.val
    obtain ⟨k1, k2, k3, k4⟩ := rightR_parts hg.2.2.1
    have s1 := nameShort k2
    have s2 := nameShort k3
    exact ⟨g, r, p, c, 0, rfl, ⟨hg.1, hg.2.1, by omega, by omega, by omega, by omega, by omega, by omega⟩, h1, h2, .inl ⟨rfl, hg⟩⟩
  · exact ⟨g, zeroR, none, 0, 4, rfl, ⟨rfl, by simp, by decide, by decide, by decide, by decide, by decide, by decide⟩, .inl rfl, Nat.le_refl _, .inr ⟨rfl, rfl, hn⟩⟩

end Go.Proofs.YtemojhcbhljemaaGreatDoor
