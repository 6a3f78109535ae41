/- The laws of layer 21, walked: awake, MetaEdges. Conditions: the library's tables are laid. -/
import Derived.Test.YtkdmhflcpfekfaaDoorMeta2
import Derived.Test.YtkdmhflcpfekfaaDoorMeta4
import Derived.Test.YtkdmhflcpfekfaaDoorHelpExtra
import Derived.Test.YtkdmhflcpfekfaaDoorHelpCopy
namespace Go.Proofs.YtkdmhflcpfekfaaDoor
set_option linter.unusedVariables false
set_option linter.unusedSimpArgs false
open Go.RowKit

def extraK : Two := ⟨⟨#[107]⟩, ⟨#[118]⟩⟩
theorem pack_K : packP [97] [extraK] [] = ([97, 10, 45, 45, 99, 115, 45, 98, 114, 105, 100, 103, 101, 45, 45, 10, 101, 120, 116, 114, 97, 32, 107, 32, 55, 54, 10], 0) := by decide +kernel
theorem rd_one {α : Type} {K : Kd α} {W : World} {b : Nat} {x : α} (h : W.rangeAt b 0 (K.cells x)) : RdG K W (some ⟨b, 0, none⟩) [x] := .inr ⟨_, 0, rfl, fun k y hy => by
  have : k = 0 := by have := (List.getElem?_eq_some_iff.1 hy).1; simp at this; omega
  subst this
  cases hy
  simpa using h⟩

set_option maxRecDepth 100000 in
set_option maxHeartbeats 1000000 in
theorem awake21 (w : World) (hm : MaxOk w) (hu : U8Ok w) (hF : FoldOk w) :
    Calls Tryd.prog 8 #[] w fun e w' => e = .returned (.bool true) ∧ Grew w w' := by
  obtain ⟨V, hV, gV, gVV, rV⟩ := boxedG kExtra w extraK
  have hr : RdG kExtra V (some ⟨w.heap.size, 0, none⟩) [extraK] := rd_one (rV V gVV)
  have cP : Calls Tryd.prog 11 #[.string ⟨#[97]⟩, .slice (some ⟨w.heap.size, 0, none⟩) 1 1, .slice none 0 0] V fun e w' => e = .returned (.tuple #[.string ⟨#[97, 10, 45, 45, 99, 115, 45, 98, 114, 105, 100, 103, 101, 45, 45, 10, 101, 120, 116, 114, 97, 32, 107, 32, 55, 54, 10]⟩, .int .i64 0]) ∧ Grew V w' := by
    have h := meta_Pack ⟨#[97]⟩ (some ⟨w.heap.size, 0, none⟩) none [extraK] [] 1 0 V (by decide) (by decide) (by decide) hr (.inl rfl) (fun x hx => by simp at hx; subst hx; exact ⟨by decide, by decide⟩) (by simp) (by decide +kernel) (hm.grew gV) (u8_grew hu gV) (hF.grew gV)
    rw [show packP (⟨#[97]⟩ : ByteArray).data.toList [extraK] [] = _ from pack_K] at h
    exact h
  have cR : ∀ W, Calls Tryd.prog 17 #[.string ⟨#[103, 105, 116, 46, 120]⟩] W fun e w' => e = .returned (.bool true) ∧ w' = W := fun W => meta_Reserved ⟨#[103, 105, 116, 46, 120]⟩ W
  have hV2 : w.alloc (.cells #[.string ⟨#[107]⟩, .string ⟨#[118]⟩] 28) = V := hV
  clear hm hu hF hr rV hV
  go_enter Tryd.func8, Tryd.ntmps8
  go_wp2_with fail
  refine Calls.mono cP ?_
  rintro e2 W2 ⟨rfl, g2⟩
  clear cP
  go_wp2_with (go_at_call 17; with_reducible refine (cR _).mono ?_; rintro e1 W1 ⟨rfl, h1⟩; subst W1)
  go_ret
  exact ⟨rfl, gV.trans' (by assumption)⟩

def edges : List ByteArray := [⟨#[]⟩, ⟨#[10]⟩, ⟨#[10, 45, 45, 99, 115, 45, 98, 114, 105, 100, 103, 101, 45, 45]⟩, ⟨#[45, 45, 99, 115, 45, 98, 114, 105, 100, 103, 101, 45, 45, 10]⟩, ⟨#[120, 10, 45, 45, 99, 115, 45, 98, 114, 105, 100, 103, 101, 45, 10]⟩, ⟨#[10, 10]⟩, ⟨#[101, 120, 116, 114, 97, 32, 107, 32, 55, 54, 10]⟩]

set_option maxRecDepth 100000 in
set_option maxHeartbeats 4000000 in
theorem law_MetaEdges (z : Int) (v : ByteArray) (tw : Bool) (w : World) (hz1 : -9223372036854775808 ≤ z) (hz2 : z ≤ 9223372036854775807) (hv : v.size ≤ 9223372036854775807) (hm : MaxOk w) (hu : U8Ok w) (hF : FoldOk w) :
    Calls Tryd.prog 5 #[.int .i64 z, .string v, .bool tw] w fun e w' => e = .returned (.bool true) ∧ Grew w w' := by
  obtain ⟨K, hK, hK7⟩ := pick_wrap z 7 7 rfl (by decide) (by decide)
  obtain ⟨t, ht⟩ : ∃ t, edges[K]? = some t := ⟨_, List.getElem?_eq_getElem (show K < edges.length from hK7)⟩
  have hts : t.size ≤ 20 := by
    have h := List.mem_of_getElem? ht
    simp [edges] at h
    rcases h with rfl | rfl | rfl | rfl | rfl | rfl | rfl <;> decide
  obtain ⟨U1, hU1⟩ : ∃ U1, w.alloc (.cells #[.string ⟨#[]⟩, .string ⟨#[10]⟩, .string ⟨#[10, 45, 45, 99, 115, 45, 98, 114, 105, 100, 103, 101, 45, 45]⟩, .string ⟨#[45, 45, 99, 115, 45, 98, 114, 105, 100, 103, 101, 45, 45, 10]⟩, .string ⟨#[120, 10, 45, 45, 99, 115, 45, 98, 114, 105, 100, 103, 101, 45, 10]⟩, .string ⟨#[10, 10]⟩, .string ⟨#[101, 120, 116, 114, 97, 32, 107, 32, 55, 54, 10]⟩] 9) = U1 := ⟨_, rfl⟩
  have hcell : U1.cell? ⟨w.heap.size, K, none⟩ = some (.string t) := by
    rw [← hU1, cell_of_row _ _ _ _ _ (0, 0) (heap_alloc_new w _)]
    have h : (edges.map Value.string)[K]? = some (.string t) := by rw [List.getElem?_map, ht]; rfl
    simpa [edges] using h
  have g01 : Grew w U1 := by rw [← hU1]; exact (Below.refl _ _).alloc (Nat.le_refl _) _
  have ca := fun W (g : Grew w W) => awake21 W (hm.grew g) (u8_grew hu g) (hF.grew g)
  by_cases h5 : 500 < v.size
  · have f1 : decide (500 < (v.size : Int)) = true := decide_eq_true (by omega)
    clear hm hu hF ht
    go_enter Tryd.func5, Tryd.ntmps5
    go_wp2_with (first | (go_at_call 8; with_reducible refine (ca _ (by assumption)).mono ?_; rintro e1 W1 ⟨rfl, g1⟩; replace g1 := Grew.trans' (a := w) (by assumption) g1))
    go_ret
    exact ⟨rfl, by assumption⟩
  have f1 : decide (500 < (v.size : Int)) = false := decide_eq_false (by omega)
  obtain ⟨x, hx⟩ : ∃ x : Two, x = ⟨⟨#[107]⟩, v⟩ := ⟨_, rfl⟩
  obtain ⟨V, hV, gV, gVV, rV⟩ := boxedG kExtra U1 x
  have hV2 : U1.alloc (.cells #[.string ⟨#[107]⟩, .string v] 28) = V := by rw [hx] at hV; exact hV
  have hr : RdG kExtra V (some ⟨U1.heap.size, 0, none⟩) [x] := rd_one (rV V gVV)
  have gwV := g01.trans' gV
  have hfx : ∀ y ∈ [x], FineW y := fun y hy => by simp at hy; subst hy; rw [hx]; exact ⟨(show (1 : Nat) ≤ _ by decide), by show v.size ≤ _; omega⟩
  have htr : (trailerP [x] []).length ≤ 1099511627776 := by
    have h := trailer_le (N := 1000) (l := [x]) (c := []) (fun y hy => by simp at hy; subst hy; rw [hx]; exact ⟨(show (1 : Nat) ≤ _ by decide), by show v.size ≤ _; omega⟩) (by simp)
    simp at h
    omega
  obtain ⟨PE, hPE⟩ : ∃ PE, packP t.data.toList [x] [] = PE := ⟨_, rfl⟩
  obtain ⟨P0, E⟩ := PE
  obtain ⟨P, hP⟩ : ∃ P : ByteArray, (⟨P0.toArray⟩ : ByteArray) = P := ⟨_, rfl⟩
  have hPl : P.data.toList = P0 := by rw [← hP]
  have cP : ∀ W, Grew V W → Calls Tryd.prog 11 #[.string t, .slice (some ⟨U1.heap.size, 0, none⟩) 1 1, .slice none 0 0] W fun e w' => e = .returned (.tuple #[.string P, .int .i64 E]) ∧ Grew W w' := fun W g => by
    have h := meta_Pack t (some ⟨U1.heap.size, 0, none⟩) none [x] [] 1 0 W (by omega) (by simp) (by decide) (hr.grew g) (.inl rfl) hfx (by simp) htr (hm.grew (gwV.trans' g)) (u8_grew hu (gwV.trans' g)) (hF.grew (gwV.trans' g))
    rw [hPE] at h
    simp only [hP] at h
    exact h
  have cR : ∀ W, Grew V W → Calls Tryd.prog 12 #[.string t, .slice (some ⟨U1.heap.size, 0, none⟩) 1 1, .slice none 0 0] W fun e w' => e = .returned (.tuple #[.string P, .int .i64 E]) ∧ Grew W w' := fun W g => by
    have h := ref21_Pack t (some ⟨U1.heap.size, 0, none⟩) none [x] [] 1 0 W (by omega) (by simp) (by decide) (hr.grew g) (.inl rfl) hfx (by simp) htr (u8_grew hu (gwV.trans' g))
    rw [hPE] at h
    simp only [hP] at h
    exact h
  have cA := fun W (g : Grew V W) => ca W (gwV.trans' g)
  by_cases hE : E = 0
  · subst hE
    rw [← hPl] at hPE
    obtain ⟨hs1, hs2, hs3⟩ := pack_shape hPE
    have hPs : P.size ≤ 32768 ∧ P.data.toList = t.data.toList ++ markM ++ trailerP [x] [] := by
      rcases hs3 with ⟨h, _⟩ | ⟨_, h, h3⟩
      · simp at h
      · exact ⟨by rwa [show P.data.toList.length = P.size from Array.length_toList] at h3, h⟩
    have htk := take_packed hPE
    have hbp : bearsP P.data.toList = true := by rw [hPs.2]; exact (last_packed (t := t.data.toList) (l := [x]) (c := []) (beside_keys hs2)).1
    have hpb := pack_bad (t := P.data.toList) (l := [x]) (c := []) (.inl hbp)
    have hP3 := hPs.1
    have cT := fun W (g : Grew V W) => meta_Take P W (by omega) (hm.grew (gwV.trans' g)) (u8_grew hu (gwV.trans' g)) (hF.grew (gwV.trans' g))
    have cG : ∀ W, Grew V W → Calls Tryd.prog 11 #[.string P, .slice (some ⟨U1.heap.size, 0, none⟩) 1 1, .slice none 0 0] W fun e w' => e = .returned (.tuple #[.string ⟨#[]⟩, .int .i64 4]) ∧ Grew W w' := fun W g => by
      have h := meta_Pack P (some ⟨U1.heap.size, 0, none⟩) none [x] [] 1 0 W (by omega) (by simp) (by decide) (hr.grew g) (.inl rfl) hfx (by simp) htr (hm.grew (gwV.trans' g)) (u8_grew hu (gwV.trans' g)) (hF.grew (gwV.trans' g))
      rw [hpb] at h
      exact h
    have HTK := Lib.hid htk
    have HR := Lib.hid hr
    clear hm hu hF hr rV hV hfx htr hPE hs1 hs2 hs3 hPs htk hbp hpb hPl ht ca hx hP
    go_enter Tryd.func5, Tryd.ntmps5
    go_wp2_with (first | (go_at_call 11; with_reducible refine (cP _ (by assumption)).mono ?_; rintro e1 W1 ⟨rfl, g1⟩; replace g1 := Grew.trans' (a := V) (by assumption) g1) | (go_at_call 12; with_reducible refine (cR _ (by assumption)).mono ?_; rintro e1 W1 ⟨rfl, g1⟩; replace g1 := Grew.trans' (a := V) (by assumption) g1) | (go_at_call 8; with_reducible refine (cA _ (by assumption)).mono ?_; rintro e1 W1 ⟨rfl, g1⟩; replace g1 := Grew.trans' (a := V) (by assumption) g1) | (go_at_call 13; with_reducible refine (cT _ (by assumption)).mono ?_))
    have gV1 : Grew V W1 := by assumption
    rintro e2 W2 ⟨g2, xx, l, c, b, vv, uu, htk', rfl, hol, hoc, -, -, -, -⟩
    obtain ⟨rfl, rfl, rfl, rfl⟩ : t.data.toList = xx ∧ [x] = l ∧ [] = c ∧ true = b := by
      have h := HTK.out.symm.trans htk'
      simp only [Prod.mk.injEq] at h
      exact h
    rw [mk_list]
    obtain ⟨pv, cv, rfl, hrv, -, -, -⟩ := hol.val
    obtain ⟨pu, cu, rfl, -, -, -, -⟩ := hoc.val
    have gV2 := gV1.trans' g2
    have g22 : Grew W2 W2 := Below.refl _ _
    have cPl : ∀ W, Grew W2 W → Calls Tryd.prog 15 #[.slice pv 1 cv, .slice (some ⟨U1.heap.size, 0, none⟩) 1 1] W fun e w' => e = .returned (.bool true) ∧ Grew W w' := fun W g => plain_Extra_eq pv (some ⟨U1.heap.size, 0, none⟩) [x] cv 1 W (by simp) (fun _ _ => trivial) (hrv.grew g) ((HR.out.grew gV2).grew g)
    have cG2 := fun W (g : Grew W2 W) => cG W (gV2.trans' g)
    clear cP cR cA cT cG hol hoc htk' hrv
    cases tw
    all_goals
      go_wp2_with (first | (go_at_call 11; with_reducible refine (cG2 _ (by assumption)).mono ?_; rintro e1 W1 ⟨rfl, g1⟩; replace g1 := Grew.trans' (a := W2) (by assumption) g1) | (go_at_call 15; with_reducible refine (cPl _ (by assumption)).mono ?_; rintro e1 W1 ⟨rfl, g1⟩; replace g1 := Grew.trans' (a := W2) (by assumption) g1))
      go_ret
      exact ⟨rfl, gwV.trans' (gV2.trans' (by assumption))⟩
  · have f2 : (E != 0) = true := by simp [bne, hE]
    have f3 : (E == 0) = false := by simp [hE]
    clear hm hu hF hr rV hV hfx htr hPE hPl ht ca hx hP hE
    go_enter Tryd.func5, Tryd.ntmps5
    go_wp2_with (first | (go_at_call 11; with_reducible refine (cP _ (by assumption)).mono ?_; rintro e1 W1 ⟨rfl, g1⟩; replace g1 := Grew.trans' (a := V) (by assumption) g1) | (go_at_call 12; with_reducible refine (cR _ (by assumption)).mono ?_; rintro e1 W1 ⟨rfl, g1⟩; replace g1 := Grew.trans' (a := V) (by assumption) g1) | (go_at_call 8; with_reducible refine (cA _ (by assumption)).mono ?_; rintro e1 W1 ⟨rfl, g1⟩; replace g1 := Grew.trans' (a := V) (by assumption) g1))
    go_ret
    exact ⟨rfl, gwV.trans' (by assumption)⟩

end Go.Proofs.YtkdmhflcpfekfaaDoor
