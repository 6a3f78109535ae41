/- slices.Concat of bytes: the parts, one behind the other, in a row of its own. Conditions: the parts together have at most 2^40 bytes. -/
import Derived.Test.YtdlhabldjdkfbaaDoorGrow
namespace Go.Proofs.YtdlhabldjdkfbaaDoor
set_option linter.unusedVariables false
set_option linter.unusedSimpArgs false
open Go.RowKit

theorem size_zero8 (n : Nat) : (Builtin.zeroCells (Value.int IntKind.u8 0).cells n).size = n := by
  rw [size_zeroCells]
  exact Nat.mul_one n

theorem slices_GrowB (n : Nat) (w : World) (hn : n ≤ 1099511627776) :
    Calls Tryd.prog 42 #[.slice none 0 0, .int .i64 (n : Int)] w fun e w' => ∃ v, e = .returned v ∧ OwnB w' w.heap.size v [] ∧ Grew w w' := by
  by_cases h0 : n = 0
  · subst h0
    refine (Any8.slices_Grow_room laysGrow none 0 0 0 w (by omega) (by omega) (by omega) (by omega)).mono ?_
    rintro e w' ⟨rfl, rfl⟩
    exact ⟨_, rfl, OwnB.nil _ _, Below.refl _ _⟩
  · obtain ⟨i0, hi, hz, hs, hb⟩ := infoB
    refine (Any8.slices_Grow_grow laysGrow i0 (.int .u8 0) hi hz (by omega) none 0 0 n [] w (by omega) (by omega) (by rw [hb]; omega) (by omega) (by simp) (fun _ => rfl) (fun a h => by cases h)).mono ?_
    rintro e w' ⟨rfl, rfl⟩
    have hge := grownCap_ge w (0 + n) 0 5
    have hcm := grownCap_le_maxLen w (0 + n) 0 5 (by unfold maxLen; omega)
    refine ⟨_, rfl, .inr ⟨w.heap.size, _, _, (0, 0), rfl, Nat.le_refl _, heap_alloc_new w.drew _, .inl (Nat.zero_le _), Nat.zero_le _, hcm, ?_, ?_⟩, (Below.refl _ _).drew.alloc (Nat.le_refl _) _⟩
    · simp only [Array.size_append, size_zero8]
      show 0 + (0 + n - 0) + (grownCap w (0 + n) 0 5 - (0 + n)) = grownCap w (0 + n) 0 5
      omega
    · rfl

/-- The list of parts in memory: at p, one slice after the other. -/
def RdP (w : World) (p : Option Addr) (ls : List (List UInt8)) : Prop :=
  ∃ b o, p = some ⟨b, o, none⟩ ∧ b < w.heap.size ∧ ∀ i l, ls[i]? = some l → ∃ q c, w.cell? ⟨b, o + i, none⟩ = some (.slice q l.length c) ∧ Rd w q l ∧ l.length ≤ c
theorem RdP.below {w w' : World} {p : Option Addr} {ls : List (List UInt8)} (h : RdP w p ls) (hb : Grew w w') : RdP w' p ls := by
  obtain ⟨b, o, rfl, hlt, hc⟩ := h
  refine ⟨b, o, rfl, Nat.lt_of_lt_of_le hlt hb.size, fun i l hi => ?_⟩
  obtain ⟨q, c, h1, h2, h3⟩ := hc i l hi
  exact ⟨q, c, (hb.cell (p := ⟨b, o + i, none⟩) hlt).trans h1, h2.below hb (Nat.le_refl _), h3⟩

theorem take_flat (ls : List (List UInt8)) (k : Nat) (l : List UInt8) (h : ls[k]? = some l) : (ls.take (k + 1)).flatten = (ls.take k).flatten ++ l := by
  rw [List.take_add_one, h, List.flatten_append]
  simp
theorem take_flat_len (ls : List (List UInt8)) (k : Nat) : (ls.take k).flatten.length ≤ ls.flatten.length := by
  have h : ls.flatten = (ls.take k).flatten ++ (ls.drop k).flatten := by rw [← List.flatten_append, List.take_append_drop]
  rw [h, List.length_append]
  omega

set_option maxRecDepth 100000 in
set_option maxHeartbeats 1000000 in
theorem slices_Concat (p : Option Addr) (ls : List (List UInt8)) (cap : Nat) (w : World) (hr : RdP w p ls) (hn : ls.length ≤ 1000) (hl : ls.flatten.length ≤ 1099511627776) :
    Calls Tryd.prog 36 #[.slice p ls.length cap] w fun e w' => ∃ v, e = .returned v ∧ OwnB w' w.heap.size v ls.flatten ∧ Grew w w' := by
  obtain ⟨b, o, rfl, hlt, hc⟩ := hr
  have htot : (ls.take ls.length).flatten = ls.flatten := by rw [List.take_length]
  have h0 : (ls.take 0).flatten = [] := rfl
  have hstep := take_flat ls
  have hle := take_flat_len ls
  obtain ⟨n, hN⟩ : ∃ n, ls.length = n := ⟨_, rfl⟩
  have hget : ∀ k, k < n → ∃ l, ls[k]? = some l := fun k hk => ⟨_, List.getElem?_eq_getElem (by omega)⟩
  rw [hN] at htot hn ⊢
  clear hN
  generalize ls.flatten = tot at *
  have HC := Lib.hid hc
  have HS := Lib.hid hstep
  have HL := Lib.hid hle
  have HG := Lib.hid hget
  have HT := Lib.hid htot
  have H0 := Lib.hid h0
  clear hc hstep hle hget htot h0
  go_enter Tryd.func36, Tryd.ntmps36
  go_wp2_with fail
  go_loopw [3, 11] (fun i j wr => ∃ k : Nat, k ≤ n ∧ j = .int .i64 (k : Int) ∧ i = .int .i64 ((ls.take k).flatten.length : Int) ∧ w = wr) (fun _ j _ => n - (intOf j).toNat)
  case atStart => exact ⟨0, by omega, rfl, by rw [H0.out]; rfl, rfl⟩
  case round =>
    obtain ⟨k, hk, rfl, rfl, rfl⟩ := hrel
    by_cases hkn : k < n
    · have hlt2 : (k : Int) < (n : Int) := by omega
      obtain ⟨l, hl1⟩ := HG.out k hkn
      obtain ⟨q, c, hcell, hrd, hlc⟩ := HC.out k l hl1
      have h1 := HS.out k l hl1
      have h2 := HL.out k
      have h3 := HL.out (k + 1)
      rw [h1] at h3
      have h4 : (ls.take (k + 1)).flatten.length = (ls.take k).flatten.length + l.length := by rw [h1, List.length_append]
      rw [List.length_append] at h3
      obtain ⟨T, hT⟩ : ∃ T, (ls.take k).flatten.length = T := ⟨_, rfl⟩
      rw [hT] at h2 h3 h4 ⊢
      have HK := Lib.hid h4
      clear h4 hT h1 hrd hl1
      go_wp2_with fail
      refine ⟨⟨k + 1, by omega, by go_num, ?_, trivial⟩, by simp [intOf]; omega⟩
      rw [HK.out]
      go_num
    · obtain rfl : k = n := by omega
      have HT' := HT.out
      have hge := slices_GrowB ((ls.take k).flatten.length) w (by rw [HT.out]; exact hl)
      obtain ⟨T, hT⟩ : ∃ T, (ls.take k).flatten.length = T := ⟨_, rfl⟩
      rw [hT] at hge ⊢
      have hTl : T ≤ 1099511627776 := by rw [← hT, HT.out]; exact hl
      clear HT' hT
      go_wp2_with fail
      go_fit hge
      rintro e2 W2 ⟨v, rfl, hown, g2⟩
      go_wp2_with fail
      go_loopw [6, 27] (fun v j wq => ∃ k2 : Nat, k2 ≤ k ∧ j = .int .i64 (k2 : Int) ∧ OwnB wq w.heap.size v (ls.take k2).flatten ∧ Grew w wq) (fun _ j _ => k - (intOf j).toNat)
      case atStart => exact ⟨0, by omega, rfl, by rw [H0.out]; exact hown, g2⟩
      case round =>
        obtain ⟨k2, hk2, rfl, how, hbb⟩ := hrel
        by_cases hkn : k2 < k
        · have hlt2 : (k2 : Int) < (k : Int) := by omega
          obtain ⟨l, hl1⟩ := HG.out k2 hkn
          obtain ⟨q, c, hcell0, hrd0, hlc⟩ := HC.out k2 l hl1
          have hcell := (hbb.cell (p := ⟨b, o + k2, none⟩) hlt).trans hcell0
          have hrd := hrd0.below hbb (Nat.le_refl _)
          have h1 := HS.out k2 l hl1
          have h3 := HL.out (k2 + 1)
          rw [h1, List.length_append] at h3
          have HK := Lib.hid h1
          clear hrd0 hcell0 h1 hl1 hown g2
          go_wp2_with (at_builtin; refine wpList_append_B rfl _ _ rfl w.heap.size _ _ l q c rfl rfl how hrd hbb.size (by omega) ?_)
          intro v3 W3 hown3 hb3 hg3
          go_wp2
          go_roundw
          case rel =>
            refine ⟨k2 + 1, by omega, by go_num, ?_, hbb.trans hb3⟩
            rw [HK.out]
            exact hown3
          case measure => simp [intOf]; omega
        · obtain rfl : k2 = k := by omega
          rw [HT.out] at how
          go_wp2
          go_ret
          exact ⟨_, rfl, how, hbb⟩

end Go.Proofs.YtdlhabldjdkfbaaDoor
