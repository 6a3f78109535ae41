/- quote's plain, taken, end. Conditions: at most 2^30 bytes; the library's tables are laid. -/
import Derived.Test.YtbdcncojiejdoaaDoorAny2
import Derived.Deep.RegionHeldLaw
import Derived.BigQuiet
namespace Go.Proofs.YtbdcncojiejdoaaDoor
set_option linter.unusedVariables false
set_option linter.unusedSimpArgs false
open Go.RowKit

/-- The value of the first k digits. -/
def octV (ds : List UInt8) (k : Nat) : Nat := (ds.take k).foldl (fun v c => 8 * v + (c.toNat - 48)) 0
theorem octV_next (ds : List UInt8) (k : Nat) (c : UInt8) (h : ds[k]? = some c) : octV ds (k + 1) = 8 * octV ds k + (c.toNat - 48) := by
  unfold octV
  rw [List.take_add_one, h, Option.toList_some, List.foldl_append]
  rfl
theorem taken_bad {d a b : UInt8} {q : List UInt8} (h1 : ¬ (d.toNat = 34 ∨ d.toNat = 92)) (h2 : d.toNat ≠ 110) (h3 : d.toNat ≠ 116) (h : ∃ j, j < 3 ∧ ¬ (48 ≤ ([d, a, b].getD j 0).toNat ∧ ([d, a, b].getD j 0).toNat ≤ 55)) : Pure.takenQ (92 :: d :: a :: b :: q) = (0, 0) := by
  unfold Pure.takenQ
  simp only [show ¬ ((92 : UInt8).toNat ≠ 92) by decide, if_false, h1, h2, h3]
  rw [if_neg]
  rintro ⟨k1, k2, k3, -⟩
  obtain ⟨j, hj, hn⟩ := h
  have : j = 0 ∨ j = 1 ∨ j = 2 := by omega
  rcases this with rfl | rfl | rfl
  · exact hn k1
  · exact hn k2
  · exact hn k3
theorem taken_oct {d a b : UInt8} {q : List UInt8} (h1 : ¬ (d.toNat = 34 ∨ d.toNat = 92)) (h2 : d.toNat ≠ 110) (h3 : d.toNat ≠ 116) (k1 : 48 ≤ d.toNat ∧ d.toNat ≤ 55) (k2 : 48 ≤ a.toNat ∧ a.toNat ≤ 55) (k3 : 48 ≤ b.toNat ∧ b.toNat ≤ 55) : Pure.takenQ (92 :: d :: a :: b :: q) = if octV [d, a, b] 3 ≤ 255 then (octV [d, a, b] 3, 4) else (0, 0) := by
  have e : octV [d, a, b] 3 = (d.toNat - 48) * 64 + (a.toNat - 48) * 8 + (b.toNat - 48) := by
    show 8 * (8 * (8 * 0 + (d.toNat - 48)) + (a.toNat - 48)) + (b.toNat - 48) = _
    omega
  unfold Pure.takenQ
  simp only [show ¬ ((92 : UInt8).toNat ≠ 92) by decide, if_false, h1, h2, h3]
  rw [e]
  by_cases h : (d.toNat - 48) * 64 + (a.toNat - 48) * 8 + (b.toNat - 48) ≤ 255
  · rw [if_pos ⟨k1, k2, k3, h⟩, if_pos h]
  · rw [if_neg (fun x => h x.2.2.2), if_neg h]

set_option maxRecDepth 100000 in
set_option maxHeartbeats 4000000 in
theorem quote_taken (s : ByteArray) (w : World) (hs : s.size ≤ 1073741824) (h0 : 0 < s.size) :
    Calls Tryd.prog 32 #[.string s] w fun e w' => e = .returned (.tuple #[.int .u8 ((Pure.takenQ s.data.toList).1 : Nat), .int .i64 ((Pure.takenQ s.data.toList).2 : Nat)]) ∧ w' = w := by
  have hsl : s.data.toList.length = s.size := Array.length_toList
  obtain ⟨L, hL⟩ : ∃ L, s.data.toList = L := ⟨_, rfl⟩
  have hix := fun k c h => index_str s k c h
  rw [hL] at hsl hix ⊢
  cases L with
  | nil => simp at hsl; omega
  | cons c r =>
    have i0 : ∀ W, (Instr.index 9 (.string s) (.int .i64 0)).run Tryd.prog W = .ok (.int .u8 (c.toNat : Int)) W := fun W => hix 0 c rfl W
    rw [List.length_cons] at hsl
    by_cases h92 : c.toNat = 92
    · have hc92 : c = 92 := UInt8.toNat_inj.1 h92
      have m92 : ((c.toNat : Int) != 92) = false := by rw [bne_eq_false_iff_eq]; omega
      subst hc92
      cases r with
      | nil =>
        have f1 : decide ((2 : Int) ≤ (s.size : Int)) = false := decide_eq_false (by simp at hsl; omega)
        have f2 : decide ((s.size : Int) < 4) = true := decide_eq_true (by simp at hsl; omega)
        clear hix hL hsl
        go_enter Tryd.func32, Tryd.ntmps32
        go_wp2
        go_ret2
        exact ⟨rfl, rfl⟩
      | cons d q =>
        have i1 : ∀ W, (Instr.index 9 (.string s) (.int .i64 1)).run Tryd.prog W = .ok (.int .u8 (d.toNat : Int)) W := fun W => hix 1 d rfl W
        have f1 : decide ((2 : Int) ≤ (s.size : Int)) = true := decide_eq_true (by simp at hsl; omega)
        by_cases hq1 : d.toNat = 34 ∨ d.toNat = 92
        · have hres : Pure.takenQ (92 :: d :: q) = (d.toNat, 2) := by
            unfold Pure.takenQ
            simp only [show ¬ ((92 : UInt8).toNat ≠ 92) by decide, if_false]
            rw [if_pos hq1]
          have HR := Lib.hid hres
          by_cases h34 : d.toNat = 34
          · have e34 : ((d.toNat : Int) == 34) = true := by rw [beq_iff_eq]; omega
            clear hix hL hsl hres hq1
            go_enter Tryd.func32, Tryd.ntmps32
            go_wp2
            go_ret2
            exact ⟨by rw [HR.out, h34]; rfl, rfl⟩
          · have e34 : ((d.toNat : Int) == 34) = false := by rw [beq_eq_false_iff_ne]; omega
            have e92 : ((d.toNat : Int) == 92) = true := by rw [beq_iff_eq]; omega
            clear hix hL hsl hres hq1
            go_enter Tryd.func32, Tryd.ntmps32
            go_wp2
            go_ret2
            exact ⟨by rw [HR.out]; rfl, rfl⟩
        · have e34 : ((d.toNat : Int) == 34) = false := by rw [beq_eq_false_iff_ne]; omega
          have e92 : ((d.toNat : Int) == 92) = false := by rw [beq_eq_false_iff_ne]; omega
          by_cases h110 : d.toNat = 110
          · have e110 : ((d.toNat : Int) == 110) = true := by rw [beq_iff_eq]; omega
            have hres : Pure.takenQ (92 :: d :: q) = (10, 2) := by
              unfold Pure.takenQ
              simp only [show ¬ ((92 : UInt8).toNat ≠ 92) by decide, if_false]
              rw [if_neg hq1, if_pos h110]
            have HR := Lib.hid hres
            clear hix hL hsl hres hq1
            go_enter Tryd.func32, Tryd.ntmps32
            go_wp2
            go_ret2
            exact ⟨by rw [HR.out]; rfl, rfl⟩
          · have e110 : ((d.toNat : Int) == 110) = false := by rw [beq_eq_false_iff_ne]; omega
            by_cases h116 : d.toNat = 116
            · have e116 : ((d.toNat : Int) == 116) = true := by rw [beq_iff_eq]; omega
              have hres : Pure.takenQ (92 :: d :: q) = (9, 2) := by
                unfold Pure.takenQ
                simp only [show ¬ ((92 : UInt8).toNat ≠ 92) by decide, if_false]
                rw [if_neg hq1, if_neg h110, if_pos h116]
              have HR := Lib.hid hres
              clear hix hL hsl hres hq1
              go_enter Tryd.func32, Tryd.ntmps32
              go_wp2
              go_ret2
              exact ⟨by rw [HR.out]; rfl, rfl⟩
            · have e116 : ((d.toNat : Int) == 116) = false := by rw [beq_eq_false_iff_ne]; omega
              by_cases h4 : s.size < 4
              · have f4 : decide ((s.size : Int) < 4) = true := decide_eq_true (by omega)
                have hres : Pure.takenQ (92 :: d :: q) = (0, 0) := by
                  unfold Pure.takenQ
                  simp only [show ¬ ((92 : UInt8).toNat ≠ 92) by decide, if_false]
                  rw [if_neg hq1, if_neg h110, if_neg h116]
                  match q, hsl with
                  | [], _ => rfl
                  | [_], _ => rfl
                  | _ :: _ :: _, hsl => simp at hsl; omega
                have HR := Lib.hid hres
                clear hix hL hsl hres hq1
                go_enter Tryd.func32, Tryd.ntmps32
                go_wp2
                go_ret2
                exact ⟨by rw [HR.out]; rfl, rfl⟩
              · have f4 : decide ((s.size : Int) < 4) = false := decide_eq_false (by omega)
                match q, hsl with
                | [], hsl => simp at hsl; omega
                | [_], hsl => simp at hsl; omega
                | a :: b :: q, hsl =>
                have hds : ∀ (k : Nat) W, 1 ≤ k → k < 4 → (Instr.index 9 (.string s) (.int .i64 (k : Int))).run Tryd.prog W = .ok (.int .u8 ((([d, a, b].getD (k - 1) 0).toNat : Nat) : Int)) W := by
                  intro k W hk1 hk4
                  have : k = 1 ∨ k = 2 ∨ k = 3 := by omega
                  rcases this with rfl | rfl | rfl
                  · exact hix 1 d rfl W
                  · exact hix 2 a rfl W
                  · exact hix 3 b rfl W
                have hg : ∀ k : Nat, 1 ≤ k → k < 4 → [d, a, b][k - 1]? = some ([d, a, b].getD (k - 1) 0) := by
                  intro k hk1 hk4
                  have : k = 1 ∨ k = 2 ∨ k = 3 := by omega
                  rcases this with rfl | rfl | rfl <;> rfl
                have HDS := Lib.hid hds
                have HG := Lib.hid hg
                have HQ1 := Lib.hid hq1
                clear hix hL hsl hq1 hds hg
                go_enter Tryd.func32, Tryd.ntmps32
                go_wp2
                go_loopw [4, 5] (fun vv ii wr => ∃ k ov : Nat, 1 ≤ k ∧ k ≤ 4 ∧ ii = .int .i64 (k : Int) ∧ vv = .int .i64 (ov : Int) ∧ wr = w ∧ Hid (ov = octV [d, a, b] (k - 1)) ∧ ov ≤ 1000 ∧ Hid (∀ j, j < k - 1 → 48 ≤ ([d, a, b].getD j 0).toNat ∧ ([d, a, b].getD j 0).toNat ≤ 55)) (fun _ i _ => 4 - (intOf i).toNat)
                case atStart => exact ⟨1, 0, by omega, by omega, rfl, rfl, rfl, Lib.hid rfl, by omega, Lib.hid (fun j hj => by omega)⟩
                case round =>
                  obtain ⟨k, ov, hk1, hk4, rfl, rfl, rfl, hov, hv, hdig⟩ := hrel
                  by_cases hk : k < 4
                  · have fk : decide ((k : Int) < 4) = true := decide_eq_true (by omega)
                    have ik := fun W => HDS.out k W hk1 hk
                    have hgk := HG.out k hk1 hk
                    obtain ⟨ch, hch⟩ : ∃ ch, [d, a, b].getD (k - 1) 0 = ch := ⟨_, rfl⟩
                    simp only [hch] at ik
                    rw [hch] at hgk
                    have hch8 := ch.toNat_lt
                    by_cases hd : 48 ≤ ch.toNat ∧ ch.toNat ≤ 55
                    · have g1 : decide ((ch.toNat : Int) < 48) = false := decide_eq_false (by omega)
                      have g2 : decide (55 < (ch.toNat : Int)) = false := decide_eq_false (by omega)
                      have hdg : ∀ j, j < k + 1 - 1 → 48 ≤ ([d, a, b].getD j 0).toNat ∧ ([d, a, b].getD j 0).toNat ≤ 55 := by
                        intro j hj
                        by_cases hjp : j = k - 1
                        · rw [hjp, hch]; exact hd
                        · exact hdig.out j (by omega)
                      have hnv : octV [d, a, b] (k + 1 - 1) = 8 * octV [d, a, b] (k - 1) + (ch.toNat - 48) := by
                        rw [show k + 1 - 1 = (k - 1) + 1 by omega]
                        exact octV_next _ _ _ hgk
                      have hb : 8 * ov + (ch.toNat - 48) ≤ 1000 := by
                        have h3 : ∀ m, m < 3 → (∀ j, j < m → 48 ≤ ([d, a, b].getD j 0).toNat ∧ ([d, a, b].getD j 0).toNat ≤ 55) → octV [d, a, b] m ≤ 63 := by
                          intro m hm hall
                          have : m = 0 ∨ m = 1 ∨ m = 2 := by omega
                          rcases this with rfl | rfl | rfl
                          · show 0 ≤ 63; omega
                          · have h0 : 48 ≤ d.toNat ∧ d.toNat ≤ 55 := hall 0 (by omega)
                            show 8 * 0 + (d.toNat - 48) ≤ 63
                            omega
                          · have h0 : 48 ≤ d.toNat ∧ d.toNat ≤ 55 := hall 0 (by omega)
                            have h1 : 48 ≤ a.toNat ∧ a.toNat ≤ 55 := hall 1 (by omega)
                            show 8 * (8 * 0 + (d.toNat - 48)) + (a.toNat - 48) ≤ 63
                            omega
                        have := h3 (k - 1) (by omega) hdig.out
                        rw [hov.out]; omega
                      have hnv2 : 8 * ov + (ch.toNat - 48) = octV [d, a, b] (k + 1 - 1) := by rw [hnv, hov.out]
                      have HDG := Lib.hid hdg
                      have HNV := Lib.hid hnv2
                      have hwv : IntKind.u8.wrap ((ch.toNat : Int) - 48) = (ch.toNat : Int) - 48 := by show ((ch.toNat : Int) - 48) % 256 = _; omega
                      have hcast : ((8 * ov + (ch.toNat - 48) : Nat) : Int) = 8 * (ov : Int) + ((ch.toNat : Int) - 48) := by omega
                      have HCA := Lib.hid hcast
                      clear hdg hnv hnv2 hcast hdig hd hch hgk hov
                      go_wp2
                      go_roundw
                      case rel => exact ⟨k + 1, 8 * ov + (ch.toNat - 48), by omega, by omega, by go_num, by rw [HCA.out], trivial, HNV, hb, HDG⟩
                      case measure => simp [intOf]; omega
                    · have hbad := taken_bad (q := q) HQ1.out h110 h116 ⟨k - 1, by omega, by rw [hch]; exact hd⟩
                      have HB := Lib.hid hbad
                      have hb : ch.toNat < 48 ∨ (48 ≤ ch.toNat ∧ 55 < ch.toNat) := by omega
                      clear hbad hdig hd hch hgk
                      rcases hb with hb | ⟨hb0, hb⟩
                      · have g1 : decide ((ch.toNat : Int) < 48) = true := decide_eq_true (by omega)
                        go_wp2
                        go_ret2
                        exact ⟨by rw [HB.out]; rfl, rfl⟩
                      · have g1 : decide ((ch.toNat : Int) < 48) = false := decide_eq_false (by omega)
                        have g2 : decide (55 < (ch.toNat : Int)) = true := decide_eq_true (by omega)
                        go_wp2
                        go_ret2
                        exact ⟨by rw [HB.out]; rfl, rfl⟩
                  · obtain rfl : k = 4 := by omega
                    have fk : decide (((4 : Nat) : Int) < 4) = false := by decide
                    have d1 : 48 ≤ d.toNat ∧ d.toNat ≤ 55 := hdig.out 0 (by omega)
                    have d2 : 48 ≤ a.toNat ∧ a.toNat ≤ 55 := hdig.out 1 (by omega)
                    have d3 : 48 ≤ b.toNat ∧ b.toNat ≤ 55 := hdig.out 2 (by omega)
                    have hoct := taken_oct (q := q) HQ1.out h110 h116 d1 d2 d3
                    have hov3 : ov = octV [d, a, b] 3 := hov.out
                    rw [← hov3] at hoct
                    have HO := Lib.hid hoct
                    clear hoct hdig hov hov3 d1 d2 d3
                    by_cases h255 : ov ≤ 255
                    · have g3 : decide (255 < (ov : Int)) = false := decide_eq_false (by omega)
                      have hwv : IntKind.u8.wrap (ov : Int) = (ov : Int) := by show (ov : Int) % 256 = _; omega
                      go_wp2
                      go_ret2
                      exact ⟨by rw [HO.out, if_pos h255]; rfl, rfl⟩
                    · have g3 : decide (255 < (ov : Int)) = true := decide_eq_true (by omega)
                      go_wp2
                      go_ret2
                      exact ⟨by rw [HO.out, if_neg h255]; rfl, rfl⟩
    · have m92 : ((c.toNat : Int) != 92) = true := by rw [bne_iff_ne]; omega
      have hres : Pure.takenQ (c :: r) = (c.toNat, 1) := by unfold Pure.takenQ; rw [if_pos h92]
      have HR := Lib.hid hres
      clear hix hL hsl hres
      go_enter Tryd.func32, Tryd.ntmps32
      go_wp2
      go_ret2
      exact ⟨by rw [HR.out]; rfl, rfl⟩

end Go.Proofs.YtbdcncojiejdoaaDoor
