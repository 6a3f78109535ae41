/- The reference's Unquote where a quote begins the text. Conditions: at most 2^30 bytes. -/
import Derived.Test.YtbdcncojiejdoaaDoorQ11
import Derived.Test.YtbdcncojiejdoaaDoorPure03r
import Derived.StillTailTactics
namespace Go.Proofs.YtbdcncojiejdoaaDoor
set_option linter.unusedVariables false
set_option linter.unusedSimpArgs false
open Go.RowKit

theorem Rd.oneQ (w : World) (x : UInt8) (ty : TypeId) : Rd (w.alloc (.cells #[.int .u8 (x.toNat : Int)] ty)) (some ⟨w.heap.size, 0, none⟩) [x] :=
  .inr ⟨_, 0, rfl, by simp, fun i hi => by
    have : i = 0 := by simp at hi; omega
    subst this
    rw [cell_of_row _ _ _ _ _ (0, 0) (heap_alloc_new w _)]
    rfl⟩
theorem Rd.oneZQ (w : World) (z : Int) (x : UInt8) (ty : TypeId) (h : z = (x.toNat : Int)) : Rd (w.alloc (.cells #[.int .u8 z] ty)) (some ⟨w.heap.size, 0, none⟩) [x] := by
  subst h
  exact Rd.oneQ w x ty
theorem drop_take_at {l : List UInt8} {i k : Nat} {c : UInt8} (h : l[i]? = some c) (hk : i < k) : (l.drop i).take (k - i) = c :: (l.drop (i + 1)).take (k - (i + 1)) := by
  rw [drop_at h, show k - i = (k - (i + 1)) + 1 by omega, List.take_succ_cons]
theorem oct_sum (d a b : UInt8) (h1 : 48 ≤ d.toNat ∧ d.toNat ≤ 51) (h2 : 48 ≤ a.toNat ∧ a.toNat ≤ 55) (h3 : 48 ≤ b.toNat ∧ b.toNat ≤ 55) : (UInt8.ofNat ((d.toNat - 48) * 64 + (a.toNat - 48) * 8 + (b.toNat - 48))).toNat = (d.toNat - 48) * 64 + (a.toNat - 48) * 8 + (b.toNat - 48) := by
  rw [UInt8.toNat_ofNat']; omega
theorem oct_or (d a b : UInt8) (h1 : 48 ≤ d.toNat ∧ d.toNat ≤ 51) (h2 : 48 ≤ a.toNat ∧ a.toNat ≤ 55) (h3 : 48 ≤ b.toNat ∧ b.toNat ≤ 55) :
    bits BinOp.or IntKind.u8 (bits BinOp.or IntKind.u8 (IntKind.u8.wrap (IntKind.u8.wrap ((d.toNat : Int) - 48) * 64)) (IntKind.u8.wrap (IntKind.u8.wrap ((a.toNat : Int) - 48) * 8))) (IntKind.u8.wrap ((b.toNat : Int) - 48)) = (((d.toNat - 48) * 64 + (a.toNat - 48) * 8 + (b.toNat - 48) : Nat) : Int) := by
  have key : ∀ (x : Fin 4) (y z : Fin 8), bits BinOp.or IntKind.u8 (bits BinOp.or IntKind.u8 (IntKind.u8.wrap (IntKind.u8.wrap (((x.val + 48 : Nat) : Int) - 48) * 64)) (IntKind.u8.wrap (IntKind.u8.wrap (((y.val + 48 : Nat) : Int) - 48) * 8))) (IntKind.u8.wrap (((z.val + 48 : Nat) : Int) - 48)) = ((x.val * 64 + y.val * 8 + z.val : Nat) : Int) := by decide +kernel
  have h := key ⟨d.toNat - 48, by omega⟩ ⟨a.toNat - 48, by omega⟩ ⟨b.toNat - 48, by omega⟩
  simp only [show d.toNat - 48 + 48 = d.toNat by omega, show a.toNat - 48 + 48 = a.toNat by omega, show b.toNat - 48 + 48 = b.toNat by omega] at h
  exact h
/-- What Unquote answers, by the reference's road. -/
def refV (l : List UInt8) : Value := .tuple #[.string ⟨(Pure.unqR l).1.toArray⟩, .int .i64 ((Pure.unqR l).2.1 : Nat), .int .i64 (Pure.unqR l).2.2]

set_option maxRecDepth 100000 in
set_option maxHeartbeats 4000000 in
theorem ref_Unquote_quoted (s : ByteArray) (w : World) (hs : s.size ≤ 1073741824) (hh : s.data.toList.head? = some 34) :
    Calls Tryd.prog 15 #[.string s] w fun e w' => e = .returned (refV s.data.toList) ∧ Grew w w' := by
  have hsl : s.data.toList.length = s.size := Array.length_toList
  have hsz : 0 < s.size := by
    rw [← hsl]; cases h : s.data.toList with
    | nil => rw [h] at hh; cases hh
    | cons a b => simp
  have hx0 : s.data.toList[0]? = some 34 := by rw [← List.head?_eq_getElem?]; exact hh
  have i0 : ∀ W, (Instr.index 9 (.string s) (.int .i64 0)).run Tryd.prog W = .ok (.int .u8 34) W := fun W => index_str s 0 34 hx0 W
  have hne : s.toList.isEmpty = false := not_empty hsz
  have hix := fun k c h => index_str s k c h
  obtain ⟨L, hL⟩ : ∃ L, s.data.toList = L := ⟨_, rfl⟩
  rw [hL] at hsl hix hh ⊢
  have HSL := Lib.hid hsl
  have HIX := Lib.hid hix
  have HH := Lib.hid hh
  have HL := Lib.hid hL
  have g0 : Grew w w := Below.refl _ _
  clear hL hsl hix hh hx0
  go_enter Tryd.func15, Tryd.ntmps15
  go_wp2
  go_loopw [6] (fun ii wr => ∃ k : Nat, 1 ≤ k ∧ k ≤ s.size + 1 ∧ ii = .int .i64 (k : Int) ∧ wr = w ∧ Hid (Pure.endF (L.drop 1) = (Pure.endF (L.drop k)).map (· + (k - 1)))) (fun i _ => s.size + 1 - (intOf i).toNat)
  case atStart => exact ⟨1, Nat.le_refl _, by omega, rfl, rfl, Lib.hid (by simp)⟩
  case round =>
    obtain ⟨k, hk1, hk2, rfl, hww, hE⟩ := hrel
    obtain rfl : w = wr := hww.symm
    by_cases hlt : k < s.size
    · have fk : decide ((k : Int) < (s.size : Int)) = true := decide_eq_true (by omega)
      obtain ⟨c, hc⟩ : ∃ c, L[k]? = some c := ⟨_, List.getElem?_eq_getElem (by rw [HSL.out]; exact hlt)⟩
      have ik := fun W => HIX.out k c hc W
      have hd := drop_at hc
      have HD := Lib.hid hd
      have HC := Lib.hid hc
      clear hd hc
      by_cases h34 : c.toNat = 34
      · have e34 : ((c.toNat : Int) == 34) = true := by rw [beq_iff_eq]; omega
        have m34 : ((c.toNat : Int) != 34) = false := by rw [bne_eq_false_iff_eq]; omega
        have f2 : decide ((s.size : Int) ≤ (k : Int)) = false := decide_eq_false (by omega)
        have he : Pure.endF (L.drop 1) = some (k - 1) := by
          rw [hE.out, HD.out, Pure.end_hit _ _ h34, Option.map_some]
          simp
        have hres : refV L = if Pure.quoteP (Pure.dec2 ((L.drop 1).take (k - 1))) = L.take (k + 1) then .tuple #[.string ⟨(Pure.dec2 ((L.drop 1).take (k - 1))).toArray⟩, .int .i64 ((k + 1 : Nat) : Int), .int .i64 0] else .tuple #[.string ⟨#[]⟩, .int .i64 0, .int .i64 4] := by
          unfold refV Pure.unqR
          rw [if_pos HH.out, he]
          simp only [show k - 1 + 2 = k + 1 by omega]
          by_cases hq : Pure.quoteP (Pure.dec2 ((L.drop 1).take (k - 1))) = L.take (k + 1)
          · rw [if_pos hq, if_pos hq]
          · rw [if_neg hq, if_neg hq]; rfl
        have HR := Lib.hid hres
        have HE := Lib.hid he
        obtain ⟨B, hB⟩ : ∃ B, w.heap.size = B := ⟨_, rfl⟩
        have HB := Lib.hid hB
        have hown0 : OwnB w B (.slice none 0 0) [] := OwnB.nil _ _
        clear hres hE he hB h34 HD
        go_wp2
        go_loopw [7, 8, 9] (fun vv iv cv wr => ∃ (i : Nat) (acc : List UInt8), 1 ≤ i ∧ i ≤ k ∧ acc.length ≤ i ∧ iv = .int .i64 (i : Int) ∧ OwnB wr B vv acc ∧ Grew w wr ∧ Hid (Pure.dec2 ((L.drop 1).take (k - 1)) = acc ++ Pure.dec2 ((L.drop i).take (k - i))) ∧ Hid (Pure.endF (L.drop i) = some (k - i))) (fun _ iv _ _ => k - (intOf iv).toNat)
        case atStart => exact ⟨1, [], Nat.le_refl _, hk1, by simp, rfl, hown0, Below.refl _ _, Lib.hid (by simp), HE⟩
        case round =>
          obtain ⟨i, acc, hi1, hik, hal, rfl, how, hgx, hdec, hend⟩ := hrel
          clear hown0
          obtain ⟨p, cp, hv, hrd, hlc, -⟩ := how.val
          subst hv
          by_cases hil : i < k
          · have fi : decide ((i : Int) < (k : Int)) = true := decide_eq_true (by omega)
            have his : i < s.size := by omega
            obtain ⟨x, hx⟩ : ∃ x, L[i]? = some x := ⟨_, List.getElem?_eq_getElem (by rw [HSL.out]; exact his)⟩
            have ii := fun W => HIX.out i x hx W
            have hdx := drop_at hx
            have hBx : B ≤ wr.heap.size := by have := HB.out; have := hgx.size; omega
            by_cases hx92 : x.toNat = 92
            · obtain rfl : x = 92 := UInt8.toNat_inj.1 hx92
              have m92 : (((92 : UInt8).toNat : Int) != 92) = false := rfl
              have hen := hend.out
              rw [hdx] at hen
              obtain ⟨d, q, hq, hen2, hle2⟩ := Pure.end_two hen (by decide)
              have hd1 : L[i + 1]? = some d := by
                have h5 := congrArg (fun z => z[0]?) hq
                simpa using h5
              have his1 : i + 1 < s.size := by have := (List.getElem?_eq_some_iff.1 hd1).1; rw [HSL.out] at this; exact this
              have hq2 : q = L.drop (i + 2) := by
                have h5 := drop_at hd1
                rw [hq] at h5
                exact (List.cons.inj h5).2
              subst hq2
              have id1 : ∀ W, (Instr.index 9 (.string s) (.int .i64 ((i : Int) + 1))).run Tryd.prog W = .ok (.int .u8 (d.toNat : Int)) W := fun W => HIX.out (i + 1) d hd1 W
              have htk : (L.drop i).take (k - i) = 92 :: d :: (L.drop (i + 2)).take (k - (i + 2)) := by
                rw [drop_take_at hx hil, drop_take_at hd1 (by omega)]
              have hn2 : k - i - 2 = k - (i + 2) := by omega
              rw [hn2] at hen2
              have HEN2 := Lib.hid hen2
              have HTK := Lib.hid htk
              have HD1 := Lib.hid hd1
              have HQ := Lib.hid hq
              have HX := Lib.hid hdx
              have wi : IntKind.i64.wrap ((i : Int) + 1) = (i : Int) + 1 := IntWalk.i64_in _ (by omega)
              clear hx hen2 htk hd1 hq hdx hen hn2 hrd hlc hx92
              by_cases h110 : d.toNat = 110
              · have e110 : ((d.toNat : Int) == 110) = true := by rw [beq_iff_eq]; omega
                have hdn : Pure.dec2 ((L.drop 1).take (k - 1)) = (acc ++ [10]) ++ Pure.dec2 ((L.drop (i + 2)).take (k - (i + 2))) := by rw [hdec.out, HTK.out, Pure.dec2_new h110]; simp
                have HDN := Lib.hid hdn
                clear hdn hdec
                go_wp2_with (at_builtin; refine wpList_append_B rfl _ _ rfl B _ acc [10] _ 1 rfl rfl (how.below ((Below.refl _ _).alloc (Nat.le_refl _) _)) (Rd.oneZQ wr _ 10 _ (by rfl)) (by simp; omega) (by simp; omega) ?_)
                intro v5 W5 how5 hb5 hgb5
                have gv5 : Grew w W5 := (hgx.trans' ((Below.refl _ _).alloc (Nat.le_refl _) _)).trans (by rw [← HB.out] at hb5; exact hb5)
                clear hb5 hgb5
                go_wp2
                go_roundw
                case rel => exact ⟨i + 2, acc ++ [10], by omega, by omega, by simp; omega, by go_num, how5, gv5, HDN, HEN2⟩
                case measure => simp [intOf]; omega
              · have e110 : ((d.toNat : Int) == 110) = false := by rw [beq_eq_false_iff_ne]; omega
                by_cases h116 : d.toNat = 116
                · have e116 : ((d.toNat : Int) == 116) = true := by rw [beq_iff_eq]; omega
                  have hdn : Pure.dec2 ((L.drop 1).take (k - 1)) = (acc ++ [9]) ++ Pure.dec2 ((L.drop (i + 2)).take (k - (i + 2))) := by rw [hdec.out, HTK.out, Pure.dec2_tab h116]; simp
                  have HDN := Lib.hid hdn
                  clear hdn hdec
                  go_wp2_with (at_builtin; refine wpList_append_B rfl _ _ rfl B _ acc [9] _ 1 rfl rfl (how.below ((Below.refl _ _).alloc (Nat.le_refl _) _)) (Rd.oneZQ wr _ 9 _ (by rfl)) (by simp; omega) (by simp; omega) ?_)
                  intro v5 W5 how5 hb5 hgb5
                  have gv5 : Grew w W5 := (hgx.trans' ((Below.refl _ _).alloc (Nat.le_refl _) _)).trans (by rw [← HB.out] at hb5; exact hb5)
                  clear hb5 hgb5
                  go_wp2
                  go_roundw
                  case rel => exact ⟨i + 2, acc ++ [9], by omega, by omega, by simp; omega, by go_num, how5, gv5, HDN, HEN2⟩
                  case measure => simp [intOf]; omega
                · have e116 : ((d.toNat : Int) == 116) = false := by rw [beq_eq_false_iff_ne]; omega
                  have hways : (d.toNat < 48 ∨ (48 ≤ d.toNat ∧ 51 < d.toNat) ∨ ((48 ≤ d.toNat ∧ d.toNat ≤ 51) ∧ k ≤ i + 3)) ∨ ((48 ≤ d.toNat ∧ d.toNat ≤ 51) ∧ i + 3 < k) := by omega
                  rcases hways with hno | ⟨⟨k48, k51⟩, hroom⟩
                  · have hdn : Pure.dec2 ((L.drop 1).take (k - 1)) = (acc ++ [d]) ++ Pure.dec2 ((L.drop (i + 2)).take (k - (i + 2))) := by
                      rw [hdec.out, HTK.out, Pure.dec2_else h110 h116]
                      · simp
                      · intro a b r e
                        have e2 := congrArg List.length e
                        rw [List.length_take] at e2
                        simp only [List.length_cons] at e2
                        omega
                    have HDN := Lib.hid hdn
                    clear hdn hdec
                    rcases hno with h1 | ⟨h1, h2⟩ | ⟨⟨h1, h2⟩, h3⟩
                    · have f48 : decide ((48 : Int) ≤ (d.toNat : Int)) = false := decide_eq_false (by omega)
                      have n48 : ¬ 48 ≤ d.toNat := by omega
                      go_wp2_with (at_builtin; refine wpList_append_B rfl _ _ rfl B _ acc [d] _ 1 rfl rfl (how.below ((Below.refl _ _).alloc (Nat.le_refl _) _)) (Rd.oneZQ wr _ d _ (by rfl)) (by simp; omega) (by simp; omega) ?_)
                      intro v5 W5 how5 hb5 hgb5
                      have gv5 : Grew w W5 := (hgx.trans' ((Below.refl _ _).alloc (Nat.le_refl _) _)).trans (by rw [← HB.out] at hb5; exact hb5)
                      clear hb5 hgb5
                      go_wp2
                      go_roundw
                      case rel => exact ⟨i + 2, acc ++ [d], by omega, by omega, by simp; omega, by go_num, how5, gv5, HDN, HEN2⟩
                      case measure => simp [intOf]; omega
                    · have f48 : decide ((48 : Int) ≤ (d.toNat : Int)) = true := decide_eq_true (by omega)
                      have f51 : decide ((d.toNat : Int) ≤ 51) = false := decide_eq_false (by omega)
                      have n51 : ¬ d.toNat ≤ 51 := by omega
                      go_wp2_with (at_builtin; refine wpList_append_B rfl _ _ rfl B _ acc [d] _ 1 rfl rfl (how.below ((Below.refl _ _).alloc (Nat.le_refl _) _)) (Rd.oneZQ wr _ d _ (by rfl)) (by simp; omega) (by simp; omega) ?_)
                      intro v5 W5 how5 hb5 hgb5
                      have gv5 : Grew w W5 := (hgx.trans' ((Below.refl _ _).alloc (Nat.le_refl _) _)).trans (by rw [← HB.out] at hb5; exact hb5)
                      clear hb5 hgb5
                      go_wp2
                      go_roundw
                      case rel => exact ⟨i + 2, acc ++ [d], by omega, by omega, by simp; omega, by go_num, how5, gv5, HDN, HEN2⟩
                      case measure => simp [intOf]; omega
                    · have f48 : decide ((48 : Int) ≤ (d.toNat : Int)) = true := decide_eq_true (by omega)
                      have f51 : decide ((d.toNat : Int) ≤ 51) = true := decide_eq_true (by omega)
                      have f3 : decide ((i : Int) + 1 + 2 < (k : Int)) = false := decide_eq_false (by omega)
                      have n3 : ¬ ((i : Int) + 1 + 2 < (k : Int)) := by omega
                      go_wp2_with (at_builtin; refine wpList_append_B rfl _ _ rfl B _ acc [d] _ 1 rfl rfl (how.below ((Below.refl _ _).alloc (Nat.le_refl _) _)) (Rd.oneZQ wr _ d _ (by rfl)) (by simp; omega) (by simp; omega) ?_)
                      intro v5 W5 how5 hb5 hgb5
                      have gv5 : Grew w W5 := (hgx.trans' ((Below.refl _ _).alloc (Nat.le_refl _) _)).trans (by rw [← HB.out] at hb5; exact hb5)
                      clear hb5 hgb5
                      go_wp2
                      go_roundw
                      case rel => exact ⟨i + 2, acc ++ [d], by omega, by omega, by simp; omega, by go_num, how5, gv5, HDN, HEN2⟩
                      case measure => simp [intOf]; omega
                  · have f48 : decide ((48 : Int) ≤ (d.toNat : Int)) = true := decide_eq_true (by omega)
                    have f51 : decide ((d.toNat : Int) ≤ 51) = true := decide_eq_true (by omega)
                    have f3 : decide ((i : Int) + 1 + 2 < (k : Int)) = true := decide_eq_true (by omega)
                    obtain ⟨a, ha⟩ : ∃ a, L[i + 2]? = some a := ⟨_, List.getElem?_eq_getElem (by rw [HSL.out]; omega)⟩
                    obtain ⟨b, hb⟩ : ∃ b, L[i + 3]? = some b := ⟨_, List.getElem?_eq_getElem (by rw [HSL.out]; omega)⟩
                    have ia : ∀ W, (Instr.index 9 (.string s) (.int .i64 ((i : Int) + 1 + 1))).run Tryd.prog W = .ok (.int .u8 (a.toNat : Int)) W := fun W => HIX.out (i + 2) a ha W
                    have ib : ∀ W, (Instr.index 9 (.string s) (.int .i64 ((i : Int) + 1 + 2))).run Tryd.prog W = .ok (.int .u8 (b.toNat : Int)) W := fun W => HIX.out (i + 3) b hb W
                    have htk3 : (L.drop (i + 2)).take (k - (i + 2)) = a :: b :: (L.drop (i + 4)).take (k - (i + 4)) := by
                      rw [drop_take_at ha (by omega), drop_take_at hb (by omega)]
                    have hdr3 : L.drop (i + 2) = a :: b :: L.drop (i + 4) := by rw [drop_at ha, drop_at hb]
                    by_cases hoct : (48 ≤ a.toNat ∧ a.toNat ≤ 55) ∧ (48 ≤ b.toNat ∧ b.toNat ≤ 55)
                    · obtain ⟨⟨a1, a2⟩, b1, b2⟩ := hoct
                      obtain ⟨y, hy⟩ : ∃ y, UInt8.ofNat ((d.toNat - 48) * 64 + (a.toNat - 48) * 8 + (b.toNat - 48)) = y := ⟨_, rfl⟩
                      have hyn : y.toNat = (d.toNat - 48) * 64 + (a.toNat - 48) * 8 + (b.toNat - 48) := by rw [← hy]; exact oct_sum d a b ⟨k48, k51⟩ ⟨a1, a2⟩ ⟨b1, b2⟩
                      have hdn : Pure.dec2 ((L.drop 1).take (k - 1)) = (acc ++ [y]) ++ Pure.dec2 ((L.drop (i + 4)).take (k - (i + 4))) := by
                        rw [hdec.out, HTK.out, htk3, Pure.dec2_oct ⟨k48, k51⟩ ⟨a1, a2⟩ ⟨b1, b2⟩, hy]; simp
                      have hen4 : Pure.endF (L.drop (i + 4)) = some (k - (i + 4)) := by
                        have h5 := HEN2.out
                        rw [hdr3] at h5
                        have h6 := Pure.end_byte h5 (by omega) (by omega)
                        have h7 := Pure.end_byte h6 (by omega) (by omega)
                        rw [h7]; congr 1
                      have HDN := Lib.hid hdn
                      have HEN4 := Lib.hid hen4
                      have HY := Lib.hid hyn
                      have fa1 : decide ((48 : Int) ≤ (a.toNat : Int)) = true := decide_eq_true (by omega)
                      have fa2 : decide ((a.toNat : Int) ≤ 55) = true := decide_eq_true (by omega)
                      have fb1 : decide ((48 : Int) ≤ (b.toNat : Int)) = true := decide_eq_true (by omega)
                      have fb2 : decide ((b.toNat : Int) ≤ 55) = true := decide_eq_true (by omega)
                      clear hdn hdec htk3 hdr3 ha hb hen4 hyn hy
                      go_wp2_with fail
                      have w11 : IntKind.i64.wrap ((i : Int) + 1 + 1) = (i : Int) + 1 + 1 := IntWalk.i64_in _ (by omega)
                      have w12 : IntKind.i64.wrap ((i : Int) + 1 + 2) = (i : Int) + 1 + 2 := IntWalk.i64_in _ (by omega)
                      have hgd : Grew wr wr.drew := Below.drew (Below.refl _ _)
                      refine wp_region_held_drew (S := fun w' => True) (by kernel_rfl) (by trivial) (fun hHeld => ?_)
                      first
                        | (refine wpAnyH_take (i := 0) (v := ?_) rfl (by kernel_rfl) (by kernel_rfl) (by kernel_rfl) (fun _ _ _ h => h) (Or.inl ⟨by rfl, ?_⟩) (by assumption) ?_; rotate_left 1; focus (intro w hSw; (try dsimp only at hSw); go_simp; (try with_reducible rfl)))
                        | fail
                      try simp only [Act.put, List.getElem_toArray, List.getElem_cons_succ, List.getElem_cons_zero, List.setIfInBounds_toArray, List.set_cons_zero, List.set_cons_succ]
                      first
                        | (refine wpAnyH_take (i := 1) (v := ?_) rfl (by kernel_rfl) (by kernel_rfl) (by kernel_rfl) (fun _ _ _ h => h) (Or.inl ⟨by rfl, ?_⟩) (by assumption) ?_; rotate_left 1; focus (intro w hSw; (try dsimp only at hSw); go_simp; (try with_reducible rfl)))
                        | fail
                      try simp only [Act.put, List.getElem_toArray, List.getElem_cons_succ, List.getElem_cons_zero, List.setIfInBounds_toArray, List.set_cons_zero, List.set_cons_succ]
                      first
                        | (refine wpAnyH_take (i := 2) (v := ?_) rfl (by kernel_rfl) (by kernel_rfl) (by kernel_rfl) (fun _ _ _ h => h) (Or.inl ⟨by rfl, ?_⟩) (by assumption) ?_; rotate_left 1; focus (intro w hSw; (try dsimp only at hSw); go_simp; (try with_reducible rfl)))
                        | fail
                      try simp only [Act.put, List.getElem_toArray, List.getElem_cons_succ, List.getElem_cons_zero, List.setIfInBounds_toArray, List.set_cons_zero, List.set_cons_succ]
                      first
                        | (refine wpAnyH_take (i := 3) (v := ?_) rfl (by kernel_rfl) (by kernel_rfl) (by kernel_rfl) (fun _ _ _ h => h) (Or.inl ⟨by rfl, ?_⟩) (by assumption) ?_; rotate_left 1; focus (intro w hSw; (try dsimp only at hSw); go_simp; (try with_reducible rfl)))
                        | fail
                      try simp only [Act.put, List.getElem_toArray, List.getElem_cons_succ, List.getElem_cons_zero, List.setIfInBounds_toArray, List.set_cons_zero, List.set_cons_succ]
                      first
                        | (refine wpAnyH_take (i := 4) (v := ?_) rfl (by kernel_rfl) (by kernel_rfl) (by kernel_rfl) (fun _ _ _ h => h) (Or.inl ⟨by rfl, ?_⟩) (by assumption) ?_; rotate_left 1; focus (intro w hSw; (try dsimp only at hSw); go_simp; (try with_reducible rfl)))
                        | fail
                      try simp only [Act.put, List.getElem_toArray, List.getElem_cons_succ, List.getElem_cons_zero, List.setIfInBounds_toArray, List.set_cons_zero, List.set_cons_succ]
                      first
                        | (refine wpAnyH_take (i := 5) (v := ?_) rfl (by kernel_rfl) (by kernel_rfl) (by kernel_rfl) (fun _ _ _ h => h) (Or.inl ⟨by rfl, ?_⟩) (by assumption) ?_; rotate_left 1; focus (intro w hSw; (try dsimp only at hSw); go_simp; (try with_reducible rfl)))
                        | fail
                      try simp only [Act.put, List.getElem_toArray, List.getElem_cons_succ, List.getElem_cons_zero, List.setIfInBounds_toArray, List.set_cons_zero, List.set_cons_succ]
                      first
                        | (refine wpAnyH_take (i := 6) (v := ?_) rfl (by kernel_rfl) (by kernel_rfl) (by kernel_rfl) (fun _ _ _ h => h) (Or.inl ⟨by rfl, ?_⟩) (by assumption) ?_; rotate_left 1; focus (intro w hSw; (try dsimp only at hSw); go_simp; (try with_reducible rfl)))
                        | fail
                      try simp only [Act.put, List.getElem_toArray, List.getElem_cons_succ, List.getElem_cons_zero, List.setIfInBounds_toArray, List.set_cons_zero, List.set_cons_succ]
                      first
                        | (refine wpAnyH_take (i := 7) (v := ?_) rfl (by kernel_rfl) (by kernel_rfl) (by kernel_rfl) (fun _ _ _ h => h) (Or.inl ⟨by rfl, ?_⟩) (by assumption) ?_; rotate_left 1; focus (intro w hSw; (try dsimp only at hSw); go_simp; (try with_reducible rfl)))
                        | fail
                      try simp only [Act.put, List.getElem_toArray, List.getElem_cons_succ, List.getElem_cons_zero, List.setIfInBounds_toArray, List.set_cons_zero, List.set_cons_succ]
                      first
                        | (refine wpAnyH_take (i := 8) (v := ?_) rfl (by kernel_rfl) (by kernel_rfl) (by kernel_rfl) (fun _ _ _ h => h) (Or.inl ⟨by rfl, ?_⟩) (by assumption) ?_; rotate_left 1; focus (intro w hSw; (try dsimp only at hSw); go_simp; (try with_reducible rfl)))
                        | fail
                      try simp only [Act.put, List.getElem_toArray, List.getElem_cons_succ, List.getElem_cons_zero, List.setIfInBounds_toArray, List.set_cons_zero, List.set_cons_succ]
                      first
                        | (refine wpAnyH_take (i := 9) (v := ?_) rfl (by kernel_rfl) (by kernel_rfl) (by kernel_rfl) (fun _ _ _ h => h) (Or.inl ⟨by rfl, ?_⟩) (by assumption) ?_; rotate_left 1; focus (intro w hSw; (try dsimp only at hSw); go_simp; (try with_reducible rfl)))
                        | fail
                      try simp only [Act.put, List.getElem_toArray, List.getElem_cons_succ, List.getElem_cons_zero, List.setIfInBounds_toArray, List.set_cons_zero, List.set_cons_succ]
                      first
                        | (refine wpAnyH_take (i := 10) (v := ?_) rfl (by kernel_rfl) (by kernel_rfl) (by kernel_rfl) (fun _ _ _ h => h) (Or.inl ⟨by rfl, ?_⟩) (by assumption) ?_; rotate_left 1; focus (intro w hSw; (try dsimp only at hSw); go_simp; (try with_reducible rfl)))
                        | fail
                      try simp only [Act.put, List.getElem_toArray, List.getElem_cons_succ, List.getElem_cons_zero, List.setIfInBounds_toArray, List.set_cons_zero, List.set_cons_succ]
                      first
                        | (refine wpAnyH_take (i := 11) (v := ?_) rfl (by kernel_rfl) (by kernel_rfl) (by kernel_rfl) (fun _ _ _ h => h) (Or.inl ⟨by rfl, ?_⟩) (by assumption) ?_; rotate_left 1; focus (intro w hSw; (try dsimp only at hSw); go_simp; (try with_reducible rfl)))
                        | fail
                      try simp only [Act.put, List.getElem_toArray, List.getElem_cons_succ, List.getElem_cons_zero, List.setIfInBounds_toArray, List.set_cons_zero, List.set_cons_succ]
                      first
                        | (refine wpAnyH_take (i := 12) (v := ?_) rfl (by kernel_rfl) (by kernel_rfl) (by kernel_rfl) (fun _ _ _ h => h) (Or.inl ⟨by rfl, ?_⟩) (by assumption) ?_; rotate_left 1; focus (intro w hSw; (try dsimp only at hSw); go_simp; (try with_reducible rfl)))
                        | fail
                      try simp only [Act.put, List.getElem_toArray, List.getElem_cons_succ, List.getElem_cons_zero, List.setIfInBounds_toArray, List.set_cons_zero, List.set_cons_succ]
                      first
                        | (refine wpAnyH_take (i := 13) (v := ?_) rfl (by kernel_rfl) (by kernel_rfl) (by kernel_rfl) (fun _ _ _ h => h) (Or.inl ⟨by rfl, ?_⟩) (by assumption) ?_; rotate_left 1; focus (intro w hSw; (try dsimp only at hSw); go_simp; (try with_reducible rfl)))
                        | fail
                      try simp only [Act.put, List.getElem_toArray, List.getElem_cons_succ, List.getElem_cons_zero, List.setIfInBounds_toArray, List.set_cons_zero, List.set_cons_succ]
                      first
                        | (refine wpAnyH_take (i := 14) (v := ?_) rfl (by kernel_rfl) (by kernel_rfl) (by kernel_rfl) (fun _ _ _ h => h) (Or.inl ⟨by rfl, ?_⟩) (by assumption) ?_; rotate_left 1; focus (intro w hSw; (try dsimp only at hSw); go_simp; (try with_reducible rfl)))
                        | fail
                      try simp only [Act.put, List.getElem_toArray, List.getElem_cons_succ, List.getElem_cons_zero, List.setIfInBounds_toArray, List.set_cons_zero, List.set_cons_succ]
                      first
                        | (refine wpAnyH_take (i := 15) (v := ?_) rfl (by kernel_rfl) (by kernel_rfl) (by kernel_rfl) (fun _ _ _ h => h) (Or.inl ⟨by rfl, ?_⟩) (by assumption) ?_; rotate_left 1; focus (intro w hSw; (try dsimp only at hSw); go_simp; (try with_reducible rfl)))
                        | fail
                      try simp only [Act.put, List.getElem_toArray, List.getElem_cons_succ, List.getElem_cons_zero, List.setIfInBounds_toArray, List.set_cons_zero, List.set_cons_succ]
                      first
                        | (refine wpAnyH_take (i := 16) (v := ?_) rfl (by kernel_rfl) (by kernel_rfl) (by kernel_rfl) (fun _ _ _ h => h) (Or.inl ⟨by rfl, ?_⟩) (by assumption) ?_; rotate_left 1; focus (intro w hSw; (try dsimp only at hSw); go_simp; (try with_reducible rfl)))
                        | fail
                      try simp only [Act.put, List.getElem_toArray, List.getElem_cons_succ, List.getElem_cons_zero, List.setIfInBounds_toArray, List.set_cons_zero, List.set_cons_succ]
                      refine wpAnyH_ready (rs := [17]) (by kernel_rfl) (by simp) ?_
                      refine AllReadyH.cons rfl (fun K hK => ?_) AllReadyH.nil
                      go_simp
                      skip
                      go_wp2_with fail
                      refine hK.out _ _ (by trivial) (fun hHeld => ?_)
                      clear hK K
                      try simp only [Act.put, List.getElem_toArray, List.getElem_cons_succ, List.getElem_cons_zero, List.setIfInBounds_toArray, List.set_cons_zero, List.set_cons_succ]
                      refine wpAnyH_ready (rs := [18]) (by kernel_rfl) (by simp) ?_
                      refine AllReadyH.cons rfl (fun K hK => ?_) AllReadyH.nil
                      (refine step_append_B rfl _ _ rfl B _ acc [y] _ 1 rfl rfl ((how.below hgd).below ((Below.refl _ _).alloc (Nat.le_refl _) _)) (Rd.oneZQ wr.drew _ y _ (by rw [HY.out]; exact oct_or d a b ⟨k48, k51⟩ ⟨a1, a2⟩ ⟨b1, b2⟩)) (by simp; omega) (by simp; omega) ?_; intro v5 W5 how5 hb5 hgb5)
                      refine hK.out _ _ (by trivial) (fun hHeld => ?_)
                      clear hK K
                      try simp only [Act.put, List.getElem_toArray, List.getElem_cons_succ, List.getElem_cons_zero, List.setIfInBounds_toArray, List.set_cons_zero, List.set_cons_succ]
                      first
                        | (refine wpAnyH_take (i := 19) (v := ?_) rfl (by kernel_rfl) (by kernel_rfl) (by kernel_rfl) (fun _ _ _ h => h) (Or.inl ⟨by rfl, ?_⟩) (by assumption) ?_; rotate_left 1; focus (intro w hSw; (try dsimp only at hSw); go_simp; (try with_reducible rfl)))
                        | fail
                      try simp only [Act.put, List.getElem_toArray, List.getElem_cons_succ, List.getElem_cons_zero, List.setIfInBounds_toArray, List.set_cons_zero, List.set_cons_succ]
                      refine wpAnyH_done (by kernel_rfl) ?_ _
                      have gv5 : Grew w W5 := ((hgx.trans' hgd).trans' ((Below.refl _ _).alloc (Nat.le_refl _) _)).trans (by rw [← HB.out] at hb5; exact hb5)
                      clear hb5 hgb5
                      go_wp2
                      go_roundw
                      case rel => exact ⟨i + 4, acc ++ [y], by omega, by omega, by simp; omega, by go_num, how5, gv5, HDN, HEN4⟩
                      case measure => simp [intOf]; omega
                    · have hdn : Pure.dec2 ((L.drop 1).take (k - 1)) = (acc ++ [d]) ++ Pure.dec2 ((L.drop (i + 2)).take (k - (i + 2))) := by
                        rw [hdec.out, HTK.out, Pure.dec2_else h110 h116]
                        · simp
                        · intro a' b' r e
                          rw [htk3] at e
                          cases e
                          intro h; exact hoct h.2
                      have HDN := Lib.hid hdn
                      clear hdn hdec htk3 hdr3 ha hb
                      have hways2 : (a.toNat < 48) ∨ (48 ≤ a.toNat ∧ 55 < a.toNat) ∨ ((48 ≤ a.toNat ∧ a.toNat ≤ 55) ∧ b.toNat < 48) ∨ (((48 ≤ a.toNat ∧ a.toNat ≤ 55) ∧ 48 ≤ b.toNat) ∧ 55 < b.toNat) := by omega
                      clear hoct
                      rcases hways2 with h1 | ⟨h1, h2⟩ | ⟨⟨h1, h2⟩, h3⟩ | ⟨⟨⟨h1, h2⟩, h3⟩, h4⟩
                      · have fa1 : decide ((48 : Int) ≤ (a.toNat : Int)) = false := decide_eq_false (by omega)
                        have na1 : ¬ 48 ≤ a.toNat := by omega
                        go_wp2_with (at_builtin; refine wpList_append_B rfl _ _ rfl B _ acc [d] _ 1 rfl rfl (how.below ((Below.refl _ _).alloc (Nat.le_refl _) _)) (Rd.oneZQ wr _ d _ (by rfl)) (by simp; omega) (by simp; omega) ?_)
                        intro v5 W5 how5 hb5 hgb5
                        have gv5 : Grew w W5 := (hgx.trans' ((Below.refl _ _).alloc (Nat.le_refl _) _)).trans (by rw [← HB.out] at hb5; exact hb5)
                        clear hb5 hgb5
                        go_wp2
                        go_roundw
                        case rel => exact ⟨i + 2, acc ++ [d], by omega, by omega, by simp; omega, by go_num, how5, gv5, HDN, HEN2⟩
                        case measure => simp [intOf]; omega
                      · have fa1 : decide ((48 : Int) ≤ (a.toNat : Int)) = true := decide_eq_true (by omega)
                        have fa2 : decide ((a.toNat : Int) ≤ 55) = false := decide_eq_false (by omega)
                        have na2 : ¬ a.toNat ≤ 55 := by omega
                        go_wp2_with (at_builtin; refine wpList_append_B rfl _ _ rfl B _ acc [d] _ 1 rfl rfl (how.below ((Below.refl _ _).alloc (Nat.le_refl _) _)) (Rd.oneZQ wr _ d _ (by rfl)) (by simp; omega) (by simp; omega) ?_)
                        intro v5 W5 how5 hb5 hgb5
                        have gv5 : Grew w W5 := (hgx.trans' ((Below.refl _ _).alloc (Nat.le_refl _) _)).trans (by rw [← HB.out] at hb5; exact hb5)
                        clear hb5 hgb5
                        go_wp2
                        go_roundw
                        case rel => exact ⟨i + 2, acc ++ [d], by omega, by omega, by simp; omega, by go_num, how5, gv5, HDN, HEN2⟩
                        case measure => simp [intOf]; omega
                      · have fa1 : decide ((48 : Int) ≤ (a.toNat : Int)) = true := decide_eq_true (by omega)
                        have fa2 : decide ((a.toNat : Int) ≤ 55) = true := decide_eq_true (by omega)
                        have fb1 : decide ((48 : Int) ≤ (b.toNat : Int)) = false := decide_eq_false (by omega)
                        have nb1 : ¬ 48 ≤ b.toNat := by omega
                        go_wp2_with (at_builtin; refine wpList_append_B rfl _ _ rfl B _ acc [d] _ 1 rfl rfl (how.below ((Below.refl _ _).alloc (Nat.le_refl _) _)) (Rd.oneZQ wr _ d _ (by rfl)) (by simp; omega) (by simp; omega) ?_)
                        intro v5 W5 how5 hb5 hgb5
                        have gv5 : Grew w W5 := (hgx.trans' ((Below.refl _ _).alloc (Nat.le_refl _) _)).trans (by rw [← HB.out] at hb5; exact hb5)
                        clear hb5 hgb5
                        go_wp2
                        go_roundw
                        case rel => exact ⟨i + 2, acc ++ [d], by omega, by omega, by simp; omega, by go_num, how5, gv5, HDN, HEN2⟩
                        case measure => simp [intOf]; omega
                      · have fa1 : decide ((48 : Int) ≤ (a.toNat : Int)) = true := decide_eq_true (by omega)
                        have fa2 : decide ((a.toNat : Int) ≤ 55) = true := decide_eq_true (by omega)
                        have fb1 : decide ((48 : Int) ≤ (b.toNat : Int)) = true := decide_eq_true (by omega)
                        have fb2 : decide ((b.toNat : Int) ≤ 55) = false := decide_eq_false (by omega)
                        have nb2 : ¬ b.toNat ≤ 55 := by omega
                        go_wp2_with (at_builtin; refine wpList_append_B rfl _ _ rfl B _ acc [d] _ 1 rfl rfl (how.below ((Below.refl _ _).alloc (Nat.le_refl _) _)) (Rd.oneZQ wr _ d _ (by rfl)) (by simp; omega) (by simp; omega) ?_)
                        intro v5 W5 how5 hb5 hgb5
                        have gv5 : Grew w W5 := (hgx.trans' ((Below.refl _ _).alloc (Nat.le_refl _) _)).trans (by rw [← HB.out] at hb5; exact hb5)
                        clear hb5 hgb5
                        go_wp2
                        go_roundw
                        case rel => exact ⟨i + 2, acc ++ [d], by omega, by omega, by simp; omega, by go_num, how5, gv5, HDN, HEN2⟩
                        case measure => simp [intOf]; omega
            · have m92 : ((x.toNat : Int) != 92) = true := by rw [bne_iff_ne]; omega
              have hen2 := hend.out
              rw [hdx] at hen2
              have hen3 := Pure.end_byte hen2 (by omega) hx92
              rw [show k - i - 1 = k - (i + 1) by omega] at hen3
              have hdn : Pure.dec2 ((L.drop 1).take (k - 1)) = (acc ++ [x]) ++ Pure.dec2 ((L.drop (i + 1)).take (k - (i + 1))) := by rw [hdec.out, drop_take_at hx hil, Pure.dec2_byte hx92]; simp
              have HDN := Lib.hid hdn
              have HEN2 := Lib.hid hen3
              clear hdn hdec hen2 hen3 hx hdx hrd hlc hx92
              go_wp2_with (at_builtin; refine wpList_append_B rfl _ _ rfl B _ acc [x] _ 1 rfl rfl (how.below ((Below.refl _ _).alloc (Nat.le_refl _) _)) (Rd.oneZQ wr _ x _ (by rfl)) (by simp; omega) (by simp; omega) ?_)
              intro v5 W5 how5 hb5 hgb5
              have gv5 : Grew w W5 := (hgx.trans' ((Below.refl _ _).alloc (Nat.le_refl _) _)).trans (by rw [← HB.out] at hb5; exact hb5)
              clear hb5 hgb5
              go_wp2
              go_roundw
              case rel => exact ⟨i + 1, acc ++ [x], by omega, by omega, by simp; omega, by go_num, how5, gv5, HDN, HEN2⟩
              case measure => simp [intOf]; omega
          · obtain rfl : i = k := by omega
            have fi : decide ((i : Int) < (i : Int)) = false := decide_eq_false (by omega)
            have hMs : Pure.dec2 ((L.drop 1).take (i - 1)) = acc := by rw [hdec.out, Nat.sub_self, List.take_zero, Pure.dec2_nil, List.append_nil]
            have hfin : refV L = if Pure.quoteP acc = L.take (i + 1) then .tuple #[.string ⟨acc.toArray⟩, .int .i64 ((i + 1 : Nat) : Int), .int .i64 0] else .tuple #[.string ⟨#[]⟩, .int .i64 0, .int .i64 4] := by rw [HR.out, hMs]
            have HF := Lib.hid hfin
            have hal2 : (⟨acc.toArray⟩ : ByteArray).size = acc.length := by show acc.toArray.size = _; simp
            obtain ⟨AC, hAC⟩ : ∃ AC : ByteArray, (⟨acc.toArray⟩ : ByteArray) = AC := ⟨_, rfl⟩
            have hACl : AC.data.toList = acc := by rw [← hAC]
            have kconv : ∀ W, Grew wr W → (convert 25 9 (.slice p acc.length cp)).run Tryd.prog W = .ok (.string AC) W := fun W g => by rw [← hAC]; exact conv_string cp (hrd.below g (Nat.le_refl _))
            have cQ := fun W (g : Grew wr W) => ref_Quote AC W (by rw [← hAC, hal2]; omega)
            rw [hACl] at cQ
            obtain ⟨Q, hQ⟩ : ∃ Q, (⟨(Pure.quoteP acc).toArray⟩ : ByteArray) = Q := ⟨_, rfl⟩
            simp only [hQ] at cQ
            have hQl : Q.data.toList = Pure.quoteP acc := by rw [← hQ]
            obtain ⟨D, hD⟩ : ∃ D, s.extract 0 (i + 1) = D := ⟨_, rfl⟩
            have hDl : D.data.toList = L.take (i + 1) := by rw [← hD, extract_listQ, HL.out]; rfl
            have HAC := Lib.hid hAC
            have n3 : (0 : Int) ≤ (i : Int) + 1 := by omega
            have n4 : (i : Int) + 1 ≤ (s.size : Int) := by omega
            have hwn : IntKind.i64.wrap ((i : Int) + 1) = (i : Int) + 1 := IntWalk.i64_in _ (by omega)
            have hgd : Grew wr wr.drew := Below.drew (Below.refl _ _)
            have hrr : Grew wr wr := Below.refl _ _
            have kc0 := kconv _ hrr
            by_cases hq : Pure.quoteP acc = L.take (i + 1)
            · have hQD : Q = D := ba_extQ (by rw [hQl, hq, hDl])
              have hfin2 : refV L = .tuple #[.string AC, .int .i64 ((i + 1 : Nat) : Int), .int .i64 0] := by rw [HF.out, if_pos hq, HAC.out]
              have HF2 := Lib.hid hfin2
              subst hQD
              clear hfin2 hfin hMs hq hQl hDl hQ hACl hAC hal2 hdec hend
              go_wp2
              refine wp_region_held_drew (S := fun w' => Grew wr w') (by kernel_rfl) (by first | assumption | exact Below.drew (by assumption)) (fun hHeld => ?_)
              first
                | (refine wpAnyH_take (i := 0) (v := ?_) rfl (by kernel_rfl) (by kernel_rfl) (by kernel_rfl) (fun _ _ _ h => h) (Or.inl ⟨by rfl, ?_⟩) (by assumption) ?_; rotate_left 1; focus (intro w hSw; (try dsimp only at hSw); go_simp; (try with_reducible rfl)))
                | fail
              try simp only [Act.put, List.getElem_toArray, List.getElem_cons_succ, List.getElem_cons_zero, List.setIfInBounds_toArray, List.set_cons_zero, List.set_cons_succ]
              first
                | (refine wpAnyH_take (i := 1) (v := (.string AC)) rfl (by kernel_rfl) (by kernel_rfl) (by kernel_rfl) (fun _ _ _ h => h) (Or.inl ⟨by rfl, fun w hSw => (by (try dsimp only at hSw); have kc := kconv _ hSw; go_simp)⟩) (by assumption) ?_)
                | fail
              try simp only [Act.put, List.getElem_toArray, List.getElem_cons_succ, List.getElem_cons_zero, List.setIfInBounds_toArray, List.set_cons_zero, List.set_cons_succ]
              first
                | (refine wpAnyH_take (i := 3) (v := ?_) rfl (by kernel_rfl) (by kernel_rfl) (by kernel_rfl) (fun _ _ _ h => h) (Or.inl ⟨by rfl, ?_⟩) (by assumption) ?_; rotate_left 1; focus (intro w hSw; (try dsimp only at hSw); go_simp; (try with_reducible rfl)))
                | fail
              try simp only [Act.put, List.getElem_toArray, List.getElem_cons_succ, List.getElem_cons_zero, List.setIfInBounds_toArray, List.set_cons_zero, List.set_cons_succ]
              first
                | (refine wpAnyH_take (i := 4) (v := ?_) rfl (by kernel_rfl) (by kernel_rfl) (by kernel_rfl) (fun _ _ _ h => h) (Or.inl ⟨by rfl, ?_⟩) (by assumption) ?_; rotate_left 1; focus (intro w hSw; (try dsimp only at hSw); go_simp; (try with_reducible rfl)))
                | fail
              try simp only [Act.put, List.getElem_toArray, List.getElem_cons_succ, List.getElem_cons_zero, List.setIfInBounds_toArray, List.set_cons_zero, List.set_cons_succ]
              first
                | (refine wpAnyH_take (i := 5) (v := ?_) rfl (by kernel_rfl) (by kernel_rfl) (by kernel_rfl) (fun _ _ _ h => h) (Or.inl ⟨by rfl, ?_⟩) (by assumption) ?_; rotate_left 1; focus (intro w hSw; (try dsimp only at hSw); go_simp; (try with_reducible rfl)))
                | fail
              try simp only [Act.put, List.getElem_toArray, List.getElem_cons_succ, List.getElem_cons_zero, List.setIfInBounds_toArray, List.set_cons_zero, List.set_cons_succ]
              first
                | (refine wpAnyH_take (i := 6) (v := ?_) rfl (by kernel_rfl) (by kernel_rfl) (by kernel_rfl) (fun _ _ _ h => h) (Or.inl ⟨by rfl, ?_⟩) (by assumption) ?_; rotate_left 1; focus (intro w hSw; (try dsimp only at hSw); go_simp; (try with_reducible rfl)))
                | fail
              try simp only [Act.put, List.getElem_toArray, List.getElem_cons_succ, List.getElem_cons_zero, List.setIfInBounds_toArray, List.set_cons_zero, List.set_cons_succ]
              refine wpAnyH_ready (rs := [2]) (by kernel_rfl) (by simp) ?_
              refine AllReadyH.cons rfl (fun K hK => ?_) AllReadyH.nil
              go_simp
              (go_at_call 16; with_reducible refine (cQ _ (by first | assumption | exact Below.drew (by assumption))).mono ?_; rintro e1 W1 ⟨rfl, g1⟩; replace g1 := Grew.trans' (a := wr) (by first | assumption | exact Below.drew (by assumption)) g1)
              go_wp2_with fail
              refine hK.out _ _ (by first | assumption | exact Below.drew (by assumption)) (fun hHeld => ?_)
              clear hK K
              try simp only [Act.put, List.getElem_toArray, List.getElem_cons_succ, List.getElem_cons_zero, List.setIfInBounds_toArray, List.set_cons_zero, List.set_cons_succ]
              first
                | (refine wpAnyH_take (i := 7) (v := ?_) rfl (by kernel_rfl) (by kernel_rfl) (by kernel_rfl) (fun _ _ _ h => h) (Or.inl ⟨by rfl, ?_⟩) (by assumption) ?_; rotate_left 1; focus (intro w hSw; (try dsimp only at hSw); go_simp; (try with_reducible rfl)))
                | fail
              try simp only [Act.put, List.getElem_toArray, List.getElem_cons_succ, List.getElem_cons_zero, List.setIfInBounds_toArray, List.set_cons_zero, List.set_cons_succ]
              refine wpAnyH_done (by kernel_rfl) ?_ _
              have kc1 := kconv _ (by assumption)
              go_wp2
              go_ret3
              exact ⟨by rw [HF2.out]; rfl, Grew.trans' hgx (by assumption)⟩
            · have hQD : Q ≠ D := fun h => hq (by rw [← hQl, h, hDl])
              have n5 : (Q.toList == D.toList) = false := by rw [beq_eq_false_iff_ne]; intro e; rw [ByteArray.toList_eq, ByteArray.toList_eq] at e; exact hQD (ba_extQ e)
              have n6 : (Q.toList != D.toList) = true := by rw [bne, n5]; rfl
              have hfin2 : refV L = .tuple #[.string ⟨#[]⟩, .int .i64 0, .int .i64 4] := by rw [HF.out, if_neg hq]
              have HF2 := Lib.hid hfin2
              clear hfin2 hfin hMs hq hQl hDl hQ hACl hAC hal2 hdec hend hQD
              go_wp2
              refine wp_region_held_drew (S := fun w' => Grew wr w') (by kernel_rfl) (by first | assumption | exact Below.drew (by assumption)) (fun hHeld => ?_)
              first
                | (refine wpAnyH_take (i := 0) (v := ?_) rfl (by kernel_rfl) (by kernel_rfl) (by kernel_rfl) (fun _ _ _ h => h) (Or.inl ⟨by rfl, ?_⟩) (by assumption) ?_; rotate_left 1; focus (intro w hSw; (try dsimp only at hSw); go_simp; (try with_reducible rfl)))
                | fail
              try simp only [Act.put, List.getElem_toArray, List.getElem_cons_succ, List.getElem_cons_zero, List.setIfInBounds_toArray, List.set_cons_zero, List.set_cons_succ]
              first
                | (refine wpAnyH_take (i := 1) (v := (.string AC)) rfl (by kernel_rfl) (by kernel_rfl) (by kernel_rfl) (fun _ _ _ h => h) (Or.inl ⟨by rfl, fun w hSw => (by (try dsimp only at hSw); have kc := kconv _ hSw; go_simp)⟩) (by assumption) ?_)
                | fail
              try simp only [Act.put, List.getElem_toArray, List.getElem_cons_succ, List.getElem_cons_zero, List.setIfInBounds_toArray, List.set_cons_zero, List.set_cons_succ]
              first
                | (refine wpAnyH_take (i := 3) (v := ?_) rfl (by kernel_rfl) (by kernel_rfl) (by kernel_rfl) (fun _ _ _ h => h) (Or.inl ⟨by rfl, ?_⟩) (by assumption) ?_; rotate_left 1; focus (intro w hSw; (try dsimp only at hSw); go_simp; (try with_reducible rfl)))
                | fail
              try simp only [Act.put, List.getElem_toArray, List.getElem_cons_succ, List.getElem_cons_zero, List.setIfInBounds_toArray, List.set_cons_zero, List.set_cons_succ]
              first
                | (refine wpAnyH_take (i := 4) (v := ?_) rfl (by kernel_rfl) (by kernel_rfl) (by kernel_rfl) (fun _ _ _ h => h) (Or.inl ⟨by rfl, ?_⟩) (by assumption) ?_; rotate_left 1; focus (intro w hSw; (try dsimp only at hSw); go_simp; (try with_reducible rfl)))
                | fail
              try simp only [Act.put, List.getElem_toArray, List.getElem_cons_succ, List.getElem_cons_zero, List.setIfInBounds_toArray, List.set_cons_zero, List.set_cons_succ]
              first
                | (refine wpAnyH_take (i := 5) (v := ?_) rfl (by kernel_rfl) (by kernel_rfl) (by kernel_rfl) (fun _ _ _ h => h) (Or.inl ⟨by rfl, ?_⟩) (by assumption) ?_; rotate_left 1; focus (intro w hSw; (try dsimp only at hSw); go_simp; (try with_reducible rfl)))
                | fail
              try simp only [Act.put, List.getElem_toArray, List.getElem_cons_succ, List.getElem_cons_zero, List.setIfInBounds_toArray, List.set_cons_zero, List.set_cons_succ]
              first
                | (refine wpAnyH_take (i := 6) (v := ?_) rfl (by kernel_rfl) (by kernel_rfl) (by kernel_rfl) (fun _ _ _ h => h) (Or.inl ⟨by rfl, ?_⟩) (by assumption) ?_; rotate_left 1; focus (intro w hSw; (try dsimp only at hSw); go_simp; (try with_reducible rfl)))
                | fail
              try simp only [Act.put, List.getElem_toArray, List.getElem_cons_succ, List.getElem_cons_zero, List.setIfInBounds_toArray, List.set_cons_zero, List.set_cons_succ]
              refine wpAnyH_ready (rs := [2]) (by kernel_rfl) (by simp) ?_
              refine AllReadyH.cons rfl (fun K hK => ?_) AllReadyH.nil
              go_simp
              (go_at_call 16; with_reducible refine (cQ _ (by first | assumption | exact Below.drew (by assumption))).mono ?_; rintro e1 W1 ⟨rfl, g1⟩; replace g1 := Grew.trans' (a := wr) (by first | assumption | exact Below.drew (by assumption)) g1)
              go_wp2_with fail
              refine hK.out _ _ (by first | assumption | exact Below.drew (by assumption)) (fun hHeld => ?_)
              clear hK K
              try simp only [Act.put, List.getElem_toArray, List.getElem_cons_succ, List.getElem_cons_zero, List.setIfInBounds_toArray, List.set_cons_zero, List.set_cons_succ]
              first
                | (refine wpAnyH_take (i := 7) (v := ?_) rfl (by kernel_rfl) (by kernel_rfl) (by kernel_rfl) (fun _ _ _ h => h) (Or.inl ⟨by rfl, ?_⟩) (by assumption) ?_; rotate_left 1; focus (intro w hSw; (try dsimp only at hSw); go_simp; (try with_reducible rfl)))
                | fail
              try simp only [Act.put, List.getElem_toArray, List.getElem_cons_succ, List.getElem_cons_zero, List.setIfInBounds_toArray, List.set_cons_zero, List.set_cons_succ]
              refine wpAnyH_done (by kernel_rfl) ?_ _
              go_wp2
              go_ret3
              exact ⟨by rw [HF2.out]; rfl, Grew.trans' hgx (by assumption)⟩
      · have m34 : ((c.toNat : Int) != 34) = true := by rw [bne_iff_ne]; omega
        by_cases h92 : c.toNat = 92
        · have e92 : ((c.toNat : Int) == 92) = true := by rw [beq_iff_eq]; omega
          have hn : Pure.endF (L.drop 1) = (Pure.endF (L.drop (k + 1 + 1))).map (· + (k + 1 + 1 - 1)) := by
            rw [hE.out, HD.out]
            by_cases hl2 : k + 1 < s.size
            · obtain ⟨d, hd⟩ : ∃ d, L[k + 1]? = some d := ⟨_, List.getElem?_eq_getElem (by rw [HSL.out]; exact hl2)⟩
              rw [drop_at hd, Pure.end_esc _ _ _ h92, Option.map_map]
              congr 1
              funext x
              simp only [Function.comp]
              omega
            · have q1 : L.drop (k + 1) = [] := List.drop_of_length_le (by rw [HSL.out]; omega)
              have q2 : L.drop (k + 1 + 1) = [] := List.drop_of_length_le (by rw [HSL.out]; omega)
              rw [q1, q2, Pure.end_esc1 _ h92]
              rfl
          have HN := Lib.hid hn
          clear hn hE
          go_wp2
          go_roundw
          case rel => exact ⟨k + 1 + 1, by omega, by omega, by go_num, trivial, HN⟩
          case measure => simp [intOf]; omega
        · have e92 : ((c.toNat : Int) == 92) = false := by rw [beq_eq_false_iff_ne]; omega
          have hn : Pure.endF (L.drop 1) = (Pure.endF (L.drop (k + 1))).map (· + (k + 1 - 1)) := by
            rw [hE.out, HD.out, Pure.end_other _ _ h34 h92, Option.map_map]
            congr 1
            funext x
            simp only [Function.comp]
            omega
          have HN := Lib.hid hn
          clear hn hE
          go_wp2
          go_roundw
          case rel => exact ⟨k + 1, by omega, by omega, by go_num, trivial, HN⟩
          case measure => simp [intOf]; omega
    · have fk : decide ((k : Int) < (s.size : Int)) = false := decide_eq_false (by omega)
      have f2 : decide ((s.size : Int) ≤ (k : Int)) = true := decide_eq_true (by omega)
      have hres : refV L = .tuple #[.string ⟨#[]⟩, .int .i64 0, .int .i64 3] := by
        unfold refV Pure.unqR
        rw [if_pos HH.out, hE.out, List.drop_of_length_le (by rw [HSL.out]; omega)]
        rfl
      have HR := Lib.hid hres
      clear hres hE
      go_wp2
      go_ret3
      exact ⟨by rw [HR.out]; rfl, Below.refl _ _⟩

theorem ref_Unquote (s : ByteArray) (w : World) (hs : s.size ≤ 1073741824) :
    Calls Tryd.prog 15 #[.string s] w fun e w' => e = .returned (unqV s.data.toList) ∧ Grew w w' := by
  by_cases hh : s.data.toList.head? = some 34
  · refine (ref_Unquote_quoted s w hs hh).mono ?_
    rintro e W ⟨rfl, g⟩
    exact ⟨by unfold refV unqV; rw [Pure.unq_same], g⟩
  · rw [unq_plain hh]
    exact ref_Unquote_plain s w hs hh

end Go.Proofs.YtbdcncojiejdoaaDoor
