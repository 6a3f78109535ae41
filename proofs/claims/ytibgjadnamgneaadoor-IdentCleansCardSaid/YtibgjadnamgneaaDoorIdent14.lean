/- The reference's Clean: a text made clean. Conditions: the library's tables are laid; the text is at most 2^30 bytes long. -/
import Derived.Test.YtibgjadnamgneaaDoorIdent8
import Derived.Test.YtibgjadnamgneaaDoorIdent3
import Derived.Test.YtibgjadnamgneaaDoorDecode
import Derived.Test.YtibgjadnamgneaaDoorBuf
namespace Go.Proofs.YtibgjadnamgneaaDoor
set_option linter.unusedVariables false
set_option linter.unusedSimpArgs false
open Go.RowKit

/-- What is looked at of a text's first rune. -/
theorem keep_ways (l : List UInt8) (c : UInt8) (r : List UInt8) (hl : l = c :: r) : ∃ x n : Nat, Lib.decodeL l = (x, n) ∧ 1 ≤ n ∧ n ≤ l.length ∧
    ((x ≠ 65533 ∧ n = 1 ∧ Pure.keepU l = !(badI c)) ∨ (1 < n ∧ Pure.keepU l = true) ∨ (x = 65533 ∧ n = 1 ∧ Pure.keepU l = false)) := by
  have hne : l ≠ [] := by rw [hl]; simp
  have hle := Lib.decodeL_le l hne
  have hw := Lib.decodeL_width l
  have h0 : l.getD 0 0 = c := by rw [hl]; rfl
  refine ⟨(Lib.decodeL l).1, (Lib.decodeL l).2, rfl, hw, hle, ?_⟩
  rcases Pure.decodeL_shape l hne with ⟨h, e⟩ | ⟨h2, h1, -, -, -, -⟩ | ⟨-, e⟩
  · left
    unfold Pure.keepU
    rw [e, h0]
    rw [h0] at h
    refine ⟨by simp only; omega, rfl, ?_⟩
    show (!Pure.barR c.toNat && !(decide (c.toNat = 65533 ∧ 1 = 1))) = _
    rw [decide_eq_false (by omega), Bool.not_false, Bool.and_true]
    rfl
  · right; left
    refine ⟨by omega, ?_⟩
    unfold Pure.keepU Pure.barR
    have : ¬ ((Lib.decodeL l).1 = 65533 ∧ (Lib.decodeL l).2 = 1) := by omega
    simp [this]
    omega
  · right; right
    unfold Pure.keepU
    rw [e]
    exact ⟨rfl, rfl, by simp⟩
theorem byte_isC (a : UInt8) : ((a.toNat : Int) == 32) = decide (a = 32) := by
  rw [Bool.eq_iff_iff]
  simp only [beq_iff_eq, decide_eq_true_eq]
  exact ⟨fun h => UInt8.toNat_inj.1 (by show a.toNat = 32; omega), fun h => by rw [h]; rfl⟩
theorem trimL_blank (r : List UInt8) : Pure.trimL (32 :: r) = Pure.trimL r := by unfold Pure.trimL; rw [List.dropWhile_cons_of_pos (by rfl)]
theorem trimR_blank (l : List UInt8) (m : Nat) (h : l[m]? = some 32) : Pure.trimR (l.take (m + 1)) = Pure.trimR (l.take m) := by
  rw [List.take_add_one, h]
  show Pure.trimR (l.take m ++ [32]) = _
  rw [Pure.trimR_append, if_pos (by rfl)]
theorem trimR_stop (l : List UInt8) (m : Nat) (c : UInt8) (h : l[m]? = some c) (hc : c ≠ 32) : Pure.trimR (l.take (m + 1)) = l.take (m + 1) := by
  refine Pure.trimR_same ?_
  intro a e
  rw [List.take_add_one, h] at e
  have := congrArg List.getLast? e
  simp at this
  exact hc this
theorem flat_take (us1 us2 : List (List UInt8)) : (us1 ++ us2).flatten.take us1.flatten.length = us1.flatten := by rw [List.flatten_append, List.take_left]
def slLen : Value → Nat
  | .slice _ n _ => n
  | _ => 0
def strLen : Value → Nat
  | .string S => S.size
  | _ => 0

set_option maxRecDepth 100000 in
set_option maxHeartbeats 8000000 in
theorem ref06_Clean (s : ByteArray) (w : World) (hs : s.size ≤ 1073741824) (hu : U8Ok w) :
    Calls Tryd.prog 14 #[.string s] w fun e w' => e = .returned (.string ⟨(Pure.clean s.data.toList).toArray⟩) ∧ Grew w w' := by
  have g0 : Grew w w := Below.refl _ _
  have hsl : s.data.toList.length = s.size := Array.length_toList
  have HSL := Lib.hid hsl
  have HU := Lib.hid hu
  clear hsl hu
  go_enter Tryd.func14, Tryd.ntmps14
  go_wp2
  go_loopw [0, 3] (fun sv ov wr => ∃ (S : ByteArray) (pos : Nat) (pre : List UInt8) (v : Value), sv = .string S ∧ v = ov ∧ S.size + pos = s.size ∧ Hid (S.data.toList = s.data.toList.drop pos) ∧ OwnB wr w.heap.size v pre ∧ Grew w wr ∧ Hid (Kept s.data.toList pos pre)) (fun sv _ _ => strLen sv)
  case atStart => exact ⟨s, 0, [], _, rfl, rfl, rfl, Lib.hid rfl, OwnB.nil _ _, g0, Lib.hid ⟨rfl, Nat.le_refl _⟩⟩
  case round =>
    obtain ⟨S, pos, pre, v, rfl, rfl, hSs, hSL, hown, hg, hk⟩ := hrel
    by_cases h0 : 0 < S.size
    · have f1 : decide (0 < (S.size : Int)) = true := decide_eq_true (by omega)
      have hks := hk.out.step (by rw [HSL.out]; omega)
      have hpl := hk.out.2
      rw [← hSL.out] at hks
      obtain ⟨c, r, hcr⟩ : ∃ c r, S.data.toList = c :: r := by
        cases hq : S.data.toList with
        | nil => have : S.size = 0 := by rw [Lib.size_eq, hq]; rfl
                 omega
        | cons c r => exact ⟨c, r, rfl⟩
      obtain ⟨x, n, hd, hn1, hn2, hways⟩ := keep_ways S.data.toList c r hcr
      rw [← Lib.size_eq] at hn2
      rw [hd] at hks
      simp only at hks
      have hgo : Lib.decodeGo S = (x, n) := by
        unfold Lib.decodeGo
        rw [if_neg (by omega), ← hd, ← Lib.decodeL_drop, List.drop_zero]
      have cD := (fun W (g : Grew w W) => Tryd.utf8_DecodeRuneInString S W (u8_grew HU.out g) : ∀ W, Grew w W → _)
      rw [hgo] at cD
      simp only at cD
      have hc0 : ∀ W : World, (Instr.index 9 (.string S) (.int .i64 0)).run Tryd.prog W = .ok (.int .u8 (c.toNat : Int)) W := fun W => index_str S 0 c (by rw [hcr]; rfl) W
      have cB := fun W => ref_barred c W
      have hSn : (S.extract n S.size).size + (pos + n) = s.size := by rw [ByteArray.size_extract]; omega
      have hSnL : (S.extract n S.size).data.toList = s.data.toList.drop (pos + n) := by
        rw [extract_list, hSL.out, List.drop_drop]
        exact List.take_of_length_le (by rw [List.length_drop, HSL.out]; omega)
      have hSt : (S.extract 0 n).data.toList = S.data.toList.take n := by rw [extract_list]; simp
      obtain ⟨K, hK⟩ : ∃ K, Pure.keepU S.data.toList = K := ⟨_, rfl⟩
      rw [hK] at hks hways
      have HKS := Lib.hid hks
      have HSN := Lib.hid hSnL
      have HST := Lib.hid hSt
      have hms : strLen (.string (S.extract n S.size)) < strLen (.string S) := by
        show (S.extract n S.size).size < S.size
        rw [ByteArray.size_extract]; omega
      have HMS := Lib.hid hms
      clear hks hSnL hSt hms hd hgo hcr hK hSL hk
      have finish : ∀ (W' : World) (v' : Value) (pre' : List UInt8), OwnB W' w.heap.size v' pre' → Grew w W' → Kept s.data.toList (pos + n) pre' → ∃ (S' : ByteArray) (pos' : Nat) (pre'' : List UInt8) (v'' : Value), Value.string (S.extract n S.size) = .string S' ∧ v'' = v' ∧ S'.size + pos' = s.size ∧ Hid (S'.data.toList = s.data.toList.drop pos') ∧ OwnB W' w.heap.size v'' pre'' ∧ Grew w W' ∧ Hid (Kept s.data.toList pos' pre'') :=
        fun W' v' pre' h1 h2 h3 => ⟨_, pos + n, pre', v', rfl, rfl, hSn, HSN, h1, h2, Lib.hid h3⟩
      have HFIN := Lib.hid finish
      clear finish
      rcases hways with ⟨hx, hn, hk⟩ | ⟨hn, hk⟩ | ⟨hx, hn, hk⟩
      · obtain ⟨B, hB⟩ : ∃ B, badI c = B := ⟨_, rfl⟩
        rw [hB] at hk cB
        subst hn
        have f2 : ((x : Int) == 65533) = false := by rw [beq_eq_false_iff_ne]; omega
        have f2' : ((x : Int) != 65533) = true := by rw [bne_iff_ne]; omega
        cases B with
        | true =>
          subst hk
          clear hB
          go_wp2_with (first | (go_at_call 24; with_reducible refine (cD _ (by assumption)).mono ?_; rintro e1 W1 ⟨rfl, g1⟩; have gg1 : Grew w W1 := Grew.trans' (by assumption) g1) | (go_at_call 31; with_reducible refine (cB _).mono ?_; rintro e1 W1 ⟨rfl, h1⟩; subst W1))
          exact ⟨HFIN.out _ _ pre (hown.below (by assumption)) (by assumption) (by have := HKS.out; simpa using this), HMS.out⟩
        | false =>
          subst hk
          clear hB
          go_wp2_with (first | (go_at_call 24; with_reducible refine (cD _ (by assumption)).mono ?_; rintro e1 W1 ⟨rfl, g1⟩; have gg1 : Grew w W1 := Grew.trans' (by assumption) g1) | (go_at_call 31; with_reducible refine (cB _).mono ?_; rintro e1 W1 ⟨rfl, h1⟩; subst W1) | (at_builtin; refine wpList_append_S rfl _ _ rfl w.heap.size v pre (S.extract 0 1) rfl rfl (hown.below (by assumption)) (Below.size (by assumption)) (by rw [ByteArray.size_extract]; omega) ?_; intro v' W' hown' hb' hg'))
          rw [HST.out] at hown'
          have gw' : Grew w W' := Below.trans (by assumption) hb'
          exact ⟨HFIN.out _ _ _ hown' gw' (by have := HKS.out; simpa using this), HMS.out⟩
      · subst hk
        have f4 : ((n : Int) == 1) = false := by rw [beq_eq_false_iff_ne]; omega
        have f5 : decide (1 < (n : Int)) = true := decide_eq_true (by omega)
        by_cases hx : x = 65533
        · have f2 : ((x : Int) == 65533) = true := by rw [beq_iff_eq]; omega
          have f2' : ((x : Int) != 65533) = false := by rw [bne, f2]; rfl
          clear hx
          go_wp2_with (first | (go_at_call 24; with_reducible refine (cD _ (by assumption)).mono ?_; rintro e1 W1 ⟨rfl, g1⟩; have gg1 : Grew w W1 := Grew.trans' (by assumption) g1) | (go_at_call 31; with_reducible refine (cB _).mono ?_; rintro e1 W1 ⟨rfl, h1⟩; subst W1) | (at_builtin; refine wpList_append_S rfl _ _ rfl w.heap.size v pre (S.extract 0 n) rfl rfl (hown.below (by assumption)) (Below.size (by assumption)) (by rw [ByteArray.size_extract]; omega) ?_; intro v' W' hown' hb' hg'))
          rw [HST.out] at hown'
          have gw' : Grew w W' := Below.trans (by assumption) hb'
          exact ⟨HFIN.out _ _ _ hown' gw' (by have := HKS.out; simpa using this), HMS.out⟩
        · have f2 : ((x : Int) == 65533) = false := by rw [beq_eq_false_iff_ne]; omega
          have f2' : ((x : Int) != 65533) = true := by rw [bne, f2]; rfl
          clear hx
          go_wp2_with (first | (go_at_call 24; with_reducible refine (cD _ (by assumption)).mono ?_; rintro e1 W1 ⟨rfl, g1⟩; have gg1 : Grew w W1 := Grew.trans' (by assumption) g1) | (go_at_call 31; with_reducible refine (cB _).mono ?_; rintro e1 W1 ⟨rfl, h1⟩; subst W1) | (at_builtin; refine wpList_append_S rfl _ _ rfl w.heap.size v pre (S.extract 0 n) rfl rfl (hown.below (by assumption)) (Below.size (by assumption)) (by rw [ByteArray.size_extract]; omega) ?_; intro v' W' hown' hb' hg'))
          rw [HST.out] at hown'
          have gw' : Grew w W' := Below.trans (by assumption) hb'
          exact ⟨HFIN.out _ _ _ hown' gw' (by have := HKS.out; simpa using this), HMS.out⟩
      · subst hk
        subst hn
        subst hx
        go_wp2_with (first | (go_at_call 24; with_reducible refine (cD _ (by assumption)).mono ?_; rintro e1 W1 ⟨rfl, g1⟩; have gg1 : Grew w W1 := Grew.trans' (by assumption) g1) | (go_at_call 31; with_reducible refine (cB _).mono ?_; rintro e1 W1 ⟨rfl, h1⟩; subst W1))
        exact ⟨HFIN.out _ _ pre (hown.below (by assumption)) (by assumption) (by have := HKS.out; simpa using this), HMS.out⟩
    · have hlast := hk.out.last (by rw [HSL.out]; omega)
      have hpl := hk.out.2
      subst hlast
      obtain ⟨p0, cap0, rfl, hrd0, hcap0, -⟩ := hown.val
      have f1 : decide (0 < (S.size : Int)) = false := decide_eq_false (by omega)
      clear hSL hk hown
      obtain ⟨us, hus, hfl⟩ := Pure.filt_units s.data.toList.length s.data.toList (Nat.le_refl _)
      obtain ⟨vs, hvs, htl, -⟩ := Pure.trimL_units us (fun u hu => (hus u hu).1)
      have hvU : ∀ u ∈ vs, Pure.UOk u := fun u hu => (hus u (hvs u hu)).1
      have hcl : Pure.clean s.data.toList = Pure.trimR (Pure.takeU 200 vs).flatten := by
        unfold Pure.clean
        rw [hfl, htl, Pure.pref_flat 200 vs hvU]
      rw [← hfl] at htl
      have HCL := Lib.hid hcl
      have HVU := Lib.hid hvU
      have HTL := Lib.hid htl
      clear hcl hvU htl hvs hus hfl
      go_wp2
      go_loopw [3] (fun ov wr2 => ∃ (l : List UInt8) (p : Option Addr) (cap : Nat), .slice p l.length cap = ov ∧ Rd wr2 p l ∧ l.length ≤ cap ∧ l.length ≤ 1073741824 ∧ Grew w wr2 ∧ Hid (Pure.trimL l = Pure.trimL (Pure.filt s.data.toList))) (fun ov _ => slLen ov)
      case atStart => exact ⟨_, p0, cap0, rfl, hrd0, hcap0, by omega, hg, Lib.hid rfl⟩
      case round =>
        obtain ⟨l, p, cap, rfl, hrd, hcap, hl30, hg2, htr⟩ := hrel
        clear hrd0 hcap0 hg
        by_cases hsp : ∃ r, l = 32 :: r
        · obtain ⟨r, rfl⟩ := hsp
          rcases hrd with hrd | ⟨b, o, rfl, hlt, hcell⟩
          · cases hrd
          have hc0 : wr.cell? ⟨b, o, none⟩ = some (.int .u8 32) := hcell 0 (by simp)
          have f2 : decide (0 < ((r.length + 1 : Nat) : Int)) = true := decide_eq_true (by omega)
          simp only [List.length_cons] at hcap hl30 ⊢
          have HTR := Lib.hid ((trimL_blank r).symm.trans htr.out)
          have HCE := Lib.hid hcell
          clear hcell htr
          go_wp2
          refine ⟨⟨r, _, _, rfl, ?_, by omega, by omega, hg2, HTR⟩, Nat.lt_succ_self _⟩
          by_cases hr : r = []
          · exact .inl hr
          · have : 0 < r.length := List.length_pos_iff.2 hr
            rw [if_neg (by omega)]
            refine .inr ⟨b, o + 1, rfl, hlt, fun i hi => ?_⟩
            have := HCE.out (i + 1) (by simp; omega)
            rw [List.getD_cons_succ] at this
            rw [show o + 1 + i = o + (i + 1) by omega]
            exact this
        · cases l with
          | nil =>
            have hcn : Pure.clean s.data.toList = [] := by
              have h1 := htr.out
              rw [HTL.out] at h1
              have h2 : vs.flatten = [] := h1.symm
              rw [HCL.out]
              have h3 : vs = [] := by
                cases vs with
                | nil => rfl
                | cons v vs => exact absurd (by rw [List.flatten_cons] at h2; exact (List.append_eq_nil_iff.1 h2).1) (HVU.out v (by simp)).1
              rw [h3]; rfl
            have HCN := Lib.hid hcn
            have kc := conv_string cap hrd
            have hl0 : ([] : List UInt8).length = 0 := rfl
            rw [hl0] at kc
            clear htr hsp hcn hl30
            obtain ⟨wo, rfl⟩ : ∃ wo, wo = wr := ⟨_, rfl⟩
            cases p with
            | none =>
              go_wp2
              go_loopw [6] (fun ev w3 => Value.int .i64 0 = ev ∧ wo = w3) (fun _ _ => 0)
              case atStart => exact ⟨rfl, rfl⟩
              case round =>
                obtain ⟨rfl, rfl⟩ := hrel
                go_wp2
                go_loopw [6] (fun ev w3 => Value.int .i64 0 = ev ∧ wo = w3) (fun _ _ => 0)
                case atStart => exact ⟨rfl, by first | rfl | trivial⟩
                case round =>
                  obtain ⟨rfl, rfl⟩ := hrel
                  go_wp2
                  go_ret
                  exact ⟨by rw [HCN.out]; rfl, hg2⟩
            | some a =>
              go_wp2
              go_loopw [6] (fun ev w3 => Value.int .i64 0 = ev ∧ wo = w3) (fun _ _ => 0)
              case atStart => exact ⟨rfl, rfl⟩
              case round =>
                obtain ⟨rfl, rfl⟩ := hrel
                go_wp2
                go_loopw [6] (fun ev w3 => Value.int .i64 0 = ev ∧ wo = w3) (fun _ _ => 0)
                case atStart => exact ⟨rfl, by first | rfl | trivial⟩
                case round =>
                  obtain ⟨rfl, rfl⟩ := hrel
                  go_wp2
                  go_ret
                  exact ⟨by rw [HCN.out]; rfl, hg2⟩
          | cons c r =>
            have hne : c ≠ 32 := fun h => hsp ⟨r, by rw [h]⟩
            have hlt0 : Pure.trimL (c :: r) = c :: r := Pure.trimL_same (fun a e => hne (List.cons.inj e).1)
            have hfl := htr.out
            rw [hlt0, HTL.out] at hfl
            rcases hrd with hrd | ⟨b, o, rfl, hlt, hcell⟩
            · cases hrd
            have hc0 : wr.cell? ⟨b, o, none⟩ = some (.int .u8 (c.toNat : Int)) := hcell 0 (by simp)
            have b0 := byte_isC c
            rw [decide_eq_false hne] at b0
            have f2 : decide (0 < ((r.length + 1 : Nat) : Int)) = true := decide_eq_true (by omega)
            obtain ⟨l, hl⟩ : ∃ l, c :: r = l := ⟨_, rfl⟩
            have hll : r.length + 1 = l.length := by rw [← hl]; rfl
            have HCELL0 := Lib.hid hcell
            rw [hl] at HCELL0 hfl hcap hl30
            have HFL := Lib.hid hfl
            have hlp : 0 < l.length := by omega
            rw [hl]
            have f2' : decide (0 < (l.length : Int)) = true := decide_eq_true (by omega)
            clear hcell hfl hlt0 htr hsp hne hl hll f2
            go_wp2
            obtain ⟨wo, rfl⟩ : ∃ wo, wo = wr := ⟨_, rfl⟩
            have HCELL := HCELL0
            have hbw : b < wo.heap.size := hlt
            have goo : Grew wo wo := Below.refl _ _
            clear HCELL0 hlt hc0 b0
            go_loopw [6] (fun ev w3 => ∃ (us1 us2 : List (List UInt8)) (e : Nat), Value.int .i64 (e : Int) = ev ∧ us1.flatten.length = e ∧ e ≤ 200 ∧ Grew wo w3 ∧ Hid (vs = us1 ++ us2) ∧ Hid (Pure.takeU 200 vs = us1 ++ Pure.takeU (200 - e) us2)) (fun ev _ => l.length - (intOf ev).toNat)
            case atStart => exact ⟨[], vs, 0, rfl, rfl, by omega, goo, Lib.hid rfl, Lib.hid rfl⟩
            case round =>
              obtain ⟨us1, us2, e, rfl, hel, he200, hg3, hvv, htk⟩ := hrel
              cases us2 with
              | nil =>
                have hve : vs = us1 := by rw [hvv.out, List.append_nil]
                have hee : e = l.length := by rw [HFL.out, hve, hel]
                have hpre : Pure.trimR (l.take e) = Pure.clean s.data.toList := by
                  rw [hee, List.take_length, HCL.out, htk.out, HFL.out, hve]
                  simp [Pure.takeU]
                have HPRE := Lib.hid hpre
                have f3 : decide ((e : Int) < (l.length : Int)) = false := decide_eq_false (by omega)
                have f3n : ¬ e < l.length := by omega
                clear hpre hve hvv htk hel
                go_wp2
                go_loopw [6] (fun ev w4 => ∃ e4 : Nat, Value.int .i64 (e4 : Int) = ev ∧ e4 ≤ l.length ∧ Grew wo w4 ∧ Hid (Pure.trimR (l.take e4) = Pure.clean s.data.toList)) (fun ev _ => (intOf ev).toNat)
                case atStart => exact ⟨e, rfl, by omega, by assumption, Lib.hid HPRE.out⟩
                case round =>
                  obtain ⟨e4, rfl, he4, hg4, htr4⟩ := hrel
                  by_cases hbl : ∃ m, e4 = m + 1 ∧ l[m]? = some 32
                  · obtain ⟨m, rfl, hm⟩ := hbl
                    have hcm : wr.cell? ⟨b, o + m, none⟩ = some (.int .u8 32) := by
                      have := (hg4.cell (p := ⟨b, o + m, none⟩) hbw).trans (HCELL.out m (by omega))
                      rw [List.getD_eq_getElem?_getD, hm] at this
                      exact this
                    have f6 : decide (0 < (m : Int) + 1) = true := decide_eq_true (by omega)
                    have him : (m : Int) < (l.length : Int) := by omega
                    have hwm : IntKind.i64.wrap (m : Int) = (m : Int) := IntWalk.i64_in _ (by omega)
                    have htr5 := htr4.out
                    rw [trimR_blank l m hm] at htr5
                    have HTR5 := Lib.hid htr5
                    clear htr5 hm
                    go_wp2
                    go_roundw
                    case rel => exact ⟨m, by go_num, by omega, hg4, HTR5⟩
                    case measure => simp [intOf]
                  · have hfin : Pure.trimR (l.take e4) = l.take e4 := by
                      cases e4 with
                      | zero => rfl
                      | succ m =>
                        obtain ⟨c9, hc9⟩ : ∃ c9, l[m]? = some c9 := ⟨_, List.getElem?_eq_getElem (by omega)⟩
                        exact trimR_stop l m c9 hc9 (fun h => hbl ⟨m, rfl, by rw [hc9, h]⟩)
                    have hcl := htr4.out
                    rw [hfin] at hcl
                    have hrd9 : Rd wr (some ⟨b, o, none⟩) (l.take e4) := by
                      refine .inr ⟨b, o, rfl, by have := hg4.size; omega, fun i9 hi9 => ?_⟩
                      rw [List.length_take] at hi9
                      have := (hg4.cell (p := ⟨b, o + i9, none⟩) hbw).trans (HCELL.out i9 (by omega))
                      rw [List.getD_eq_getElem?_getD, List.getElem?_take, if_pos (by omega), ← List.getD_eq_getElem?_getD]
                      exact this
                    have kc := conv_string cap hrd9
                    have hlt9 : (l.take e4).length = e4 := by rw [List.length_take]; omega
                    rw [hlt9, hcl] at kc
                    have hww : Grew w wr := hg2.trans' hg4
                    clear hrd9 hcl hfin htr4 hlt9
                    cases e4 with
                    | zero =>
                      clear hbl
                      go_wp2
                      go_ret
                      exact ⟨rfl, hww⟩
                    | succ m =>
                      obtain ⟨c9, hc9⟩ : ∃ c9, l[m]? = some c9 := ⟨_, List.getElem?_eq_getElem (by omega)⟩
                      have hcm : wr.cell? ⟨b, o + m, none⟩ = some (.int .u8 (c9.toNat : Int)) := by
                        have := (hg4.cell (p := ⟨b, o + m, none⟩) hbw).trans (HCELL.out m (by omega))
                        rw [List.getD_eq_getElem?_getD, hc9] at this
                        exact this
                      have b9 := byte_isC c9
                      rw [decide_eq_false (fun h => hbl ⟨m, rfl, by rw [hc9, h]⟩)] at b9
                      have f6 : decide (0 < (m : Int) + 1) = true := decide_eq_true (by omega)
                      have him : (m : Int) < (l.length : Int) := by omega
                      have hwm : IntKind.i64.wrap (m : Int) = (m : Int) := IntWalk.i64_in _ (by omega)
                      clear hbl hc9
                      go_wp2
                      go_ret
                      exact ⟨rfl, hww⟩
              | cons u us2 =>
                have hu1 := HVU.out u (by rw [hvv.out]; simp)
                have hul := hu1.len
                have hlen : e + u.length ≤ l.length := by
                  have h1 : l.length = (us1 ++ (u :: us2)).flatten.length := by rw [HFL.out, hvv.out]
                  rw [h1]; simp [← hel]
                have f3 : decide ((e : Int) < (l.length : Int)) = true := decide_eq_true (by omega)
                have f3n : e < l.length := by omega
                have hce : ¬ cap = e := by omega
                obtain ⟨S9, hS9⟩ : ∃ S : ByteArray, (⟨(l.drop e).toArray⟩ : ByteArray) = S := ⟨_, rfl⟩
                have hS9L : S9.data.toList = l.drop e := by rw [← hS9]
                have hS9s : S9.size = l.length - e := by rw [Lib.size_eq, hS9L, List.length_drop]
                have hdrop : l.drop e = u ++ us2.flatten := by
                  rw [HFL.out, hvv.out, List.flatten_append, ← hel, List.drop_left, List.flatten_cons]
                have hgo : Lib.decodeGo S9 = ((Lib.decodeL u).1, u.length) := by
                  unfold Lib.decodeGo
                  rw [if_neg (by omega), ← Lib.decodeL_drop, List.drop_zero, hS9L, hdrop]
                  exact hu1.decode _
                have cD := fun W (g : Grew wo W) => utf8_DecodeRune S9 b (o + e) (cap - e) W (u8_grew HU.out (hg2.trans' g)) (fun j hj => by
                  have := (g.cell (p := ⟨b, o + (e + j), none⟩) hbw).trans (HCELL.out (e + j) (by omega))
                  rw [show o + e + j = o + (e + j) by omega, this, Pure.get_bang, hS9L]
                  simp [List.getD_eq_getElem?_getD, List.getElem?_drop])
                rw [hgo, hS9s] at cD
                simp only at cD
                obtain ⟨x, hx⟩ : ∃ x, (Lib.decodeL u).1 = x := ⟨_, rfl⟩
                rw [hx] at cD
                obtain ⟨n, hn⟩ : ∃ n, u.length = n := ⟨_, rfl⟩
                have htk2 := htk.out
                have hl2 : (us1 ++ [u]).flatten.length = e + n := by simp [hel, hn]
                rw [hn] at cD hul hlen
                have hwn : IntKind.i64.wrap ((e : Int) + (n : Int)) = ((e + n : Nat) : Int) := by rw [IntWalk.i64_in _ (by omega)]; omega
                by_cases h200 : e + n ≤ 200
                · have f4 : decide (200 < ((e + n : Nat) : Int)) = false := decide_eq_false (by omega)
                  have f4' : decide (200 < (e : Int) + (n : Int)) = false := decide_eq_false (by omega)
                  have hvv2 : vs = (us1 ++ [u]) ++ us2 := by rw [hvv.out]; simp
                  have htk3 : Pure.takeU 200 vs = (us1 ++ [u]) ++ Pure.takeU (200 - (e + n)) us2 := by
                    rw [htk2]
                    conv => lhs; unfold Pure.takeU
                    rw [if_pos (by omega), hn, List.append_assoc, List.singleton_append, Nat.sub_sub]
                  have HV2 := Lib.hid hvv2
                  have HT3 := Lib.hid htk3
                  have HL2 := Lib.hid hl2
                  clear hvv2 htk3 htk2 hl2 hx hn hgo hdrop hS9L hS9 hu1 hvv htk hel
                  go_wp2_with (first | (go_at_call 32; with_reducible refine (cD _ (by assumption)).mono ?_; rintro e1 W1 ⟨rfl, g1⟩; have gg1 : Grew wo W1 := Grew.trans' (by assumption) g1))
                  go_roundw
                  case rel => exact ⟨us1 ++ [u], us2, e + n, by go_num, HL2.out, h200, by assumption, HV2, HT3⟩
                  case measure => simp [intOf]; omega
                · have f4 : decide (200 < ((e + n : Nat) : Int)) = true := decide_eq_true (by omega)
                  have f4' : decide (200 < (e : Int) + (n : Int)) = true := decide_eq_true (by omega)
                  have hpre : Pure.trimR (l.take e) = Pure.clean s.data.toList := by
                    have e1 : Pure.takeU (200 - e) (u :: us2) = [] := by unfold Pure.takeU; rw [if_neg (by omega)]
                    rw [HCL.out, htk2, e1, List.append_nil]
                    congr 1
                    rw [HFL.out, hvv.out, ← hel, flat_take]
                  have HPRE := Lib.hid hpre
                  clear hpre htk2 hl2 hx hn hgo hdrop hS9L hS9 hu1 hvv htk hel
                  go_wp2_with (first | (go_at_call 32; with_reducible refine (cD _ (by assumption)).mono ?_; rintro e1 W1 ⟨rfl, g1⟩; have gg1 : Grew wo W1 := Grew.trans' (by assumption) g1))
                  go_loopw [6] (fun ev w4 => ∃ e4 : Nat, Value.int .i64 (e4 : Int) = ev ∧ e4 ≤ l.length ∧ Grew wo w4 ∧ Hid (Pure.trimR (l.take e4) = Pure.clean s.data.toList)) (fun ev _ => (intOf ev).toNat)
                  case atStart => exact ⟨e, rfl, by omega, by assumption, Lib.hid HPRE.out⟩
                  case round =>
                    obtain ⟨e4, rfl, he4, hg4, htr4⟩ := hrel
                    by_cases hbl : ∃ m, e4 = m + 1 ∧ l[m]? = some 32
                    · obtain ⟨m, rfl, hm⟩ := hbl
                      have hcm : wr.cell? ⟨b, o + m, none⟩ = some (.int .u8 32) := by
                        have := (hg4.cell (p := ⟨b, o + m, none⟩) hbw).trans (HCELL.out m (by omega))
                        rw [List.getD_eq_getElem?_getD, hm] at this
                        exact this
                      have f6 : decide (0 < (m : Int) + 1) = true := decide_eq_true (by omega)
                      have him : (m : Int) < (l.length : Int) := by omega
                      have hwm : IntKind.i64.wrap (m : Int) = (m : Int) := IntWalk.i64_in _ (by omega)
                      have htr5 := htr4.out
                      rw [trimR_blank l m hm] at htr5
                      have HTR5 := Lib.hid htr5
                      clear htr5 hm
                      go_wp2
                      go_roundw
                      case rel => exact ⟨m, by go_num, by omega, hg4, HTR5⟩
                      case measure => simp [intOf]
                    · have hfin : Pure.trimR (l.take e4) = l.take e4 := by
                        cases e4 with
                        | zero => rfl
                        | succ m =>
                          obtain ⟨c9, hc9⟩ : ∃ c9, l[m]? = some c9 := ⟨_, List.getElem?_eq_getElem (by omega)⟩
                          exact trimR_stop l m c9 hc9 (fun h => hbl ⟨m, rfl, by rw [hc9, h]⟩)
                      have hcl := htr4.out
                      rw [hfin] at hcl
                      have hrd9 : Rd wr (some ⟨b, o, none⟩) (l.take e4) := by
                        refine .inr ⟨b, o, rfl, by have := hg4.size; omega, fun i9 hi9 => ?_⟩
                        rw [List.length_take] at hi9
                        have := (hg4.cell (p := ⟨b, o + i9, none⟩) hbw).trans (HCELL.out i9 (by omega))
                        rw [List.getD_eq_getElem?_getD, List.getElem?_take, if_pos (by omega), ← List.getD_eq_getElem?_getD]
                        exact this
                      have kc := conv_string cap hrd9
                      have hlt9 : (l.take e4).length = e4 := by rw [List.length_take]; omega
                      rw [hlt9, hcl] at kc
                      have hww : Grew w wr := hg2.trans' hg4
                      clear hrd9 hcl hfin htr4 hlt9
                      cases e4 with
                      | zero =>
                        clear hbl
                        go_wp2
                        go_ret
                        exact ⟨rfl, hww⟩
                      | succ m =>
                        obtain ⟨c9, hc9⟩ : ∃ c9, l[m]? = some c9 := ⟨_, List.getElem?_eq_getElem (by omega)⟩
                        have hcm : wr.cell? ⟨b, o + m, none⟩ = some (.int .u8 (c9.toNat : Int)) := by
                          have := (hg4.cell (p := ⟨b, o + m, none⟩) hbw).trans (HCELL.out m (by omega))
                          rw [List.getD_eq_getElem?_getD, hc9] at this
                          exact this
                        have b9 := byte_isC c9
                        rw [decide_eq_false (fun h => hbl ⟨m, rfl, by rw [hc9, h]⟩)] at b9
                        have f6 : decide (0 < (m : Int) + 1) = true := decide_eq_true (by omega)
                        have him : (m : Int) < (l.length : Int) := by omega
                        have hwm : IntKind.i64.wrap (m : Int) = (m : Int) := IntWalk.i64_in _ (by omega)
                        clear hbl hc9
                        go_wp2
                        go_ret
                        exact ⟨rfl, hww⟩

end Go.Proofs.YtibgjadnamgneaaDoor
