/- ident.Zone: the zone that a text is. Conditions: the library's tables are laid; the text is at most 2^40 bytes long. -/
import Derived.Test.YtemojhcbhljemaaGreatDoorIdent7
import Derived.Test.YtemojhcbhljemaaGreatDoorIdent8
namespace Go.Proofs.YtemojhcbhljemaaGreatDoor
set_option linter.unusedVariables false
set_option linter.unusedSimpArgs false
open Go.RowKit

/-- A zone that was read, or none. -/
def zoneV (o : Option Int) : Value := match o with
  | some z => .tuple #[.int .i64 z, .int .i64 0]
  | none => .tuple #[.int .i64 0, .int .i64 4]
/-- What has been read of a zone's digits. -/
def zv (l : List UInt8) : Nat → Nat
  | 0 => 0
  | k + 1 => zv l k * (if k = 2 then 6 else 10) + Pure.dv (l.getD k 0)
theorem zv_four (a b c d : UInt8) : zv [a, b, c, d] 4 = ((Pure.dv a * 10 + Pure.dv b) * 6 + Pure.dv c) * 10 + Pure.dv d := by
  simp [zv]
theorem dv_lt {c : UInt8} (h : Pure.digit c = true) : Pure.dv c < 10 := by
  unfold Pure.digit at h
  simp at h
  unfold Pure.dv
  omega
theorem zv_bound (l : List UInt8) : ∀ k, k ≤ 4 → (∀ j, j < k → Pure.digit (l.getD j 0) = true) → zv l k < 10 ^ k
  | 0, _, _ => by simp [zv]
  | k + 1, hk, h => by
    have ih := zv_bound l k (by omega) (fun j hj => h j (by omega))
    have := dv_lt (h k (by omega))
    unfold zv
    rw [Nat.pow_succ]
    split <;> omega
theorem zone_bad {a b c d e : UInt8} (h : ∃ j, j < 4 ∧ Pure.digit ([b, c, d, e].getD j 0) = false) : Pure.zoneF [a, b, c, d, e] = none := by
  obtain ⟨j, hj, h⟩ := h
  have : j = 0 ∨ j = 1 ∨ j = 2 ∨ j = 3 := by omega
  unfold Pure.zoneF
  rcases this with rfl | rfl | rfl | rfl <;> simp at h <;> simp [h]
theorem zone_good {a b c d e : UInt8} (h : ∀ j, j < 4 → Pure.digit ([b, c, d, e].getD j 0) = true) (z : Int) (hz : z = if a = 45 then -((zv [b, c, d, e] 4 : Nat) : Int) else ((zv [b, c, d, e] 4 : Nat) : Int)) : Pure.zoneF [a, b, c, d, e] = if Pure.zoneIn z ∧ Pure.zoneS z = [a, b, c, d, e] then some z else none := by
  have h0 := h 0 (by omega)
  have h1 := h 1 (by omega)
  have h2 := h 2 (by omega)
  have h3 := h 3 (by omega)
  simp at h0 h1 h2 h3
  rw [zv_four] at hz
  unfold Pure.zoneF
  simp only [h0, h1, h2, h3, Bool.and_self, if_true]
  rw [← hz]
theorem list_five {l : List UInt8} (h : l.length = 5) : ∃ a b c d e, l = [a, b, c, d, e] := by
  match l, h with
  | [a, b, c, d, e], _ => exact ⟨a, b, c, d, e, rfl⟩

set_option maxRecDepth 100000 in
set_option maxHeartbeats 4000000 in
theorem ident_Zone (s : ByteArray) (w : World) (hs : s.size ≤ 1099511627776) :
    Calls Tryz.prog 69 #[.string s] w fun e w' => e = .returned (zoneV (Pure.zoneF s.data.toList)) ∧ Grew w w' := by
  have g0 : Grew w w := Below.refl _ _
  have hsl : s.data.toList.length = s.size := Array.length_toList
  by_cases h5 : s.size = 5
  · obtain ⟨a, b, c, d, e, hl⟩ := list_five (hsl.trans h5)
    have f1 : ((s.size : Int) == 5) = true := by rw [beq_iff_eq]; omega
    obtain ⟨T, hT⟩ : ∃ T, s.extract 1 5 = T := ⟨_, rfl⟩
    have hTs : T.size = 4 := by rw [← hT, ByteArray.size_extract]; omega
    have hTL : T.data.toList = [b, c, d, e] := by rw [← hT, extract_list, hl]; rfl
    have hc0 : ∀ W : World, (Instr.index 9 (.string s) (.int .i64 0)).run Tryz.prog W = .ok (.int .u8 (a.toNat : Int)) W := fun W => index_str s 0 a (by rw [hl]; rfl) W
    have HTL := Lib.hid hTL
    have HL := Lib.hid hl
    clear hl hTL hsl
    go_enter Tryz.func69, Tryz.ntmps69
    go_wp2
    obtain ⟨it, hit⟩ : ∃ it, w.heap.size = it := ⟨_, rfl⟩
    rw [hit]
    go_loopw [4] (fun zz wr => ∃ pos : Nat, pos ≤ 4 ∧ zz = .int .i64 ((zv [b, c, d, e] pos : Nat) : Int) ∧ wr.heap[it]? = some (.stringIter T pos) ∧ Grew w wr ∧ Hid (∀ j, j < pos → Pure.digit ([b, c, d, e].getD j 0) = true)) (fun _ wr => T.size - wr.iterPos it)
    case atStart =>
      refine ⟨0, by omega, rfl, ?_, (g0.alloc g0.size _), Lib.hid (fun j hj => by omega)⟩
      rw [← hit]
      simpa using World.iter_heap w T 0
    case round =>
      obtain ⟨pos, hpos, rfl, hi, hg, hdig⟩ := hrel
      have hitw : w.heap.size ≤ it := by omega
      have hzb := zv_bound [b, c, d, e] pos hpos hdig.out
      have hm0 : wr.iterPos it = pos := by unfold World.iterPos; rw [hi]
      by_cases hp : pos < 4
      · have hpT : pos < T.size := by omega
        obtain ⟨ch, hch⟩ : ∃ ch, [b, c, d, e].getD pos 0 = ch := ⟨_, rfl⟩
        have hx : T.data.toList[pos]? = some ch := by
          rw [HTL.out, ← hch, List.getD_eq_getElem?_getD, List.getElem?_eq_getElem (by simpa using hp)]
          rfl
        have hTc : T[pos]'hpT = ch := by
          have := Lib.data_getElem? T pos hpT
          rw [hx] at this
          exact (Option.some.inj this).symm
        have hnx : ∀ ty, (Instr.next (.pointer (some ⟨it, 0, none⟩)) true ty).run Tryz.prog wr = _ := fun ty => Lib.run_next_any_at wr it T pos ty hi hpT
        by_cases hd : Pure.digit ch = true
        · have hb : 48 ≤ ch.toNat ∧ ch.toNat ≤ 57 := by unfold Pure.digit at hd; simpa using hd
          have hdec := decode_ascii T pos hpT (by rw [hTc]; omega)
          rw [hTc] at hdec
          rw [hdec] at hnx
          simp only at hnx
          have hit2 := Lib.iterAt_heap wr it T pos (pos + 1) hi
          have hb2 := Lib.below_iterAt hg (k := it) hitw T (pos + 1)
          generalize hW : wr.iterAt it T (pos + 1) = W at *
          have hm2 : W.iterPos it = pos + 1 := by unfold World.iterPos; rw [hit2]
          have hz1 : zv [b, c, d, e] (pos + 1) = zv [b, c, d, e] pos * (if pos = 2 then 6 else 10) + (ch.toNat - 48) := by rw [← hch]; rfl
          have hdg : ∀ j, j < pos + 1 → Pure.digit ([b, c, d, e].getD j 0) = true := by
            intro j hj
            by_cases hjp : j = pos
            · rw [hjp, hch]; exact hd
            · exact hdig.out j (by omega)
          have HDG := Lib.hid hdg
          have hzl : zv [b, c, d, e] pos < 1000 := by
            have : (10 : Nat) ^ pos ≤ 10 ^ 3 := Nat.pow_le_pow_right (by decide) (by omega)
            omega
          generalize zv [b, c, d, e] pos = Z at *
          have HZ1 := Lib.hid hz1
          obtain ⟨x, hxx⟩ : ∃ x, ch.toNat = x := ⟨_, rfl⟩
          rw [hxx] at hb hnx HZ1
          have f2 : decide ((x : Int) < 48) = false := decide_eq_false (by omega)
          have f3 : decide (57 < (x : Int)) = false := decide_eq_false (by omega)
          have w0 : IntKind.i32.wrap ((x : Int) - 48) = ((x - 48 : Nat) : Int) := by simp [IntKind.wrap, IntKind.bits, IntKind.signed]; omega
          have w1 : IntKind.i64.wrap (((x - 48 : Nat) : Int)) = ((x - 48 : Nat) : Int) := IntWalk.i64_in _ (by omega)
          clear hz1 hdg hdig hdec hch hxx hTc hx hd hzb hg hi hW
          by_cases hp2 : pos = 2
          · have f4 : ((pos : Int) == 2) = true := by rw [beq_iff_eq]; omega
            have w2 : IntKind.i64.wrap ((Z : Int) * 6) = ((Z * 6 : Nat) : Int) := by rw [IntWalk.i64_in _ (by omega)]; omega
            have w3 : IntKind.i64.wrap (((Z * 6 : Nat) : Int) + ((x - 48 : Nat) : Int)) = ((Z * 6 + (x - 48) : Nat) : Int) := by rw [IntWalk.i64_in _ (by omega)]; omega
            go_wp2
            go_roundw
            case rel => exact ⟨pos + 1, by omega, by rw [HZ1.out, if_pos hp2]; exact congrArg (Value.int .i64) (by omega), hit2, hb2, HDG⟩
            case measure => rw [hm2, hm0, hTs]; omega
          · have f4 : ((pos : Int) == 2) = false := by rw [beq_eq_false_iff_ne]; omega
            have w2 : IntKind.i64.wrap ((Z : Int) * 10) = ((Z * 10 : Nat) : Int) := by rw [IntWalk.i64_in _ (by omega)]; omega
            have w3 : IntKind.i64.wrap (((Z * 10 : Nat) : Int) + ((x - 48 : Nat) : Int)) = ((Z * 10 + (x - 48) : Nat) : Int) := by rw [IntWalk.i64_in _ (by omega)]; omega
            go_wp2
            go_roundw
            case rel => exact ⟨pos + 1, by omega, by rw [HZ1.out, if_neg hp2]; exact congrArg (Value.int .i64) (by omega), hit2, hb2, HDG⟩
            case measure => rw [hm2, hm0, hTs]; omega
        · have hbad := zone_bad (a := a) (b := b) (c := c) (d := d) (e := e) ⟨pos, hp, by rw [hch]; simpa using hd⟩
          have hx2 : ∃ x n, Utf8.decode T pos = (x, n) ∧ (x < 48 ∨ 57 < x) := by
            by_cases h8 : (T[pos]'hpT).toNat < 128
            · refine ⟨_, _, decode_ascii T pos hpT h8, ?_⟩
              rw [hTc]
              unfold Pure.digit at hd
              simp at hd
              omega
            · have := (decode_high T pos hpT (by omega)).1
              exact ⟨(Utf8.decode T pos).1, (Utf8.decode T pos).2, rfl, by omega⟩
          obtain ⟨x, n, hdec, hx3⟩ := hx2
          rw [hdec] at hnx
          simp only at hnx
          have hb2 := Lib.below_iterAt hg (k := it) hitw T (pos + n)
          generalize hW : wr.iterAt it T (pos + n) = W at *
          have HB := Lib.hid hbad
          clear hbad hdec hdig hch hTc hx hd hzb hg hi hW
          rcases hx3 with hx3 | hx3
          · have f2 : decide ((x : Int) < 48) = true := decide_eq_true (by omega)
            go_wp2
            go_ret2
            exact ⟨by rw [HL.out, HB.out]; rfl, hb2⟩
          · have f2 : decide ((x : Int) < 48) = false := decide_eq_false (by omega)
            have f3 : decide (57 < (x : Int)) = true := decide_eq_true (by omega)
            go_wp2
            go_ret2
            exact ⟨by rw [HL.out, HB.out]; rfl, hb2⟩
      · obtain rfl : pos = 4 := by omega
        have hnx : ∀ ty, (Instr.next (.pointer (some ⟨it, 0, none⟩)) true ty).run Tryz.prog wr = _ := fun ty => Lib.run_next_end_at wr it T 4 ty hi (by omega)
        obtain ⟨z, hz⟩ : ∃ z : Int, z = if a = 45 then -((zv [b, c, d, e] 4 : Nat) : Int) else ((zv [b, c, d, e] 4 : Nat) : Int) := ⟨_, rfl⟩
        have hgood := zone_good (a := a) hdig.out z hz
        have HG := Lib.hid hgood
        generalize zv [b, c, d, e] 4 = Z at *
        have hzb2 : Z < 10000 := hzb
        have cZ := fun W => ident_zoned z W
        have h45 : ((a.toNat : Int) == 45) = decide (a = 45) := by
          rw [Bool.eq_iff_iff]
          simp only [beq_iff_eq, decide_eq_true_eq]
          exact ⟨fun h => UInt8.toNat_inj.1 (by show a.toNat = 45; omega), fun h => by rw [h]; rfl⟩
        clear hgood hdig hm0 hi hzb hp hpos
        by_cases hin : Pure.zoneIn z
        · have hzp : zonedP z = true := by unfold zonedP; simp only [Bool.and_eq_true, decide_eq_true_eq]; exact hin
          rw [hzp] at cZ
          have cS := (fun W (g : Grew w W) => ident_zone z hin W : ∀ W, Grew w W → _)
          obtain ⟨S, hS⟩ : ∃ S : ByteArray, (⟨(Pure.zoneS z).toArray⟩ : ByteArray) = S := ⟨_, rfl⟩
          simp only [hS] at cS
          obtain ⟨E, hE⟩ : ∃ E, (S.toList == s.toList) = E := ⟨_, rfl⟩
          have hfin : Pure.zoneF s.data.toList = if E = true then some z else none := by
            rw [HL.out, HG.out]
            have : E = true ↔ Pure.zoneS z = [a, b, c, d, e] := by
              rw [← hE, beq_iff_eq, ByteArray.toList_eq, ByteArray.toList_eq, HL.out, ← hS]
            by_cases hEE : E = true
            · rw [if_pos hEE, if_pos ⟨hin, this.1 hEE⟩]
            · rw [if_neg hEE, if_neg (fun h => hEE (this.2 h.2))]
          have HF := Lib.hid hfin
          clear hfin HG hS
          by_cases ha : a = 45
          · rw [if_pos ha] at hz
            rw [decide_eq_true ha] at h45
            have hneg : IntKind.i64.wrap (-(Z : Int)) = z := by rw [IntWalk.i64_in _ (by omega)]; exact hz.symm
            clear hz
            cases E
            all_goals
              go_wp2_with (first | (go_at_call 55; with_reducible refine (cZ _).mono ?_; rintro e1 W1 ⟨rfl, h1⟩; subst W1) | (go_at_call 43; with_reducible refine (cS _ (by assumption)).mono ?_; rintro e1 W1 ⟨rfl, g1⟩; replace g1 := Grew.trans' (a := w) (by assumption) g1))
              go_ret2
              exact ⟨by rw [HF.out]; rfl, by assumption⟩
          · rw [if_neg ha] at hz
            rw [decide_eq_false ha] at h45
            subst hz
            cases E
            all_goals
              go_wp2_with (first | (go_at_call 55; with_reducible refine (cZ _).mono ?_; rintro e1 W1 ⟨rfl, h1⟩; subst W1) | (go_at_call 43; with_reducible refine (cS _ (by assumption)).mono ?_; rintro e1 W1 ⟨rfl, g1⟩; replace g1 := Grew.trans' (a := w) (by assumption) g1))
              go_ret2
              exact ⟨by rw [HF.out]; rfl, by assumption⟩
        · have hzp : zonedP z = false := by
            cases hq : zonedP z with
            | false => rfl
            | true => exact absurd (by unfold zonedP at hq; simp only [Bool.and_eq_true, decide_eq_true_eq] at hq; exact hq : Pure.zoneIn z) hin
          rw [hzp] at cZ
          have hfin : Pure.zoneF s.data.toList = none := by rw [HL.out, HG.out, if_neg (fun h => hin h.1)]
          have HF := Lib.hid hfin
          clear hfin HG
          by_cases ha : a = 45
          · rw [if_pos ha] at hz
            rw [decide_eq_true ha] at h45
            have hneg : IntKind.i64.wrap (-(Z : Int)) = z := by rw [IntWalk.i64_in _ (by omega)]; exact hz.symm
            clear hz
            go_wp2_with (first | (go_at_call 55; with_reducible refine (cZ _).mono ?_; rintro e1 W1 ⟨rfl, h1⟩; subst W1))
            go_ret2
            exact ⟨by rw [HF.out]; rfl, by assumption⟩
          · rw [if_neg ha] at hz
            rw [decide_eq_false ha] at h45
            subst hz
            go_wp2_with (first | (go_at_call 55; with_reducible refine (cZ _).mono ?_; rintro e1 W1 ⟨rfl, h1⟩; subst W1))
            go_ret2
            exact ⟨by rw [HF.out]; rfl, by assumption⟩
  · have hz := Pure.zoneF_len (l := s.data.toList) (by omega)
    rw [hz]
    have f1 : ((s.size : Int) == 5) = false := by rw [beq_eq_false_iff_ne]; omega
    clear hz hsl
    go_enter Tryz.func69, Tryz.ntmps69
    go_wp2
    go_ret2
    exact ⟨rfl, g0⟩

end Go.Proofs.YtemojhcbhljemaaGreatDoor
