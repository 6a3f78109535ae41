/- quote.Unquote. Conditions: at most 2^30 bytes; the library's tables are laid. -/
import Derived.Test.YtbdcncojiejdoaaDoorQ9
import Derived.Test.YtbdcncojiejdoaaDoorPure03q
namespace Go.Proofs.YtbdcncojiejdoaaDoor
set_option linter.unusedVariables false
set_option linter.unusedSimpArgs false
open Go.RowKit

def strQ : Value → Nat | .string s => s.size | _ => 0
/-- What Unquote answers. -/
def unqV (l : List UInt8) : Value := .tuple #[.string ⟨(Pure.unqQ l).1.toArray⟩, .int .i64 ((Pure.unqQ l).2.1 : Nat), .int .i64 (Pure.unqQ l).2.2]
theorem unq_plain {s : ByteArray} (h : s.data.toList.head? ≠ some 34) : unqV s.data.toList = plainV s := by
  unfold unqV plainV Pure.unqQ
  rw [if_neg h]
  by_cases hq : Pure.quoteP (s.data.toList.take (Pure.stopQ s.data.toList)) = s.data.toList.take (Pure.stopQ s.data.toList)
  · rw [if_pos hq, if_pos hq]
    have : (⟨(s.data.toList.take (Pure.stopQ s.data.toList)).toArray⟩ : ByteArray) = s.extract 0 (Pure.stopQ s.data.toList) := ba_extQ (by rw [extract_listQ]; simp)
    simp only [this]
  · rw [if_neg hq, if_neg hq]
    rfl

set_option maxRecDepth 100000 in
set_option maxHeartbeats 4000000 in
theorem quote_Unquote (s : ByteArray) (w : World) (hs : s.size ≤ 1073741824) (hu : U8Ok w) :
    Calls Tryd.prog 14 #[.string s] w fun e w' => e = .returned (unqV s.data.toList) ∧ Grew w w' := by
  have hsl : s.data.toList.length = s.size := Array.length_toList
  by_cases hh : s.data.toList.head? = some 34
  · have hsz : 0 < s.size := by
      rw [← hsl]; cases h : s.data.toList with
      | nil => rw [h] at hh; cases hh
      | cons a b => simp
    have hx0 : s.data.toList[0]? = some 34 := by rw [← List.head?_eq_getElem?]; exact hh
    have i0 : ∀ W, (Instr.index 9 (.string s) (.int .i64 0)).run Tryd.prog W = .ok (.int .u8 34) W := fun W => index_str s 0 34 hx0 W
    have hne : s.toList.isEmpty = false := not_empty hsz
    have cE := fun W => quote_end s W hs hsz
    unfold endV at cE
    cases he : Pure.endF (s.data.toList.drop 1) with
    | none =>
      simp only [he] at cE
      have hres : unqV s.data.toList = .tuple #[.string ⟨#[]⟩, .int .i64 0, .int .i64 3] := by
        unfold unqV Pure.unqQ
        rw [if_pos hh, he]
        rfl
      rw [hres]
      clear hres he hh hx0 hsl
      go_enter Tryd.func14, Tryd.ntmps14
      go_wp2_with (first | (go_at_call 31; with_reducible refine (cE _).mono ?_; rintro e1 W1 ⟨rfl, h1⟩; subst W1))
      go_ret3
      exact ⟨rfl, Below.refl _ _⟩
    | some e =>
      simp only [he] at cE
      obtain ⟨he1, -⟩ := Pure.end_lt _ _ _ he
      rw [List.length_drop, hsl] at he1
      obtain ⟨M, hM⟩ : ∃ M, (s.data.toList.drop 1).take e = M := ⟨_, rfl⟩
      have hres : unqV s.data.toList = match Pure.dec1 M with
          | some x => if Pure.quoteP x = s.data.toList.take (e + 2) then .tuple #[.string ⟨x.toArray⟩, .int .i64 ((e + 2 : Nat) : Int), .int .i64 0] else .tuple #[.string ⟨#[]⟩, .int .i64 0, .int .i64 4]
          | none => .tuple #[.string ⟨#[]⟩, .int .i64 0, .int .i64 4] := by
        unfold unqV Pure.unqQ
        rw [if_pos hh, he]
        simp only [hM]
        cases Pure.dec1 M with
        | none => rfl
        | some x =>
          simp only
          by_cases hq : Pure.quoteP x = s.data.toList.take (e + 2)
          · rw [if_pos hq, if_pos hq]
          · rw [if_neg hq, if_neg hq]; rfl
      have HRES := Lib.hid hres
      obtain ⟨n, hn⟩ : ∃ n, e + 1 = n := ⟨_, rfl⟩
      have hns : n < s.size := by omega
      simp only [hn] at cE
      obtain ⟨R0, hR0⟩ : ∃ R, s.extract 1 n = R := ⟨_, rfl⟩
      have hR0l : R0.data.toList = M := by rw [← hR0, extract_listQ, ← hM, ← hn]; rfl
      have hR0s : R0.size ≤ s.size := by rw [← hR0, ByteArray.size_extract]; omega
      obtain ⟨D, hD⟩ : ∃ D, s.extract 0 (n + 1) = D := ⟨_, rfl⟩
      have hDl : D.data.toList = s.data.toList.take (e + 2) := by rw [← hD, extract_listQ, ← hn]; rfl
      have fn0 : decide ((n : Int) < 0) = false := decide_eq_false (by omega)
      have n1 : (1 : Int) ≤ (n : Int) := by omega
      have n2 : (n : Int) ≤ (s.size : Int) := by omega
      have n3 : (0 : Int) ≤ (n : Int) + 1 := by omega
      have n4 : (n : Int) + 1 ≤ (s.size : Int) := by omega
      have hwn : IntKind.i64.wrap ((n : Int) + 1) = (n : Int) + 1 := IntWalk.i64_in _ (by omega)
      have HDL := Lib.hid hDl
      have HSL := Lib.hid hsl
      have HU := Lib.hid hu
      have HR0 := Lib.hid hR0l
      have HE := Lib.hid hn
      clear hres hh hx0 hsl he hM hn hR0l hDl hu he1
      go_enter Tryd.func14, Tryd.ntmps14
      go_wp2_with (first | (go_at_call 31; with_reducible refine (cE _).mono ?_; rintro e1 W1 ⟨rfl, h1⟩; subst W1))
      have hI0 : Lib.IsBuilderF tB tU8 w.heap.size w.heap.size (Lib.byteCells []) (w.alloc (.cells #[.pointer none, .slice none 0 0] tB)) := Lib.IsBuilderF.of (Lib.fresh_isBuilder tB tU8 w)
      have g0 : Grew w (w.alloc (.cells #[.pointer none, .slice none 0 0] tB)) := (Below.refl _ _).alloc (Nat.le_refl _) _
      obtain ⟨b, hb⟩ : ∃ b, w.heap.size = b := ⟨_, rfl⟩
      rw [hb] at hI0
      try rw [hb]
      have hwb : w.heap.size ≤ b := Nat.le_of_eq hb
      go_loopw [7, 8, 9] (fun rv cv kv wr => ∃ (R : ByteArray) (acc : List UInt8), .string R = rv ∧ acc.length + R.size ≤ s.size ∧ Lib.IsBuilderF tB tU8 b b (Lib.byteCells acc) wr ∧ Grew w wr ∧ Hid (Pure.dec1 M = (Pure.dec1 R.data.toList).map (acc ++ ·))) (fun rv _ _ _ => strQ rv)
      case atStart => exact ⟨R0, [], rfl, by simpa using hR0s, hI0, g0, Lib.hid (by rw [HR0.out]; cases Pure.dec1 M <;> simp)⟩
      case round =>
        obtain ⟨R, acc, rfl, hsz2, hI, hg, hM⟩ := hrel
        clear hI0 g0
        have hRl : R.data.toList.length = R.size := Array.length_toList
        have hbl := builder_lt hI
        by_cases hR : 0 < R.size
        · have hRne : R.toList.isEmpty = false := not_empty hR
          have hRn : R.data.toList ≠ [] := by intro e; rw [e] at hRl; simp at hRl; omega
          obtain ⟨k1, k2⟩ := Pure.taken_lenR R.data.toList
          have cT := fun W => quote_taken R W (by omega) hR
          by_cases hk0 : (Pure.takenQ R.data.toList).2 = 0
          · have hno : Pure.dec1 M = none := by rw [hM.out, Pure.dec1_stopR hRn hk0]; rfl
            have hfin : unqV s.data.toList = .tuple #[.string ⟨#[]⟩, .int .i64 0, .int .i64 4] := by rw [HRES.out, hno]
            have HF := Lib.hid hfin
            rw [hk0] at cT
            generalize (Pure.takenQ R.data.toList).1 = c at *
            clear hno hfin hM hRl hRn k1 k2 hk0
            go_wp2_with (first | (go_at_call 32; with_reducible refine (cT _).mono ?_; rintro e1 W1 ⟨rfl, h1⟩; subst W1))
            try simp (config := { zetaDelta := true }) only [Exit.noGoto_ret, Exit.inBlock, Exit.then]
            go_ret3
            exact ⟨by rw [HF.out]; rfl, hg⟩
          · have hnx := Pure.dec1_nextR hRn hk0
            obtain ⟨k, hk⟩ : ∃ k, (Pure.takenQ R.data.toList).2 = k := ⟨_, rfl⟩
            obtain ⟨c, hc⟩ : ∃ c, (Pure.takenQ R.data.toList).1 = c := ⟨_, rfl⟩
            rw [hk] at k1 hk0 hnx
            rw [hc] at k2 hnx
            simp only [hk, hc] at cT
            obtain ⟨R2, hR2⟩ : ∃ R2, R.extract k R.size = R2 := ⟨_, rfl⟩
            have hR2l : R2.data.toList = R.data.toList.drop k := by rw [← hR2, extract_listQ, List.take_of_length_le (by rw [List.length_drop, hRl]; exact Nat.le_refl _)]
            have hR2s : R2.size + k = R.size := by rw [← hR2, ByteArray.size_extract]; omega
            have hcu : (UInt8.ofNat c).toNat = c := by rw [UInt8.toNat_ofNat']; omega
            have hM2 : Pure.dec1 M = (Pure.dec1 R2.data.toList).map ((acc ++ [UInt8.ofNat c]) ++ ·) := by
              rw [hM.out, hnx, hR2l, Option.map_map]
              congr 1
              funext y
              simp
            have fk0 : ((k : Int) == 0) = false := by rw [beq_eq_false_iff_ne]; omega
            have q1 : (0 : Int) ≤ (k : Int) := by omega
            have q2 : (k : Int) ≤ (R.size : Int) := by omega
            have hcells : Lib.byteCells (acc ++ [UInt8.ofNat c]) = Lib.byteCells acc ++ [.int .u8 (c : Int)] := by
              rw [Lib.byteCells_append]
              show _ ++ [Value.int .u8 ((UInt8.ofNat c).toNat : Int)] = _
              rw [hcu]
            have HCE := Lib.hid hcells
            have HM2 := Lib.hid hM2
            clear hM2 hcells hnx hk hc hM hRl hRn hR2l hcu
            go_wp2_with (first | (go_at_call 32; with_reducible refine (cT _).mono ?_; rintro e1 W1 ⟨rfl, h1⟩; subst W1) | (go_at_call 25; with_reducible refine (writeByte b b _ (c : Int) _ hI (by rw [Lib.byteCells_length]; omega) (by omega)).mono ?_))
            rintro e1 W3 ⟨rfl, hI3, hb3, -⟩
            rw [← HCE.out] at hI3
            go_wp2
            go_roundw
            case rel => exact ⟨R2, acc ++ [UInt8.ofNat c], rfl, by rw [List.length_append, List.length_singleton]; omega, hI3, hg.trans (hb3.mono hwb), HM2⟩
            case measure => simp only [strQ]; omega
        · have hRe : R = ⟨#[]⟩ := ba_extQ (List.eq_nil_of_length_eq_zero (by rw [hRl]; omega))
          subst hRe
          have hMs : Pure.dec1 M = some acc := by rw [hM.out, show (⟨#[]⟩ : ByteArray).data.toList = [] from rfl, Pure.dec1_nil']; simp
          have hfin : unqV s.data.toList = if Pure.quoteP acc = s.data.toList.take (e + 2) then .tuple #[.string ⟨acc.toArray⟩, .int .i64 ((e + 2 : Nat) : Int), .int .i64 0] else .tuple #[.string ⟨#[]⟩, .int .i64 0, .int .i64 4] := by rw [HRES.out, hMs]
          have HF := Lib.hid hfin
          clear hfin hMs hM hRl
          have hId := builder_grew hI (Below.drew (Below.refl _ _) : Grew wr wr.drew)
          have hgd : Grew w wr.drew := hg.drew
          have hal : (⟨acc.toArray⟩ : ByteArray).size = acc.length := by show acc.toArray.size = _; simp
          have hacc : acc.length ≤ s.size := Nat.le_trans (Nat.le_add_right _ _) hsz2
          obtain ⟨AC, hAC⟩ : ∃ AC : ByteArray, (⟨acc.toArray⟩ : ByteArray) = AC := ⟨_, rfl⟩
          have hACl : AC.data.toList = acc := by rw [← hAC]
          have cS := fun W (h : Lib.IsBuilderF tB tU8 b b (Lib.byteCells acc) W) => Tryd.Builder_String_any_k b b acc W h (by have := builder_lt h; omega)
          simp only [hAC] at cS
          have cQ := fun W (g : Grew w W) => quote_Quote AC W (by rw [← hAC, hal]; omega) (u8_grew HU.out g)
          rw [hACl] at cQ
          obtain ⟨Q, hQ⟩ : ∃ Q, (⟨(Pure.quoteP acc).toArray⟩ : ByteArray) = Q := ⟨_, rfl⟩
          simp only [hQ] at cQ
          have hQl : Q.data.toList = Pure.quoteP acc := by rw [← hQ]
          have HAC := Lib.hid hAC
          by_cases hq : Pure.quoteP acc = s.data.toList.take (e + 2)
          · have hQD : Q = D := ba_extQ (by rw [hQl, hq, HDL.out])
            have hfin2 : unqV s.data.toList = .tuple #[.string AC, .int .i64 ((e + 2 : Nat) : Int), .int .i64 0] := by rw [HF.out, if_pos hq, HAC.out]
            have HF2 := Lib.hid hfin2
            subst hQD
            clear hfin2 hq hQl hQ hACl hAC hal
            have hen : ((e + 2 : Nat) : Int) = (n : Int) + 1 := by have := HE.out; omega
            have HEN := Lib.hid hen
            clear hen
            go_wp2
            refine wp_region_held_drew (S := fun w' => Grew w w') (by kernel_rfl) (by first | assumption | exact Below.drew (by assumption)) (fun hHeld => ?_)
            first
              | (refine wpAnyH_take (i := 2) (v := ?_) rfl (by kernel_rfl) (by kernel_rfl) (by kernel_rfl) (fun _ _ _ h => h) (Or.inl ⟨by rfl, ?_⟩) (by assumption) ?_; rotate_left 1; focus (intro w hSw; (try dsimp only at hSw); go_simp; (try with_reducible rfl)))
              | fail
            try simp only [Act.put, List.getElem_toArray, List.getElem_cons_succ, List.getElem_cons_zero, List.setIfInBounds_toArray, List.set_cons_zero, List.set_cons_succ]
            first
              | (refine wpAnyH_take (i := 3) (v := ?_) rfl (by kernel_rfl) (by kernel_rfl) (by kernel_rfl) (fun _ _ _ h => h) (Or.inl ⟨by rfl, ?_⟩) (by assumption) ?_; rotate_left 1; focus (intro w hSw; (try dsimp only at hSw); go_simp; (try with_reducible rfl)))
              | fail
            try simp only [Act.put, List.getElem_toArray, List.getElem_cons_succ, List.getElem_cons_zero, List.setIfInBounds_toArray, List.set_cons_zero, List.set_cons_succ]
            first
              | (refine wpAnyH_take (i := 4) (v := ?_) rfl (by kernel_rfl) (by kernel_rfl) (by kernel_rfl) (fun _ _ _ h => h) (Or.inl ⟨by rfl, ?_⟩) (by assumption) ?_; rotate_left 1; focus (intro w hSw; (try dsimp only at hSw); go_simp; (try with_reducible rfl)))
              | fail
            try simp only [Act.put, List.getElem_toArray, List.getElem_cons_succ, List.getElem_cons_zero, List.setIfInBounds_toArray, List.set_cons_zero, List.set_cons_succ]
            first
              | (refine wpAnyH_take (i := 5) (v := ?_) rfl (by kernel_rfl) (by kernel_rfl) (by kernel_rfl) (fun _ _ _ h => h) (Or.inl ⟨by rfl, ?_⟩) (by assumption) ?_; rotate_left 1; focus (intro w hSw; (try dsimp only at hSw); go_simp; (try with_reducible rfl)))
              | fail
            try simp only [Act.put, List.getElem_toArray, List.getElem_cons_succ, List.getElem_cons_zero, List.setIfInBounds_toArray, List.set_cons_zero, List.set_cons_succ]
            refine wpAnyH_ready (rs := [0]) (by kernel_rfl) (by simp) ?_
            refine AllReadyH.cons rfl (fun K hK => ?_) AllReadyH.nil
            go_simp
            (go_at_call 29; with_reducible refine (cS _ hId).mono ?_; rintro e7 W7 ⟨rfl, hI7, g7, -⟩; have gW7 : Grew w W7 := hgd.trans (g7.mono hwb))
            go_wp2_with fail
            refine hK.out _ _ (by first | assumption | exact Below.drew (by assumption)) (fun hHeld => ?_)
            clear hK K
            try simp only [Act.put, List.getElem_toArray, List.getElem_cons_succ, List.getElem_cons_zero, List.setIfInBounds_toArray, List.set_cons_zero, List.set_cons_succ]
            refine wpAnyH_ready (rs := [1]) (by kernel_rfl) (by simp) ?_
            refine AllReadyH.cons rfl (fun K hK => ?_) AllReadyH.nil
            go_simp
            (go_at_call 13; with_reducible refine (cQ _ gW7).mono ?_; rintro e8 W8 ⟨rfl, g8⟩; have hI8 := builder_grew hI7 g8; have gW8 : Grew w W8 := Grew.trans' gW7 g8)
            go_wp2_with fail
            refine hK.out _ _ (by first | assumption | exact Below.drew (by assumption)) (fun hHeld => ?_)
            clear hK K
            try simp only [Act.put, List.getElem_toArray, List.getElem_cons_succ, List.getElem_cons_zero, List.setIfInBounds_toArray, List.set_cons_zero, List.set_cons_succ]
            first
              | (refine wpAnyH_take (i := 6) (v := ?_) rfl (by kernel_rfl) (by kernel_rfl) (by kernel_rfl) (fun _ _ _ h => h) (Or.inl ⟨by rfl, ?_⟩) (by assumption) ?_; rotate_left 1; focus (intro w hSw; (try dsimp only at hSw); go_simp; (try with_reducible rfl)))
              | fail
            try simp only [Act.put, List.getElem_toArray, List.getElem_cons_succ, List.getElem_cons_zero, List.setIfInBounds_toArray, List.set_cons_zero, List.set_cons_succ]
            refine wpAnyH_done (by kernel_rfl) ?_ _
            go_wp2_with (go_at_call 29; with_reducible refine (cS _ hI8).mono ?_)
            rintro e9 W9 ⟨rfl, -, g9, -⟩
            go_wp2
            go_ret3
            exact ⟨by rw [HF2.out, HEN.out]; rfl, gW8.trans (g9.mono hwb)⟩
          · have hQD : Q ≠ D := fun h => hq (by rw [← hQl, h, HDL.out])
            have n5 : (Q.toList == D.toList) = false := by rw [beq_eq_false_iff_ne]; intro e; rw [ByteArray.toList_eq, ByteArray.toList_eq] at e; exact hQD (ba_extQ e)
            have n6 : (Q.toList != D.toList) = true := by rw [bne, n5]; rfl
            have hfin2 : unqV s.data.toList = .tuple #[.string ⟨#[]⟩, .int .i64 0, .int .i64 4] := by rw [HF.out, if_neg hq]
            have HF2 := Lib.hid hfin2
            clear hfin2 hq hQl hQ hACl hAC hal hQD
            go_wp2
            refine wp_region_held_drew (S := fun w' => Grew w w') (by kernel_rfl) (by first | assumption | exact Below.drew (by assumption)) (fun hHeld => ?_)
            first
              | (refine wpAnyH_take (i := 2) (v := ?_) rfl (by kernel_rfl) (by kernel_rfl) (by kernel_rfl) (fun _ _ _ h => h) (Or.inl ⟨by rfl, ?_⟩) (by assumption) ?_; rotate_left 1; focus (intro w hSw; (try dsimp only at hSw); go_simp; (try with_reducible rfl)))
              | fail
            try simp only [Act.put, List.getElem_toArray, List.getElem_cons_succ, List.getElem_cons_zero, List.setIfInBounds_toArray, List.set_cons_zero, List.set_cons_succ]
            first
              | (refine wpAnyH_take (i := 3) (v := ?_) rfl (by kernel_rfl) (by kernel_rfl) (by kernel_rfl) (fun _ _ _ h => h) (Or.inl ⟨by rfl, ?_⟩) (by assumption) ?_; rotate_left 1; focus (intro w hSw; (try dsimp only at hSw); go_simp; (try with_reducible rfl)))
              | fail
            try simp only [Act.put, List.getElem_toArray, List.getElem_cons_succ, List.getElem_cons_zero, List.setIfInBounds_toArray, List.set_cons_zero, List.set_cons_succ]
            first
              | (refine wpAnyH_take (i := 4) (v := ?_) rfl (by kernel_rfl) (by kernel_rfl) (by kernel_rfl) (fun _ _ _ h => h) (Or.inl ⟨by rfl, ?_⟩) (by assumption) ?_; rotate_left 1; focus (intro w hSw; (try dsimp only at hSw); go_simp; (try with_reducible rfl)))
              | fail
            try simp only [Act.put, List.getElem_toArray, List.getElem_cons_succ, List.getElem_cons_zero, List.setIfInBounds_toArray, List.set_cons_zero, List.set_cons_succ]
            first
              | (refine wpAnyH_take (i := 5) (v := ?_) rfl (by kernel_rfl) (by kernel_rfl) (by kernel_rfl) (fun _ _ _ h => h) (Or.inl ⟨by rfl, ?_⟩) (by assumption) ?_; rotate_left 1; focus (intro w hSw; (try dsimp only at hSw); go_simp; (try with_reducible rfl)))
              | fail
            try simp only [Act.put, List.getElem_toArray, List.getElem_cons_succ, List.getElem_cons_zero, List.setIfInBounds_toArray, List.set_cons_zero, List.set_cons_succ]
            refine wpAnyH_ready (rs := [0]) (by kernel_rfl) (by simp) ?_
            refine AllReadyH.cons rfl (fun K hK => ?_) AllReadyH.nil
            go_simp
            (go_at_call 29; with_reducible refine (cS _ hId).mono ?_; rintro e7 W7 ⟨rfl, hI7, g7, -⟩; have gW7 : Grew w W7 := hgd.trans (g7.mono hwb))
            go_wp2_with fail
            refine hK.out _ _ (by first | assumption | exact Below.drew (by assumption)) (fun hHeld => ?_)
            clear hK K
            try simp only [Act.put, List.getElem_toArray, List.getElem_cons_succ, List.getElem_cons_zero, List.setIfInBounds_toArray, List.set_cons_zero, List.set_cons_succ]
            refine wpAnyH_ready (rs := [1]) (by kernel_rfl) (by simp) ?_
            refine AllReadyH.cons rfl (fun K hK => ?_) AllReadyH.nil
            go_simp
            (go_at_call 13; with_reducible refine (cQ _ gW7).mono ?_; rintro e8 W8 ⟨rfl, g8⟩; have hI8 := builder_grew hI7 g8; have gW8 : Grew w W8 := Grew.trans' gW7 g8)
            go_wp2_with fail
            refine hK.out _ _ (by first | assumption | exact Below.drew (by assumption)) (fun hHeld => ?_)
            clear hK K
            try simp only [Act.put, List.getElem_toArray, List.getElem_cons_succ, List.getElem_cons_zero, List.setIfInBounds_toArray, List.set_cons_zero, List.set_cons_succ]
            first
              | (refine wpAnyH_take (i := 6) (v := ?_) rfl (by kernel_rfl) (by kernel_rfl) (by kernel_rfl) (fun _ _ _ h => h) (Or.inl ⟨by rfl, ?_⟩) (by assumption) ?_; rotate_left 1; focus (intro w hSw; (try dsimp only at hSw); go_simp; (try with_reducible rfl)))
              | fail
            try simp only [Act.put, List.getElem_toArray, List.getElem_cons_succ, List.getElem_cons_zero, List.setIfInBounds_toArray, List.set_cons_zero, List.set_cons_succ]
            refine wpAnyH_done (by kernel_rfl) ?_ _
            go_wp2
            go_ret3
            exact ⟨by rw [HF2.out]; rfl, gW8⟩
  · rw [unq_plain hh]
    have cP := quote_plain s w hs hu
    by_cases hsz : 0 < s.size
    · obtain ⟨c, hc⟩ : ∃ c, s.data.toList[0]? = some c := ⟨_, List.getElem?_eq_getElem (by rw [hsl]; exact hsz)⟩
      have i0 : ∀ W, (Instr.index 9 (.string s) (.int .i64 0)).run Tryd.prog W = .ok (.int .u8 (c.toNat : Int)) W := fun W => index_str s 0 c hc W
      have hc34 : c.toNat ≠ 34 := fun h => hh (by rw [List.head?_eq_getElem?, hc, show c = 34 from UInt8.toNat_inj.1 h])
      have hne : s.toList.isEmpty = false := not_empty hsz
      have hm : ((c.toNat : Int) != 34) = true := by rw [bne_iff_ne]; omega
      have e34 : ((c.toNat : Int) == 34) = false := by rw [beq_eq_false_iff_ne]; omega
      unfold plainV at cP ⊢
      by_cases hq : Pure.quoteP (s.data.toList.take (Pure.stopQ s.data.toList)) = s.data.toList.take (Pure.stopQ s.data.toList)
      · rw [if_pos hq] at cP ⊢
        clear hh hc hsl hq
        go_enter Tryd.func14, Tryd.ntmps14
        go_wp2_with (go_at_call 30; with_reducible refine cP.mono ?_)
        rintro e1 W1 ⟨rfl, g1⟩
        go_wp2
        go_ret3
        exact ⟨rfl, g1⟩
      · rw [if_neg hq] at cP ⊢
        clear hh hc hsl hq
        go_enter Tryd.func14, Tryd.ntmps14
        go_wp2_with (go_at_call 30; with_reducible refine cP.mono ?_)
        rintro e1 W1 ⟨rfl, g1⟩
        go_wp2
        go_ret3
        exact ⟨rfl, g1⟩
    · have hem : s = ⟨#[]⟩ := ba_extQ (List.eq_nil_of_length_eq_zero (by rw [hsl]; omega))
      subst hem
      have hp0 : plainV ⟨#[]⟩ = .tuple #[.string ⟨#[]⟩, .int .i64 0, .int .i64 0] ∨ plainV ⟨#[]⟩ = .tuple #[.string ⟨#[]⟩, .int .i64 0, .int .i64 4] := by
        unfold plainV
        split
        · exact .inl rfl
        · exact .inr rfl
      rcases hp0 with hp0 | hp0
      all_goals
        rw [hp0] at cP ⊢
        clear hh hsl hp0
        go_enter Tryd.func14, Tryd.ntmps14
        go_wp2_with (go_at_call 30; with_reducible refine cP.mono ?_)
        rintro e1 W1 ⟨rfl, g1⟩
        go_wp2
        go_ret3
        exact ⟨rfl, g1⟩

end Go.Proofs.YtbdcncojiejdoaaDoor
