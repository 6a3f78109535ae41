/- change.Trailer: extras and copies as lines. Conditions: texts of at most 2^30 bytes; the lines are at most 2^40 bytes. -/
import Derived.Test.YtkdmhflcpfekfaaDoorPure17
import Derived.Test.YtkdmhflcpfekfaaDoorHexa1
import Derived.Test.YtkdmhflcpfekfaaDoorQ6
import Derived.Test.YtkdmhflcpfekfaaDoorM1
namespace Go.Proofs.YtkdmhflcpfekfaaDoor
set_option linter.unusedVariables false
set_option linter.unusedSimpArgs false
open Go.RowKit

theorem two_cells {w : World} {g : Nat} {x : Two} {t : TypeId} (h : w.heap[g]? = some (.cells x.cells.toArray t (0, 0))) : w.cell? ⟨g, 0, none⟩ = some (.string x.a) ∧ w.cell? ⟨g, 1, none⟩ = some (.string x.b) :=
  ⟨by rw [cell_of_row w g 0 _ _ _ h]; rfl, by rw [cell_of_row w g 1 _ _ _ h]; rfl⟩
theorem builderLt {B b : Nat} {bs : List Value} {w : World} (h : Lib.IsBuilderF tB tU8 B b bs w) : b < w.heap.size := by
  rcases h with h | h <;> exact h.lt
theorem kept_two {b k : Nat} {x : Two} {t : TypeId} {w w' : World} (hk : Lib.OthersKept tU8 (some b) w w') (hne : k ≠ b) (ht : t ≠ tU8) (h : w.heap[k]? = some (.cells x.cells.toArray t (0, 0))) : w'.heap[k]? = some (.cells x.cells.toArray t (0, 0)) :=
  hk k _ h (by simpa using hne) (fun _ _ e => by cases e; exact ht rfl)
/-- Text's bytes, as digits. -/
theorem hex_text (s : ByteArray) (W : World) (hs : s.size ≤ 1099511627776) :
    Calls Tryd.prog 41 #[.slice (some ⟨W.heap.size, 0, none⟩) s.size (grownCap W s.size 0 5)] (Lib.bytesWorld W 5 s) fun e w' => e = .returned (.string ⟨(Pure.hex s.data.toList).toArray⟩) ∧ Grew W w' := by
  have hsl : s.data.toList.length = s.size := Array.length_toList
  obtain ⟨p, c, hv, hr, -, -⟩ := (OwnB.conv (w := W) (base := 0) s (Nat.zero_le _) (by omega)).val
  injection hv with e1 e2 e3
  subst e1
  have h := hexa_Hex (some ⟨W.heap.size, 0, none⟩) s.data.toList (grownCap W s.size 0 5) (Lib.bytesWorld W 5 s) (by omega) hr
  rw [hsl] at h
  exact h.mono fun e w' ⟨h1, h2⟩ => ⟨h1, (bytesWorld_grew W s).trans' h2⟩
theorem hex_text' (s : ByteArray) (W W' : World) (hs : s.size ≤ 1099511627776) (g : Grew (Lib.bytesWorld W 5 s) W') :
    Calls Tryd.prog 41 #[.slice (some ⟨W.heap.size, 0, none⟩) s.size (grownCap W s.size 0 5)] W' fun e w' => e = .returned (.string ⟨(Pure.hex s.data.toList).toArray⟩) ∧ Grew W' w' := by
  have hsl : s.data.toList.length = s.size := Array.length_toList
  obtain ⟨p, c, hv, hr, -, -⟩ := (OwnB.conv (w := W) (base := 0) s (Nat.zero_le _) (by omega)).val
  injection hv with e1 e2 e3
  subst e1
  have h := hexa_Hex (some ⟨W.heap.size, 0, none⟩) s.data.toList (grownCap W s.size 0 5) W' (by omega) (hr.below g (Nat.le_refl _))
  rw [hsl] at h
  exact h
theorem run_conv_text (W : World) (s : ByteArray) : (convert 9 48 (.string s)).run Tryd.prog W = .ok (.slice (some ⟨W.heap.size, 0, none⟩) s.size (grownCap W s.size 0 5)) (Lib.bytesWorld W 5 s) := by
  have h := run_conv_bytes W s
  rwa [show s.data.toList.length = s.size from Array.length_toList] at h
theorem cells_app (a b : List UInt8) : Lib.byteCells (a ++ b) = Lib.byteCells a ++ Lib.byteCells b := Lib.byteCells_append a b
theorem str_cells (s : ByteArray) : Lib.strCells s = Lib.byteCells s.data.toList := rfl
theorem extra_len (x : Two) : (extraL x).length = 8 + x.a.size + 2 * x.b.size := by
  unfold extraL
  have h1 : x.a.data.toList.length = x.a.size := Array.length_toList
  have h2 : x.b.data.toList.length = x.b.size := Array.length_toList
  simp only [List.length_append, Pure.hex_length, List.length_cons, List.length_nil, h1, h2]
  have : extraB.length = 6 := rfl
  omega
theorem copy_len (x : Two) : (copyL x).length = 7 + 2 * x.a.size + 2 * x.b.size := by
  unfold copyL
  have h1 : x.a.data.toList.length = x.a.size := Array.length_toList
  have h2 : x.b.data.toList.length = x.b.size := Array.length_toList
  simp only [List.length_append, Pure.hex_length, List.length_cons, List.length_nil, h1, h2]
  have : copyB.length = 5 := rfl
  omega
theorem take_flat_le {f : Two → List UInt8} (l : List Two) (k : Nat) : ((l.take k).flatMap f).length ≤ (l.flatMap f).length := by
  conv => rhs; rw [← List.take_append_drop k l, List.flatMap_append, List.length_append]
  omega

set_option maxRecDepth 100000 in
set_option maxHeartbeats 4000000 in
theorem change_Trailer (p q : Option Addr) (l m : List Two) (cp cq : Nat) (w : World) (hl : l.length ≤ 1073741824) (hml : m.length ≤ 1073741824) (hr : RdG kExtra w p l) (hq : RdG kCopy w q m) (hsz : (trailerP l m).length ≤ 1099511627776) :
    Calls Tryd.prog 25 #[.slice p l.length cp, .slice q m.length cq] w fun e w' => e = .returned (.string ⟨(trailerP l m).toArray⟩) ∧ Grew w w' := by
  have HR := Lib.hid hr
  have HQ := Lib.hid hq
  have hsz1 : (l.flatMap extraL).length + (m.flatMap copyL).length ≤ 1099511627776 := by unfold trailerP at hsz; rw [List.length_append] at hsz; exact hsz
  have HSZ := Lib.hid hsz1
  clear hr hq hsz hsz1
  go_enter Tryd.func25, Tryd.ntmps25
  go_wp2
  go_loopw [12] (fun i wr => ∃ k : Nat, i = .int .i64 (k : Int) ∧ k ≤ l.length ∧ Grew w wr ∧ Lib.IsBuilderF tB tU8 w.heap.size w.heap.size (Lib.byteCells ((l.take k).flatMap extraL)) wr) (fun i _ => l.length - (intOf i).toNat)
  case atStart => exact ⟨0, rfl, Nat.zero_le _, (Below.refl _ w).alloc (Nat.le_refl _) _, Lib.IsBuilderF.of (Lib.fresh_isBuilder tB tU8 w)⟩
  case round =>
    obtain ⟨k, rfl, hk, hb, hB⟩ := hrel
    obtain ⟨wo, rfl⟩ : ∃ wo : World, wo = wr := ⟨_, rfl⟩
    by_cases hlt : k < l.length
    · obtain ⟨x, hx⟩ : ∃ x, l[k]? = some x := ⟨_, List.getElem?_eq_getElem hlt⟩
      rcases HR.out with h | ⟨b, o, rfl, hc⟩
      · subst h; simp at hlt
      have rx : wo.rangeAt b (o + k * 2) x.cells := range_grew (hc k x hx) hb
      have nfx : (Tryd.prog.info? 28).map (·.size) = some x.cells.length := kExtra.size x trivial
      clear hc
      go_wp2_with (first | (refine wpList_load_mid rfl 28 _ rfl b _ rfl x.cells _ rx Tryd.underlying28 rfl nfx ?_) | (refine wpList_store_newH rfl 28 _ _ rfl wo _ rfl x.cells rfl rfl rfl nfx x.one ?_))
      intro V gV sV bV
      have gwV : Grew w V := Grew.trans' hb gV
      have hbw := builderLt hB
      have hgb : wo.heap.size ≠ w.heap.size := by omega
      have hBV := fun W (g : Grew V W) => builder_grew (builder_grew hB gV) g
      have gVV : Grew V V := Below.refl _ _
      have bW : ∀ W, Grew V W → W.heap[wo.heap.size]? = some (.cells x.cells.toArray 28 (0, 0)) := fun W g => (g.block _ (Array.getElem?_eq_some_iff.1 bV).1).trans bV
      obtain ⟨g, hg⟩ : ∃ g, wo.heap.size = g := ⟨_, rfl⟩
      rw [hg] at hgb bW bV
      have hnx := flat_next (f := extraL) hx
      have hle1 := take_flat_le (f := extraL) l (k + 1)
      rw [hnx, List.length_append, extra_len] at hle1
      have hle2 := HSZ.out
      have cH := fun W => hex_text x.b W (by omega)
      have kc := run_conv_text
      obtain ⟨H, hH⟩ : ∃ H : ByteArray, (⟨(Pure.hex x.b.data.toList).toArray⟩ : ByteArray) = H := ⟨_, rfl⟩
      have hHl : H.data.toList = Pure.hex x.b.data.toList := by rw [← hH]
      have hHs : H.size = 2 * x.b.size := by rw [Lib.size_eq, hHl, Pure.hex_length]; rfl
      simp only [hH] at cH
      obtain ⟨T1, h1⟩ : ∃ T : ByteArray, (⟨#[101, 120, 116, 114, 97, 32]⟩ : ByteArray) ++ x.a = T := ⟨_, rfl⟩
      obtain ⟨T2, h2⟩ : ∃ T : ByteArray, T1 ++ ⟨#[32]⟩ = T := ⟨_, rfl⟩
      obtain ⟨T3, h3⟩ : ∃ T : ByteArray, T2 ++ H = T := ⟨_, rfl⟩
      obtain ⟨T4, h4⟩ : ∃ T : ByteArray, T3 ++ ⟨#[10]⟩ = T := ⟨_, rfl⟩
      have s1 : T1.size = 6 + x.a.size := by rw [← h1, ByteArray.size_append]; rfl
      have s2 : T2.size = T1.size + 1 := by rw [← h2, ByteArray.size_append]; rfl
      have s3 : T3.size = T2.size + H.size := by rw [← h3, ByteArray.size_append]
      have s4 : T4.size = T3.size + 1 := by rw [← h4, ByteArray.size_append]; rfl
      have hT4 : T4.data.toList = extraL x := by
        rw [← h4, ← h3, ← h2, ← h1]
        simp only [append_list, hHl]
        rfl
      have n1 : ¬ 9223372036854775807 < 6 + x.a.size := by omega
      have n2 : ¬ 9223372036854775807 < T1.size + 1 := by omega
      have n3 : ¬ 9223372036854775807 < T2.size + H.size := by omega
      have n4 : ¬ 9223372036854775807 < T3.size + 1 := by omega
      have hcl : (Lib.byteCells ((l.take k).flatMap extraL)).length + T4.size ≤ 140737488355328 := by rw [Lib.byteCells_length]; omega
      have hnc : Lib.byteCells ((l.take k).flatMap extraL) ++ Lib.strCells T4 = Lib.byteCells ((l.take (k + 1)).flatMap extraL) := by rw [hnx, cells_app, str_cells, hT4]
      have hext : 28 ≠ tU8 := by decide
      have HNC := Lib.hid hnc
      have HG := Lib.hid hg
      clear rx nfx hnx hle1 hH hHl hHs s1 s2 s3 s4 hT4 hB hx hnc sV
      go_wp2
      rw [hg]
      clear hg
      refine wp_region_held_drew (S := fun w' => Grew w w' ∧ w'.heap[g]? = some (.cells x.cells.toArray 28 (0, 0))) (by kernel_rfl) (by (first | assumption | exact ⟨gwV.drew, bW _ (Below.drew gVV)⟩ | exact ⟨gwV.trans' (by assumption), bW _ (by assumption)⟩ | exact ⟨Grew.trans' (gwV.drew : Grew w V.drew) (bytesWorld_grew _ _), bW _ (Grew.trans' (Below.drew gVV) (bytesWorld_grew _ _))⟩)) (fun hHeld => ?_)
      first
        | (refine wpAnyH_take (i := 0) (v := ?_) rfl (by kernel_rfl) (by kernel_rfl) (by kernel_rfl) (fun _ _ _ h => h) (Or.inl ⟨by rfl, ?_⟩) (by assumption) ?_; rotate_left 1; focus (intro w hSw; (obtain ⟨hs1, hs2⟩ := hSw; obtain ⟨hs3, hs4⟩ := two_cells hs2); go_simp; (try with_reducible rfl)))
        | fail
      try simp only [Act.put, List.getElem_toArray, List.getElem_cons_succ, List.getElem_cons_zero, List.setIfInBounds_toArray, List.set_cons_zero, List.set_cons_succ]
      first
        | (refine wpAnyH_take (i := 1) (v := ?_) rfl (by kernel_rfl) (by kernel_rfl) (by kernel_rfl) (fun _ _ _ h => h) (Or.inl ⟨by rfl, ?_⟩) (by assumption) ?_; rotate_left 1; focus (intro w hSw; (obtain ⟨hs1, hs2⟩ := hSw; obtain ⟨hs3, hs4⟩ := two_cells hs2); go_simp; (try with_reducible rfl)))
        | fail
      try simp only [Act.put, List.getElem_toArray, List.getElem_cons_succ, List.getElem_cons_zero, List.setIfInBounds_toArray, List.set_cons_zero, List.set_cons_succ]
      first
        | (refine wpAnyH_take (i := 2) (v := ?_) rfl (by kernel_rfl) (by kernel_rfl) (by kernel_rfl) (fun _ _ _ h => h) (Or.inl ⟨by rfl, ?_⟩) (by assumption) ?_; rotate_left 1; focus (intro w hSw; (obtain ⟨hs1, hs2⟩ := hSw; obtain ⟨hs3, hs4⟩ := two_cells hs2); go_simp; (try with_reducible rfl)))
        | fail
      try simp only [Act.put, List.getElem_toArray, List.getElem_cons_succ, List.getElem_cons_zero, List.setIfInBounds_toArray, List.set_cons_zero, List.set_cons_succ]
      first
        | (refine wpAnyH_take (i := 3) (v := ?_) rfl (by kernel_rfl) (by kernel_rfl) (by kernel_rfl) (fun _ _ _ h => h) (Or.inl ⟨by rfl, ?_⟩) (by assumption) ?_; rotate_left 1; focus (intro w hSw; (obtain ⟨hs1, hs2⟩ := hSw; obtain ⟨hs3, hs4⟩ := two_cells hs2); go_simp; (try with_reducible rfl)))
        | fail
      try simp only [Act.put, List.getElem_toArray, List.getElem_cons_succ, List.getElem_cons_zero, List.setIfInBounds_toArray, List.set_cons_zero, List.set_cons_succ]
      first
        | (refine wpAnyH_take (i := 4) (v := ?_) rfl (by kernel_rfl) (by kernel_rfl) (by kernel_rfl) (fun _ _ _ h => h) (Or.inl ⟨by rfl, ?_⟩) (by assumption) ?_; rotate_left 1; focus (intro w hSw; (obtain ⟨hs1, hs2⟩ := hSw; obtain ⟨hs3, hs4⟩ := two_cells hs2); go_simp; (try with_reducible rfl)))
        | fail
      try simp only [Act.put, List.getElem_toArray, List.getElem_cons_succ, List.getElem_cons_zero, List.setIfInBounds_toArray, List.set_cons_zero, List.set_cons_succ]
      first
        | (refine wpAnyH_take (i := 5) (v := ?_) rfl (by kernel_rfl) (by kernel_rfl) (by kernel_rfl) (fun _ _ _ h => h) (Or.inl ⟨by rfl, ?_⟩) (by assumption) ?_; rotate_left 1; focus (intro w hSw; (obtain ⟨hs1, hs2⟩ := hSw; obtain ⟨hs3, hs4⟩ := two_cells hs2); go_simp; (try with_reducible rfl)))
        | fail
      try simp only [Act.put, List.getElem_toArray, List.getElem_cons_succ, List.getElem_cons_zero, List.setIfInBounds_toArray, List.set_cons_zero, List.set_cons_succ]
      refine wpAnyH_ready (rs := [6]) (by kernel_rfl) (by simp) ?_
      refine AllReadyH.cons rfl (fun K hK => ?_) AllReadyH.nil
      go_simp
      skip
      go_wp2_with fail
      refine hK.out _ _ (by (first | assumption | exact ⟨gwV.drew, bW _ (Below.drew gVV)⟩ | exact ⟨gwV.trans' (by assumption), bW _ (by assumption)⟩ | exact ⟨Grew.trans' (gwV.drew : Grew w V.drew) (bytesWorld_grew _ _), bW _ (Grew.trans' (Below.drew gVV) (bytesWorld_grew _ _))⟩)) (fun hHeld => ?_)
      clear hK K
      try simp only [Act.put, List.getElem_toArray, List.getElem_cons_succ, List.getElem_cons_zero, List.setIfInBounds_toArray, List.set_cons_zero, List.set_cons_succ]
      refine wpAnyH_ready (rs := [7]) (by kernel_rfl) (by simp) ?_
      refine AllReadyH.cons rfl (fun K hK => ?_) AllReadyH.nil
      go_simp
      (go_at_call 41; refine (cH V.drew).mono ?_; rintro e1 W1 ⟨rfl, g1⟩; replace g1 : Grew V W1 := Grew.trans' (Below.drew gVV) g1)
      go_wp2_with fail
      refine hK.out _ _ (by (first | assumption | exact ⟨gwV.drew, bW _ (Below.drew gVV)⟩ | exact ⟨gwV.trans' (by assumption), bW _ (by assumption)⟩ | exact ⟨Grew.trans' (gwV.drew : Grew w V.drew) (bytesWorld_grew _ _), bW _ (Grew.trans' (Below.drew gVV) (bytesWorld_grew _ _))⟩)) (fun hHeld => ?_)
      clear hK K
      try simp only [Act.put, List.getElem_toArray, List.getElem_cons_succ, List.getElem_cons_zero, List.setIfInBounds_toArray, List.set_cons_zero, List.set_cons_succ]
      first
        | (refine wpAnyH_take (i := 8) (v := ?_) rfl (by kernel_rfl) (by kernel_rfl) (by kernel_rfl) (fun _ _ _ h => h) (Or.inl ⟨by rfl, ?_⟩) (by assumption) ?_; rotate_left 1; focus (intro w hSw; (obtain ⟨hs1, hs2⟩ := hSw; obtain ⟨hs3, hs4⟩ := two_cells hs2); go_simp; (try with_reducible rfl)))
        | fail
      try simp only [Act.put, List.getElem_toArray, List.getElem_cons_succ, List.getElem_cons_zero, List.setIfInBounds_toArray, List.set_cons_zero, List.set_cons_succ]
      first
        | (refine wpAnyH_take (i := 9) (v := ?_) rfl (by kernel_rfl) (by kernel_rfl) (by kernel_rfl) (fun _ _ _ h => h) (Or.inl ⟨by rfl, ?_⟩) (by assumption) ?_; rotate_left 1; focus (intro w hSw; (obtain ⟨hs1, hs2⟩ := hSw; obtain ⟨hs3, hs4⟩ := two_cells hs2); go_simp; (try with_reducible rfl)))
        | fail
      try simp only [Act.put, List.getElem_toArray, List.getElem_cons_succ, List.getElem_cons_zero, List.setIfInBounds_toArray, List.set_cons_zero, List.set_cons_succ]
      refine wpAnyH_ready (rs := [10]) (by kernel_rfl) (by simp) ?_
      refine AllReadyH.cons rfl (fun K hK => ?_) AllReadyH.nil
      go_simp
      (go_at_call 40; refine (writeString w.heap.size w.heap.size _ T4 W1 (hBV W1 (by assumption)) hcl (gwV.trans' (by assumption)).size).mono ?_; rintro e9 W9 ⟨rfl, hI9, hb9, hk9⟩; have hS9 : Grew w W9 ∧ W9.heap[g]? = some (.cells x.cells.toArray 28 (0, 0)) := ⟨(gwV.trans' (by assumption)).trans hb9, kept_two hk9 hgb hext (bW W1 (by assumption))⟩)
      go_wp2_with fail
      refine hK.out _ _ (by (first | assumption | exact ⟨gwV.drew, bW _ (Below.drew gVV)⟩ | exact ⟨gwV.trans' (by assumption), bW _ (by assumption)⟩ | exact ⟨Grew.trans' (gwV.drew : Grew w V.drew) (bytesWorld_grew _ _), bW _ (Grew.trans' (Below.drew gVV) (bytesWorld_grew _ _))⟩)) (fun hHeld => ?_)
      clear hK K
      try simp only [Act.put, List.getElem_toArray, List.getElem_cons_succ, List.getElem_cons_zero, List.setIfInBounds_toArray, List.set_cons_zero, List.set_cons_succ]
      refine wpAnyH_done (by kernel_rfl) ?_ _
      rw [HNC.out] at hI9
      go_wp2
      go_roundw
      case rel => exact ⟨k + 1, by go_num, by omega, hS9.1, hI9⟩
      case measure => simp [intOf]; omega
    · obtain rfl : k = l.length := by omega
      rw [List.take_length] at hB
      obtain ⟨E0, hE0⟩ : ∃ E0, l.flatMap extraL = E0 := ⟨_, rfl⟩
      have hT0 : trailerP l m = E0 ++ m.flatMap copyL := by unfold trailerP; rw [hE0]
      rw [hE0] at hB
      have hle0 := HSZ.out
      rw [hE0] at hle0
      have HT0 := Lib.hid hT0
      have HLE := Lib.hid hle0
      clear hlt hE0 hT0 hle0 HSZ
      go_wp2
      go_loopw [30] (fun i wr => ∃ k : Nat, i = .int .i64 (k : Int) ∧ k ≤ m.length ∧ Grew w wr ∧ Lib.IsBuilderF tB tU8 w.heap.size w.heap.size (Lib.byteCells (E0 ++ (m.take k).flatMap copyL)) wr) (fun i _ => m.length - (intOf i).toNat)
      case atStart => exact ⟨0, rfl, Nat.zero_le _, hb, by simpa using hB⟩
      case round =>
        obtain ⟨k, rfl, hk, hb, hB⟩ := hrel
        obtain ⟨wp, rfl⟩ : ∃ wp : World, wp = wr := ⟨_, rfl⟩
        by_cases hlt : k < m.length
        · obtain ⟨x, hx⟩ : ∃ x, m[k]? = some x := ⟨_, List.getElem?_eq_getElem hlt⟩
          rcases HQ.out with h | ⟨b, o, rfl, hc⟩
          · subst h; simp at hlt
          have rx : wp.rangeAt b (o + k * 2) x.cells := range_grew (hc k x hx) hb
          have nfx : (Tryd.prog.info? 31).map (·.size) = some x.cells.length := kCopy.size x trivial
          clear hc
          go_wp2_with (first | (refine wpList_load_mid rfl 31 _ rfl b _ rfl x.cells _ rx Tryd.underlying31 rfl nfx ?_) | (refine wpList_store_newH rfl 31 _ _ rfl wp _ rfl x.cells rfl rfl rfl nfx x.one ?_))
          intro V gV sV bV
          have gwV : Grew w V := Grew.trans' hb gV
          have hbw := builderLt hB
          have hgb : wp.heap.size ≠ w.heap.size := by omega
          have hBV := fun W (g : Grew V W) => builder_grew (builder_grew hB gV) g
          have gVV : Grew V V := Below.refl _ _
          have bW : ∀ W, Grew V W → W.heap[wp.heap.size]? = some (.cells x.cells.toArray 31 (0, 0)) := fun W g => (g.block _ (Array.getElem?_eq_some_iff.1 bV).1).trans bV
          obtain ⟨g, hg⟩ : ∃ g, wp.heap.size = g := ⟨_, rfl⟩
          rw [hg] at hgb bW bV
          have hnx := flat_next (f := copyL) hx
          have hle1 := take_flat_le (f := copyL) m (k + 1)
          rw [hnx, List.length_append, copy_len] at hle1
          have hle2 := HLE.out
          have hxa40 : x.a.size ≤ 1099511627776 := by omega
          have hxb40 : x.b.size ≤ 1099511627776 := by omega
          obtain ⟨H1, hH1⟩ : ∃ H : ByteArray, (⟨(Pure.hex x.a.data.toList).toArray⟩ : ByteArray) = H := ⟨_, rfl⟩
          obtain ⟨H2, hH2⟩ : ∃ H : ByteArray, (⟨(Pure.hex x.b.data.toList).toArray⟩ : ByteArray) = H := ⟨_, rfl⟩
          have hH1l : H1.data.toList = Pure.hex x.a.data.toList := by rw [← hH1]
          have hH2l : H2.data.toList = Pure.hex x.b.data.toList := by rw [← hH2]
          have hH1s : H1.size = 2 * x.a.size := by rw [Lib.size_eq, hH1l, Pure.hex_length]; rfl
          have hH2s : H2.size = 2 * x.b.size := by rw [Lib.size_eq, hH2l, Pure.hex_length]; rfl
          have cA := fun W W' g => hex_text' x.a W W' hxa40 g
          have cB := fun W W' g => hex_text' x.b W W' hxb40 g
          simp only [hH1] at cA
          simp only [hH2] at cB
          have hdr : V.drew.heap.size = V.heap.size := rfl
          have kA0 := run_conv_text V.drew x.a
          have kB0 := run_conv_text V.drew x.b
          have cA0 := cA V.drew
          have cB0 := cB V.drew
          have gA0 := bytesWorld_grew V.drew x.a
          have gB0 := bytesWorld_grew V.drew x.b
          rw [hdr] at kA0 kB0 cA0 cB0
          generalize grownCap V.drew x.a.size 0 5 = ca at kA0 cA0
          generalize grownCap V.drew x.b.size 0 5 = cb at kB0 cB0
          generalize Lib.bytesWorld V.drew 5 x.a = UA at kA0 cA0 gA0
          generalize Lib.bytesWorld V.drew 5 x.b = UB at kB0 cB0 gB0
          have gVA : Grew V UA := Grew.trans' (Below.drew gVV) gA0
          have gVB : Grew V UB := Grew.trans' (Below.drew gVV) gB0
          have kAB := run_conv_text UA x.b
          have kBA := run_conv_text UB x.a
          have cAB := cB UA
          have cBA := cA UB
          have gAB := bytesWorld_grew UA x.b
          have gBA := bytesWorld_grew UB x.a
          generalize grownCap UA x.b.size 0 5 = cab at kAB cAB
          generalize grownCap UB x.a.size 0 5 = cba at kBA cBA
          generalize Lib.bytesWorld UA 5 x.b = UAB at kAB cAB gAB
          generalize Lib.bytesWorld UB 5 x.a = UBA at kBA cBA gBA
          have gVAB : Grew V UAB := gVA.trans' gAB
          have gVBA : Grew V UBA := gVB.trans' gBA
          have gAA : Grew UA UA := Below.refl _ _
          have gBABA : Grew UBA UBA := Below.refl _ _
          have HKB := Lib.hid (fun W => run_conv_text W x.b)
          have HCB := Lib.hid cB
          clear hdr cA cB gA0 gB0
          obtain ⟨T1, h1⟩ : ∃ T : ByteArray, (⟨#[99, 111, 112, 121, 32]⟩ : ByteArray) ++ H1 = T := ⟨_, rfl⟩
          obtain ⟨T2, h2⟩ : ∃ T : ByteArray, T1 ++ ⟨#[32]⟩ = T := ⟨_, rfl⟩
          obtain ⟨T3, h3⟩ : ∃ T : ByteArray, T2 ++ H2 = T := ⟨_, rfl⟩
          obtain ⟨T4, h4⟩ : ∃ T : ByteArray, T3 ++ ⟨#[10]⟩ = T := ⟨_, rfl⟩
          have s1 : T1.size = 5 + H1.size := by rw [← h1, ByteArray.size_append]; rfl
          have s2 : T2.size = T1.size + 1 := by rw [← h2, ByteArray.size_append]; rfl
          have s3 : T3.size = T2.size + H2.size := by rw [← h3, ByteArray.size_append]
          have s4 : T4.size = T3.size + 1 := by rw [← h4, ByteArray.size_append]; rfl
          have hT4 : T4.data.toList = copyL x := by
            rw [← h4, ← h3, ← h2, ← h1]
            simp only [append_list, hH1l, hH2l]
            rfl
          have n1 : ¬ 9223372036854775807 < 5 + H1.size := by omega
          have n2 : ¬ 9223372036854775807 < T1.size + 1 := by omega
          have n3 : ¬ 9223372036854775807 < T2.size + H2.size := by omega
          have n4 : ¬ 9223372036854775807 < T3.size + 1 := by omega
          have hcl : (Lib.byteCells (E0 ++ (m.take k).flatMap copyL)).length + T4.size ≤ 140737488355328 := by rw [Lib.byteCells_length, List.length_append]; omega
          have hnc : Lib.byteCells (E0 ++ (m.take k).flatMap copyL) ++ Lib.strCells T4 = Lib.byteCells (E0 ++ (m.take (k + 1)).flatMap copyL) := by rw [hnx, str_cells, hT4, ← cells_app, List.append_assoc]
          have hext : 31 ≠ tU8 := by decide
          have HNC := Lib.hid hnc
          clear rx nfx hnx hle1 hH1 hH1l hH1s hH2 hH2l hH2s s1 s2 s3 s4 hT4 hB hx hnc sV
          go_wp2
          rw [hg]
          clear hg
          refine wp_region_held_drew (S := fun w' => Grew w w' ∧ w'.heap[g]? = some (.cells x.cells.toArray 31 (0, 0))) (by kernel_rfl) (by (first | assumption | exact ⟨gwV.drew, bW _ (Below.drew gVV)⟩ | exact ⟨gwV.trans' (by assumption), bW _ (by assumption)⟩ | exact ⟨Grew.trans' (gwV.drew : Grew w V.drew) (bytesWorld_grew _ _), bW _ (Grew.trans' (Below.drew gVV) (bytesWorld_grew _ _))⟩ | exact ⟨(gwV.trans' (by assumption)).trans' (bytesWorld_grew _ _), bW _ (Grew.trans' (by assumption) (bytesWorld_grew _ _))⟩)) (fun hHeld => ?_)
          first
            | (refine wpAnyH_take (i := 0) (v := ?_) rfl (by kernel_rfl) (by kernel_rfl) (by kernel_rfl) (fun _ _ _ h => h) (Or.inl ⟨by rfl, ?_⟩) (by assumption) ?_; rotate_left 1; focus (intro w hSw; (obtain ⟨hs1, hs2⟩ := hSw; obtain ⟨hs3, hs4⟩ := two_cells hs2); go_simp; (try with_reducible rfl)))
            | fail
          try simp only [Act.put, List.getElem_toArray, List.getElem_cons_succ, List.getElem_cons_zero, List.setIfInBounds_toArray, List.set_cons_zero, List.set_cons_succ]
          first
            | (refine wpAnyH_take (i := 1) (v := ?_) rfl (by kernel_rfl) (by kernel_rfl) (by kernel_rfl) (fun _ _ _ h => h) (Or.inl ⟨by rfl, ?_⟩) (by assumption) ?_; rotate_left 1; focus (intro w hSw; (obtain ⟨hs1, hs2⟩ := hSw; obtain ⟨hs3, hs4⟩ := two_cells hs2); go_simp; (try with_reducible rfl)))
            | fail
          try simp only [Act.put, List.getElem_toArray, List.getElem_cons_succ, List.getElem_cons_zero, List.setIfInBounds_toArray, List.set_cons_zero, List.set_cons_succ]
          first
            | (refine wpAnyH_take (i := 6) (v := ?_) rfl (by kernel_rfl) (by kernel_rfl) (by kernel_rfl) (fun _ _ _ h => h) (Or.inl ⟨by rfl, ?_⟩) (by assumption) ?_; rotate_left 1; focus (intro w hSw; (obtain ⟨hs1, hs2⟩ := hSw; obtain ⟨hs3, hs4⟩ := two_cells hs2); go_simp; (try with_reducible rfl)))
            | fail
          try simp only [Act.put, List.getElem_toArray, List.getElem_cons_succ, List.getElem_cons_zero, List.setIfInBounds_toArray, List.set_cons_zero, List.set_cons_succ]
          first
            | (refine wpAnyH_take (i := 7) (v := ?_) rfl (by kernel_rfl) (by kernel_rfl) (by kernel_rfl) (fun _ _ _ h => h) (Or.inl ⟨by rfl, ?_⟩) (by assumption) ?_; rotate_left 1; focus (intro w hSw; (obtain ⟨hs1, hs2⟩ := hSw; obtain ⟨hs3, hs4⟩ := two_cells hs2); go_simp; (try with_reducible rfl)))
            | fail
          try simp only [Act.put, List.getElem_toArray, List.getElem_cons_succ, List.getElem_cons_zero, List.setIfInBounds_toArray, List.set_cons_zero, List.set_cons_succ]
          refine wpAnyH_ready (rs := [2, 8]) (by kernel_rfl) (by simp) ?_
          refine AllReadyH.cons rfl (fun K hK => ?_) (AllReadyH.cons rfl (fun K hK => ?_) AllReadyH.nil)
          · go_simp
            skip
            go_wp2_with fail
            refine hK.out _ _ (by (first | assumption | exact ⟨gwV.drew, bW _ (Below.drew gVV)⟩ | exact ⟨gwV.trans' (by assumption), bW _ (by assumption)⟩ | exact ⟨Grew.trans' (gwV.drew : Grew w V.drew) (bytesWorld_grew _ _), bW _ (Grew.trans' (Below.drew gVV) (bytesWorld_grew _ _))⟩ | exact ⟨(gwV.trans' (by assumption)).trans' (bytesWorld_grew _ _), bW _ (Grew.trans' (by assumption) (bytesWorld_grew _ _))⟩)) (fun hHeld => ?_)
            clear hK K
            try simp only [Act.put, List.getElem_toArray, List.getElem_cons_succ, List.getElem_cons_zero, List.setIfInBounds_toArray, List.set_cons_zero, List.set_cons_succ]
            refine wpAnyH_ready (rs := [3, 8]) (by kernel_rfl) (by simp) ?_
            refine AllReadyH.cons rfl (fun K hK => ?_) (AllReadyH.cons rfl (fun K hK => ?_) AllReadyH.nil)
            · go_simp
              (go_at_call 41; (first | (with_reducible refine (cA0 _ (by assumption)).mono ?_) | (with_reducible refine (cBA _ (by assumption)).mono ?_)); rintro e1 W1 ⟨rfl, g1⟩; have gV1 : Grew V W1 := Grew.trans' (by assumption) g1; (try have gB1 : Grew UB W1 := Grew.trans' gBA g1); clear kA0 kB0 kAB kBA)
              go_wp2_with fail
              refine hK.out _ _ (by (first | assumption | exact ⟨gwV.drew, bW _ (Below.drew gVV)⟩ | exact ⟨gwV.trans' (by assumption), bW _ (by assumption)⟩ | exact ⟨Grew.trans' (gwV.drew : Grew w V.drew) (bytesWorld_grew _ _), bW _ (Grew.trans' (Below.drew gVV) (bytesWorld_grew _ _))⟩ | exact ⟨(gwV.trans' (by assumption)).trans' (bytesWorld_grew _ _), bW _ (Grew.trans' (by assumption) (bytesWorld_grew _ _))⟩)) (fun hHeld => ?_)
              clear hK K
              try simp only [Act.put, List.getElem_toArray, List.getElem_cons_succ, List.getElem_cons_zero, List.setIfInBounds_toArray, List.set_cons_zero, List.set_cons_succ]
              first
                | (refine wpAnyH_take (i := 4) (v := ?_) rfl (by kernel_rfl) (by kernel_rfl) (by kernel_rfl) (fun _ _ _ h => h) (Or.inl ⟨by rfl, ?_⟩) (by assumption) ?_; rotate_left 1; focus (intro w hSw; (obtain ⟨hs1, hs2⟩ := hSw; obtain ⟨hs3, hs4⟩ := two_cells hs2); go_simp; (try with_reducible rfl)))
                | fail
              try simp only [Act.put, List.getElem_toArray, List.getElem_cons_succ, List.getElem_cons_zero, List.setIfInBounds_toArray, List.set_cons_zero, List.set_cons_succ]
              first
                | (refine wpAnyH_take (i := 5) (v := ?_) rfl (by kernel_rfl) (by kernel_rfl) (by kernel_rfl) (fun _ _ _ h => h) (Or.inl ⟨by rfl, ?_⟩) (by assumption) ?_; rotate_left 1; focus (intro w hSw; (obtain ⟨hs1, hs2⟩ := hSw; obtain ⟨hs3, hs4⟩ := two_cells hs2); go_simp; (try with_reducible rfl)))
                | fail
              try simp only [Act.put, List.getElem_toArray, List.getElem_cons_succ, List.getElem_cons_zero, List.setIfInBounds_toArray, List.set_cons_zero, List.set_cons_succ]
              try have kBW := HKB.out W1
              refine wpAnyH_ready (rs := [8]) (by kernel_rfl) (by simp) ?_
              refine AllReadyH.cons rfl (fun K hK => ?_) AllReadyH.nil
              go_simp
              skip
              go_wp2_with fail
              refine hK.out _ _ (by (first | assumption | exact ⟨gwV.drew, bW _ (Below.drew gVV)⟩ | exact ⟨gwV.trans' (by assumption), bW _ (by assumption)⟩ | exact ⟨Grew.trans' (gwV.drew : Grew w V.drew) (bytesWorld_grew _ _), bW _ (Grew.trans' (Below.drew gVV) (bytesWorld_grew _ _))⟩ | exact ⟨(gwV.trans' (by assumption)).trans' (bytesWorld_grew _ _), bW _ (Grew.trans' (by assumption) (bytesWorld_grew _ _))⟩)) (fun hHeld => ?_)
              clear hK K
              try simp only [Act.put, List.getElem_toArray, List.getElem_cons_succ, List.getElem_cons_zero, List.setIfInBounds_toArray, List.set_cons_zero, List.set_cons_succ]
              refine wpAnyH_ready (rs := [9]) (by kernel_rfl) (by simp) ?_
              refine AllReadyH.cons rfl (fun K hK => ?_) AllReadyH.nil
              go_simp
              (go_at_call 41; (first | (with_reducible refine (cAB _ (by assumption)).mono ?_) | (with_reducible refine (cB0 _ (by assumption)).mono ?_) | (with_reducible refine (HCB.out W1 _ (Below.refl _ _)).mono ?_)); rintro e2 W2 ⟨rfl, g2⟩; have gV2 : Grew V W2 := Grew.trans' (by first | assumption | exact Grew.trans' (by assumption) (bytesWorld_grew _ _)) g2)
              go_wp2_with fail
              refine hK.out _ _ (by (first | assumption | exact ⟨gwV.drew, bW _ (Below.drew gVV)⟩ | exact ⟨gwV.trans' (by assumption), bW _ (by assumption)⟩ | exact ⟨Grew.trans' (gwV.drew : Grew w V.drew) (bytesWorld_grew _ _), bW _ (Grew.trans' (Below.drew gVV) (bytesWorld_grew _ _))⟩ | exact ⟨(gwV.trans' (by assumption)).trans' (bytesWorld_grew _ _), bW _ (Grew.trans' (by assumption) (bytesWorld_grew _ _))⟩)) (fun hHeld => ?_)
              clear hK K
              try simp only [Act.put, List.getElem_toArray, List.getElem_cons_succ, List.getElem_cons_zero, List.setIfInBounds_toArray, List.set_cons_zero, List.set_cons_succ]
              first
                | (refine wpAnyH_take (i := 10) (v := ?_) rfl (by kernel_rfl) (by kernel_rfl) (by kernel_rfl) (fun _ _ _ h => h) (Or.inl ⟨by rfl, ?_⟩) (by assumption) ?_; rotate_left 1; focus (intro w hSw; (obtain ⟨hs1, hs2⟩ := hSw; obtain ⟨hs3, hs4⟩ := two_cells hs2); go_simp; (try with_reducible rfl)))
                | fail
              try simp only [Act.put, List.getElem_toArray, List.getElem_cons_succ, List.getElem_cons_zero, List.setIfInBounds_toArray, List.set_cons_zero, List.set_cons_succ]
              first
                | (refine wpAnyH_take (i := 11) (v := ?_) rfl (by kernel_rfl) (by kernel_rfl) (by kernel_rfl) (fun _ _ _ h => h) (Or.inl ⟨by rfl, ?_⟩) (by assumption) ?_; rotate_left 1; focus (intro w hSw; (obtain ⟨hs1, hs2⟩ := hSw; obtain ⟨hs3, hs4⟩ := two_cells hs2); go_simp; (try with_reducible rfl)))
                | fail
              try simp only [Act.put, List.getElem_toArray, List.getElem_cons_succ, List.getElem_cons_zero, List.setIfInBounds_toArray, List.set_cons_zero, List.set_cons_succ]
              refine wpAnyH_ready (rs := [12]) (by kernel_rfl) (by simp) ?_
              refine AllReadyH.cons rfl (fun K hK => ?_) AllReadyH.nil
              go_simp
              (go_at_call 40; refine (writeString w.heap.size w.heap.size _ T4 W2 (hBV W2 (by assumption)) hcl (gwV.trans' (show Grew V W2 by assumption)).size).mono ?_; rintro e9 W9 ⟨rfl, hI9, hb9, hk9⟩; have hS9 : Grew w W9 ∧ W9.heap[g]? = some (.cells x.cells.toArray 31 (0, 0)) := ⟨(gwV.trans' (show Grew V W2 by assumption)).trans hb9, kept_two hk9 hgb hext (bW W2 (by assumption))⟩)
              go_wp2_with fail
              refine hK.out _ _ (by (first | assumption | exact ⟨gwV.drew, bW _ (Below.drew gVV)⟩ | exact ⟨gwV.trans' (by assumption), bW _ (by assumption)⟩ | exact ⟨Grew.trans' (gwV.drew : Grew w V.drew) (bytesWorld_grew _ _), bW _ (Grew.trans' (Below.drew gVV) (bytesWorld_grew _ _))⟩ | exact ⟨(gwV.trans' (by assumption)).trans' (bytesWorld_grew _ _), bW _ (Grew.trans' (by assumption) (bytesWorld_grew _ _))⟩)) (fun hHeld => ?_)
              clear hK K
              try simp only [Act.put, List.getElem_toArray, List.getElem_cons_succ, List.getElem_cons_zero, List.setIfInBounds_toArray, List.set_cons_zero, List.set_cons_succ]
              refine wpAnyH_done (by kernel_rfl) ?_ _
              rw [HNC.out] at hI9
              go_wp2
              go_roundw
              case rel => exact ⟨k + 1, by go_num, by omega, hS9.1, hI9⟩
              case measure => simp [intOf]; omega
            · go_simp
              skip
              go_wp2_with fail
              refine hK.out _ _ (by (first | assumption | exact ⟨gwV.drew, bW _ (Below.drew gVV)⟩ | exact ⟨gwV.trans' (by assumption), bW _ (by assumption)⟩ | exact ⟨Grew.trans' (gwV.drew : Grew w V.drew) (bytesWorld_grew _ _), bW _ (Grew.trans' (Below.drew gVV) (bytesWorld_grew _ _))⟩ | exact ⟨(gwV.trans' (by assumption)).trans' (bytesWorld_grew _ _), bW _ (Grew.trans' (by assumption) (bytesWorld_grew _ _))⟩)) (fun hHeld => ?_)
              clear hK K
              try simp only [Act.put, List.getElem_toArray, List.getElem_cons_succ, List.getElem_cons_zero, List.setIfInBounds_toArray, List.set_cons_zero, List.set_cons_succ]
              refine wpAnyH_ready (rs := [3]) (by kernel_rfl) (by simp) ?_
              refine AllReadyH.cons rfl (fun K hK => ?_) AllReadyH.nil
              go_simp
              (go_at_call 41; (first | (with_reducible refine (cA0 _ (by assumption)).mono ?_) | (with_reducible refine (cBA _ (by assumption)).mono ?_)); rintro e1 W1 ⟨rfl, g1⟩; have gV1 : Grew V W1 := Grew.trans' (by assumption) g1; (try have gB1 : Grew UB W1 := Grew.trans' gBA g1); clear kA0 kB0 kAB kBA)
              go_wp2_with fail
              refine hK.out _ _ (by (first | assumption | exact ⟨gwV.drew, bW _ (Below.drew gVV)⟩ | exact ⟨gwV.trans' (by assumption), bW _ (by assumption)⟩ | exact ⟨Grew.trans' (gwV.drew : Grew w V.drew) (bytesWorld_grew _ _), bW _ (Grew.trans' (Below.drew gVV) (bytesWorld_grew _ _))⟩ | exact ⟨(gwV.trans' (by assumption)).trans' (bytesWorld_grew _ _), bW _ (Grew.trans' (by assumption) (bytesWorld_grew _ _))⟩)) (fun hHeld => ?_)
              clear hK K
              try simp only [Act.put, List.getElem_toArray, List.getElem_cons_succ, List.getElem_cons_zero, List.setIfInBounds_toArray, List.set_cons_zero, List.set_cons_succ]
              first
                | (refine wpAnyH_take (i := 4) (v := ?_) rfl (by kernel_rfl) (by kernel_rfl) (by kernel_rfl) (fun _ _ _ h => h) (Or.inl ⟨by rfl, ?_⟩) (by assumption) ?_; rotate_left 1; focus (intro w hSw; (obtain ⟨hs1, hs2⟩ := hSw; obtain ⟨hs3, hs4⟩ := two_cells hs2); go_simp; (try with_reducible rfl)))
                | fail
              try simp only [Act.put, List.getElem_toArray, List.getElem_cons_succ, List.getElem_cons_zero, List.setIfInBounds_toArray, List.set_cons_zero, List.set_cons_succ]
              first
                | (refine wpAnyH_take (i := 5) (v := ?_) rfl (by kernel_rfl) (by kernel_rfl) (by kernel_rfl) (fun _ _ _ h => h) (Or.inl ⟨by rfl, ?_⟩) (by assumption) ?_; rotate_left 1; focus (intro w hSw; (obtain ⟨hs1, hs2⟩ := hSw; obtain ⟨hs3, hs4⟩ := two_cells hs2); go_simp; (try with_reducible rfl)))
                | fail
              try simp only [Act.put, List.getElem_toArray, List.getElem_cons_succ, List.getElem_cons_zero, List.setIfInBounds_toArray, List.set_cons_zero, List.set_cons_succ]
              refine wpAnyH_ready (rs := [9]) (by kernel_rfl) (by simp) ?_
              refine AllReadyH.cons rfl (fun K hK => ?_) AllReadyH.nil
              go_simp
              (go_at_call 41; (first | (with_reducible refine (cAB _ (by assumption)).mono ?_) | (with_reducible refine (cB0 _ (by assumption)).mono ?_) | (with_reducible refine (HCB.out W1 _ (Below.refl _ _)).mono ?_)); rintro e2 W2 ⟨rfl, g2⟩; have gV2 : Grew V W2 := Grew.trans' (by first | assumption | exact Grew.trans' (by assumption) (bytesWorld_grew _ _)) g2)
              go_wp2_with fail
              refine hK.out _ _ (by (first | assumption | exact ⟨gwV.drew, bW _ (Below.drew gVV)⟩ | exact ⟨gwV.trans' (by assumption), bW _ (by assumption)⟩ | exact ⟨Grew.trans' (gwV.drew : Grew w V.drew) (bytesWorld_grew _ _), bW _ (Grew.trans' (Below.drew gVV) (bytesWorld_grew _ _))⟩ | exact ⟨(gwV.trans' (by assumption)).trans' (bytesWorld_grew _ _), bW _ (Grew.trans' (by assumption) (bytesWorld_grew _ _))⟩)) (fun hHeld => ?_)
              clear hK K
              try simp only [Act.put, List.getElem_toArray, List.getElem_cons_succ, List.getElem_cons_zero, List.setIfInBounds_toArray, List.set_cons_zero, List.set_cons_succ]
              first
                | (refine wpAnyH_take (i := 10) (v := ?_) rfl (by kernel_rfl) (by kernel_rfl) (by kernel_rfl) (fun _ _ _ h => h) (Or.inl ⟨by rfl, ?_⟩) (by assumption) ?_; rotate_left 1; focus (intro w hSw; (obtain ⟨hs1, hs2⟩ := hSw; obtain ⟨hs3, hs4⟩ := two_cells hs2); go_simp; (try with_reducible rfl)))
                | fail
              try simp only [Act.put, List.getElem_toArray, List.getElem_cons_succ, List.getElem_cons_zero, List.setIfInBounds_toArray, List.set_cons_zero, List.set_cons_succ]
              first
                | (refine wpAnyH_take (i := 11) (v := ?_) rfl (by kernel_rfl) (by kernel_rfl) (by kernel_rfl) (fun _ _ _ h => h) (Or.inl ⟨by rfl, ?_⟩) (by assumption) ?_; rotate_left 1; focus (intro w hSw; (obtain ⟨hs1, hs2⟩ := hSw; obtain ⟨hs3, hs4⟩ := two_cells hs2); go_simp; (try with_reducible rfl)))
                | fail
              try simp only [Act.put, List.getElem_toArray, List.getElem_cons_succ, List.getElem_cons_zero, List.setIfInBounds_toArray, List.set_cons_zero, List.set_cons_succ]
              refine wpAnyH_ready (rs := [12]) (by kernel_rfl) (by simp) ?_
              refine AllReadyH.cons rfl (fun K hK => ?_) AllReadyH.nil
              go_simp
              (go_at_call 40; refine (writeString w.heap.size w.heap.size _ T4 W2 (hBV W2 (by assumption)) hcl (gwV.trans' (show Grew V W2 by assumption)).size).mono ?_; rintro e9 W9 ⟨rfl, hI9, hb9, hk9⟩; have hS9 : Grew w W9 ∧ W9.heap[g]? = some (.cells x.cells.toArray 31 (0, 0)) := ⟨(gwV.trans' (show Grew V W2 by assumption)).trans hb9, kept_two hk9 hgb hext (bW W2 (by assumption))⟩)
              go_wp2_with fail
              refine hK.out _ _ (by (first | assumption | exact ⟨gwV.drew, bW _ (Below.drew gVV)⟩ | exact ⟨gwV.trans' (by assumption), bW _ (by assumption)⟩ | exact ⟨Grew.trans' (gwV.drew : Grew w V.drew) (bytesWorld_grew _ _), bW _ (Grew.trans' (Below.drew gVV) (bytesWorld_grew _ _))⟩ | exact ⟨(gwV.trans' (by assumption)).trans' (bytesWorld_grew _ _), bW _ (Grew.trans' (by assumption) (bytesWorld_grew _ _))⟩)) (fun hHeld => ?_)
              clear hK K
              try simp only [Act.put, List.getElem_toArray, List.getElem_cons_succ, List.getElem_cons_zero, List.setIfInBounds_toArray, List.set_cons_zero, List.set_cons_succ]
              refine wpAnyH_done (by kernel_rfl) ?_ _
              rw [HNC.out] at hI9
              go_wp2
              go_roundw
              case rel => exact ⟨k + 1, by go_num, by omega, hS9.1, hI9⟩
              case measure => simp [intOf]; omega
          · go_simp
            skip
            go_wp2_with fail
            refine hK.out _ _ (by (first | assumption | exact ⟨gwV.drew, bW _ (Below.drew gVV)⟩ | exact ⟨gwV.trans' (by assumption), bW _ (by assumption)⟩ | exact ⟨Grew.trans' (gwV.drew : Grew w V.drew) (bytesWorld_grew _ _), bW _ (Grew.trans' (Below.drew gVV) (bytesWorld_grew _ _))⟩ | exact ⟨(gwV.trans' (by assumption)).trans' (bytesWorld_grew _ _), bW _ (Grew.trans' (by assumption) (bytesWorld_grew _ _))⟩)) (fun hHeld => ?_)
            clear hK K
            try simp only [Act.put, List.getElem_toArray, List.getElem_cons_succ, List.getElem_cons_zero, List.setIfInBounds_toArray, List.set_cons_zero, List.set_cons_succ]
            refine wpAnyH_ready (rs := [2]) (by kernel_rfl) (by simp) ?_
            refine AllReadyH.cons rfl (fun K hK => ?_) AllReadyH.nil
            go_simp
            skip
            go_wp2_with fail
            refine hK.out _ _ (by (first | assumption | exact ⟨gwV.drew, bW _ (Below.drew gVV)⟩ | exact ⟨gwV.trans' (by assumption), bW _ (by assumption)⟩ | exact ⟨Grew.trans' (gwV.drew : Grew w V.drew) (bytesWorld_grew _ _), bW _ (Grew.trans' (Below.drew gVV) (bytesWorld_grew _ _))⟩ | exact ⟨(gwV.trans' (by assumption)).trans' (bytesWorld_grew _ _), bW _ (Grew.trans' (by assumption) (bytesWorld_grew _ _))⟩)) (fun hHeld => ?_)
            clear hK K
            try simp only [Act.put, List.getElem_toArray, List.getElem_cons_succ, List.getElem_cons_zero, List.setIfInBounds_toArray, List.set_cons_zero, List.set_cons_succ]
            refine wpAnyH_ready (rs := [3]) (by kernel_rfl) (by simp) ?_
            refine AllReadyH.cons rfl (fun K hK => ?_) AllReadyH.nil
            go_simp
            (go_at_call 41; (first | (with_reducible refine (cA0 _ (by assumption)).mono ?_) | (with_reducible refine (cBA _ (by assumption)).mono ?_)); rintro e1 W1 ⟨rfl, g1⟩; have gV1 : Grew V W1 := Grew.trans' (by assumption) g1; (try have gB1 : Grew UB W1 := Grew.trans' gBA g1); clear kA0 kB0 kAB kBA)
            go_wp2_with fail
            refine hK.out _ _ (by (first | assumption | exact ⟨gwV.drew, bW _ (Below.drew gVV)⟩ | exact ⟨gwV.trans' (by assumption), bW _ (by assumption)⟩ | exact ⟨Grew.trans' (gwV.drew : Grew w V.drew) (bytesWorld_grew _ _), bW _ (Grew.trans' (Below.drew gVV) (bytesWorld_grew _ _))⟩ | exact ⟨(gwV.trans' (by assumption)).trans' (bytesWorld_grew _ _), bW _ (Grew.trans' (by assumption) (bytesWorld_grew _ _))⟩)) (fun hHeld => ?_)
            clear hK K
            try simp only [Act.put, List.getElem_toArray, List.getElem_cons_succ, List.getElem_cons_zero, List.setIfInBounds_toArray, List.set_cons_zero, List.set_cons_succ]
            first
              | (refine wpAnyH_take (i := 4) (v := ?_) rfl (by kernel_rfl) (by kernel_rfl) (by kernel_rfl) (fun _ _ _ h => h) (Or.inl ⟨by rfl, ?_⟩) (by assumption) ?_; rotate_left 1; focus (intro w hSw; (obtain ⟨hs1, hs2⟩ := hSw; obtain ⟨hs3, hs4⟩ := two_cells hs2); go_simp; (try with_reducible rfl)))
              | fail
            try simp only [Act.put, List.getElem_toArray, List.getElem_cons_succ, List.getElem_cons_zero, List.setIfInBounds_toArray, List.set_cons_zero, List.set_cons_succ]
            first
              | (refine wpAnyH_take (i := 5) (v := ?_) rfl (by kernel_rfl) (by kernel_rfl) (by kernel_rfl) (fun _ _ _ h => h) (Or.inl ⟨by rfl, ?_⟩) (by assumption) ?_; rotate_left 1; focus (intro w hSw; (obtain ⟨hs1, hs2⟩ := hSw; obtain ⟨hs3, hs4⟩ := two_cells hs2); go_simp; (try with_reducible rfl)))
              | fail
            try simp only [Act.put, List.getElem_toArray, List.getElem_cons_succ, List.getElem_cons_zero, List.setIfInBounds_toArray, List.set_cons_zero, List.set_cons_succ]
            refine wpAnyH_ready (rs := [9]) (by kernel_rfl) (by simp) ?_
            refine AllReadyH.cons rfl (fun K hK => ?_) AllReadyH.nil
            go_simp
            (go_at_call 41; (first | (with_reducible refine (cAB _ (by assumption)).mono ?_) | (with_reducible refine (cB0 _ (by assumption)).mono ?_) | (with_reducible refine (HCB.out W1 _ (Below.refl _ _)).mono ?_)); rintro e2 W2 ⟨rfl, g2⟩; have gV2 : Grew V W2 := Grew.trans' (by first | assumption | exact Grew.trans' (by assumption) (bytesWorld_grew _ _)) g2)
            go_wp2_with fail
            refine hK.out _ _ (by (first | assumption | exact ⟨gwV.drew, bW _ (Below.drew gVV)⟩ | exact ⟨gwV.trans' (by assumption), bW _ (by assumption)⟩ | exact ⟨Grew.trans' (gwV.drew : Grew w V.drew) (bytesWorld_grew _ _), bW _ (Grew.trans' (Below.drew gVV) (bytesWorld_grew _ _))⟩ | exact ⟨(gwV.trans' (by assumption)).trans' (bytesWorld_grew _ _), bW _ (Grew.trans' (by assumption) (bytesWorld_grew _ _))⟩)) (fun hHeld => ?_)
            clear hK K
            try simp only [Act.put, List.getElem_toArray, List.getElem_cons_succ, List.getElem_cons_zero, List.setIfInBounds_toArray, List.set_cons_zero, List.set_cons_succ]
            first
              | (refine wpAnyH_take (i := 10) (v := ?_) rfl (by kernel_rfl) (by kernel_rfl) (by kernel_rfl) (fun _ _ _ h => h) (Or.inl ⟨by rfl, ?_⟩) (by assumption) ?_; rotate_left 1; focus (intro w hSw; (obtain ⟨hs1, hs2⟩ := hSw; obtain ⟨hs3, hs4⟩ := two_cells hs2); go_simp; (try with_reducible rfl)))
              | fail
            try simp only [Act.put, List.getElem_toArray, List.getElem_cons_succ, List.getElem_cons_zero, List.setIfInBounds_toArray, List.set_cons_zero, List.set_cons_succ]
            first
              | (refine wpAnyH_take (i := 11) (v := ?_) rfl (by kernel_rfl) (by kernel_rfl) (by kernel_rfl) (fun _ _ _ h => h) (Or.inl ⟨by rfl, ?_⟩) (by assumption) ?_; rotate_left 1; focus (intro w hSw; (obtain ⟨hs1, hs2⟩ := hSw; obtain ⟨hs3, hs4⟩ := two_cells hs2); go_simp; (try with_reducible rfl)))
              | fail
            try simp only [Act.put, List.getElem_toArray, List.getElem_cons_succ, List.getElem_cons_zero, List.setIfInBounds_toArray, List.set_cons_zero, List.set_cons_succ]
            refine wpAnyH_ready (rs := [12]) (by kernel_rfl) (by simp) ?_
            refine AllReadyH.cons rfl (fun K hK => ?_) AllReadyH.nil
            go_simp
            (go_at_call 40; refine (writeString w.heap.size w.heap.size _ T4 W2 (hBV W2 (by assumption)) hcl (gwV.trans' (show Grew V W2 by assumption)).size).mono ?_; rintro e9 W9 ⟨rfl, hI9, hb9, hk9⟩; have hS9 : Grew w W9 ∧ W9.heap[g]? = some (.cells x.cells.toArray 31 (0, 0)) := ⟨(gwV.trans' (show Grew V W2 by assumption)).trans hb9, kept_two hk9 hgb hext (bW W2 (by assumption))⟩)
            go_wp2_with fail
            refine hK.out _ _ (by (first | assumption | exact ⟨gwV.drew, bW _ (Below.drew gVV)⟩ | exact ⟨gwV.trans' (by assumption), bW _ (by assumption)⟩ | exact ⟨Grew.trans' (gwV.drew : Grew w V.drew) (bytesWorld_grew _ _), bW _ (Grew.trans' (Below.drew gVV) (bytesWorld_grew _ _))⟩ | exact ⟨(gwV.trans' (by assumption)).trans' (bytesWorld_grew _ _), bW _ (Grew.trans' (by assumption) (bytesWorld_grew _ _))⟩)) (fun hHeld => ?_)
            clear hK K
            try simp only [Act.put, List.getElem_toArray, List.getElem_cons_succ, List.getElem_cons_zero, List.setIfInBounds_toArray, List.set_cons_zero, List.set_cons_succ]
            refine wpAnyH_done (by kernel_rfl) ?_ _
            rw [HNC.out] at hI9
            go_wp2
            go_roundw
            case rel => exact ⟨k + 1, by go_num, by omega, hS9.1, hI9⟩
            case measure => simp [intOf]; omega
        · obtain rfl : k = m.length := by omega
          rw [List.take_length, ← HT0.out] at hB
          have hbw := builderLt hB
          go_wp2_with (go_at_call 42; with_reducible refine (Tryd.Builder_String_any_k w.heap.size w.heap.size _ _ hB (by omega)).mono ?_; rintro e4 W4 ⟨rfl, -, hb4, -⟩)
          go_ret
          exact ⟨rfl, hb.trans hb4⟩

end Go.Proofs.YtkdmhflcpfekfaaDoor
