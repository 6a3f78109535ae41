/- quote.name tells which parts of a path may be. Conditions: the library's table of folds is laid; a part is at most 2^30 bytes long. -/
import Derived.Test.YtkdmhflcpfekfaaDoorPure03
import Derived.Test.YtkdmhflcpfekfaaDoorTabs
import Derived.Test.YtkdmhflcpfekfaaDoorShelf
import Derived.ScopeJumps
namespace Go.Proofs.YtkdmhflcpfekfaaDoor
set_option linter.unusedVariables false
set_option linter.unusedSimpArgs false
open Go.RowKit

abbrev gitB : ByteArray := ⟨#[46, 103, 105, 116]⟩

theorem or_git : ∀ y ∈ ([46, 103, 105, 116] : List Int), ∀ n : Fin 256, decide (128 ≤ Go.bits .or .u8 (n.val : Int) y) = decide (128 ≤ n.val) := by decide +kernel
theorem git_byte (i : Nat) (hi : i < 4) : ∃ y : Int, y ∈ ([46, 103, 105, 116] : List Int) ∧ (gitB[i]'hi).toNat = y := by
  have : i = 0 ∨ i = 1 ∨ i = 2 ∨ i = 3 := by omega
  rcases this with rfl | rfl | rfl | rfl
  · exact ⟨46, by simp, rfl⟩
  · exact ⟨103, by simp, rfl⟩
  · exact ⟨105, by simp, rfl⟩
  · exact ⟨116, by simp, rfl⟩

/-- The library's table of simple folds, at the letters that are asked for. -/
def FoldOk (w : World) : Prop := ∀ x ∈ ([(46, 46), (103, 71), (71, 103), (105, 73), (73, 105), (116, 84), (84, 116)] : List (Nat × Int)), w.cell? ⟨3, x.1, none⟩ = some (.int .u16 x.2)
theorem FoldOk.grew {w w' : World} (h : FoldOk w) (hb : Grew w w') : FoldOk w' := fun x hx => cell_grew (h x hx) hb

set_option maxRecDepth 100000 in
theorem simple_fold (x : Nat) (y f : Int) (hy : (x : Int) = y) (h : (x, f) ∈ ([(46, 46), (103, 71), (71, 103), (105, 73), (73, 105), (116, 84), (84, 116)] : List (Nat × Int))) (w : World) (hF : FoldOk w) :
    Calls Tryd.prog 88 #[.int .i32 y] w fun e w' => e = .returned (.int .i32 f) ∧ w = w' := by
  subst hy
  have hc := hF _ h
  simp only [List.mem_cons, Prod.mk.injEq, List.not_mem_nil, or_false] at h
  clear hF
  rcases h with ⟨rfl, rfl⟩ | ⟨rfl, rfl⟩ | ⟨rfl, rfl⟩ | ⟨rfl, rfl⟩ | ⟨rfl, rfl⟩ | ⟨rfl, rfl⟩ | ⟨rfl, rfl⟩
  all_goals
    simp only at hc
    go_enter Tryd.func88, Tryd.ntmps88
    go_wp2
    go_ret
    exact ⟨rfl, rfl⟩

theorem not_empty {G : ByteArray} (h : 0 < G.size) : G.toList.isEmpty = false := by
  rw [ByteArray.toList_eq]
  cases hl : G.data.toList with
  | nil => have h1 : G.data.toList.length = G.size := Array.length_toList; rw [hl] at h1; simp at h1; omega
  | cons a b => rfl
set_option maxRecDepth 100000 in
theorem decode_one (G : ByteArray) (h : 0 < G.size) (h1 : (G[0]'h).toNat < 128) (w : World) :
    Calls Tryd.prog 87 #[.string G] w fun e w' => e = .returned (.tuple #[.int .i32 ((G[0]'h).toNat : Int), .int .i64 1]) ∧ w = w' := by
  have hem := not_empty h
  go_enter Tryd.func87, Tryd.ntmps87
  go_wp2
  go_ret2
  exact ⟨rfl, rfl⟩

/-- A scope whose label is jumped to from ahead of it: the walk goes on behind the label, from the very place of the jump. -/
theorem wp_scope_once {P : Program} {a : Act} {w : World} {Q : Exit → Act → World → Prop} {c rest : Code} (l : Nat) (hf : findLabel c l = some rest)
    (first : c.wp P (Exit.jump l (fun a w => rest.wp P (Exit.jump l (fun _ _ => False) Q) a w) Q) a w) : (Code.scope c).wp P Q a w :=
  wp_scope_jumps l _ (fun _ _ => 0) hf first (fun a w h => Code.wp_mono (fun e a w h => by
    cases e <;> first | exact h | exact (h.2 : False).elim) h)

set_option maxRecDepth 100000 in
set_option maxHeartbeats 1000000 in
theorem fold_high (s : ByteArray) (w : World) (hs : s.size ≤ 1073741824) (h : ∃ c ∈ s.data.toList, 128 ≤ c.toNat) (hF : FoldOk w) :
    Calls Tryd.prog 83 #[.string s, .string gitB] w fun e w' => e = .returned (.bool false) ∧ Grew w w' := by
  obtain ⟨M, hM⟩ : ∃ M : Nat, min (s.size : Int) 4 = (M : Int) := ⟨min s.size 4, by omega⟩
  have hM1 : M ≤ s.size := by omega
  have hM2 : M ≤ 4 := by omega
  have hsl : s.data.toList.length = s.size := Array.length_toList
  -- the first byte that is not ASCII
  obtain ⟨z, hz⟩ : ∃ z : Nat, ∃ hz : z < s.size, 128 ≤ (s[z]'hz).toNat := by
    obtain ⟨c, hc, h8⟩ := h
    obtain ⟨j, hj⟩ := List.mem_iff_getElem?.1 hc
    have hlt : j < s.size := by have := (List.getElem?_eq_some_iff.1 hj).1; omega
    refine ⟨j, hlt, ?_⟩
    have h1 := Lib.data_getElem? s j hlt
    rw [hj] at h1
    rw [← Option.some.inj h1]; exact h8
  have hne : M = 4 → s.size ≠ 4 ∨ z < 4 := by obtain ⟨hz, _⟩ := hz; omega
  have HZ := Lib.hid hz
  have HM : M = s.size ∨ M = 4 := by omega
  clear hz h hsl
  go_enter Tryd.func83, Tryd.ntmps83
  go_wp2
  refine wp_scope_once 0 rfl ?_
  · go_wp2
    go_loopw [5] (fun s5 wr => ∃ i : Nat, s5 = .int .i64 i ∧ i ≤ M ∧ wr = w ∧ Hid (∀ j, j < i → ∀ hj : j < s.size, (s[j]'hj).toNat < 128)) (fun s5 _ => M - (intOf s5).toNat)
    case atStart => exact ⟨0, rfl, Nat.zero_le _, rfl, fun j hj => by omega⟩
    case round =>
      obtain ⟨i, rfl, hi, rfl, hasc⟩ := hrel
      by_cases hlt : i < M
      · have hlt4 : i < 4 := by omega
        have hlts : i < s.size := by omega
        obtain ⟨y, hy, hyy⟩ := git_byte i hlt4
        have hor := or_git y hy ⟨(s[i]'hlts).toNat, (s[i]'hlts).toNat_lt⟩
        simp only at hor
        by_cases h8 : 128 ≤ (s[i]'hlts).toNat
        · rw [decide_eq_true h8] at hor
          have H8 := Lib.hid (⟨hlts, h8⟩ : ∃ hi : i < s.size, 128 ≤ (s[i]'hi).toNat)
          go_wp2
          go_step3
          refine ⟨rfl, ?_⟩
          show Code.wp _ _ _ _ _
          clear hor hasc hi hlt
          obtain ⟨S, hS⟩ : ∃ S, s.extract i s.size = S := ⟨_, rfl⟩
          obtain ⟨G, hG⟩ : ∃ S, gitB.extract i 4 = S := ⟨_, rfl⟩
          have hSs : 0 < S.size := by rw [← hS, ByteArray.size_extract]; omega
          have hGs : 0 < G.size := by rw [← hG, ByteArray.size_extract]; show 0 < min 4 4 - i; omega
          have hS0 : 128 ≤ (S[0]'hSs).toNat := by
            subst hS
            rw [ByteArray.getElem_extract]
            simpa using h8
          have hG0 : ((G[0]'hGs).toNat : Int) = y := by
            subst hG
            rw [ByteArray.getElem_extract]
            simpa using hyy
          have hem := not_empty hGs
          have hit := World.iter_heap wr S 0
          have gV : Grew wr (wr.iter S 0) := (Below.refl _ wr).alloc (Nat.le_refl _) _
          have hnx : ∀ ty, (Instr.next (.pointer (some ⟨wr.heap.size, 0, none⟩)) true ty).run Tryd.prog (wr.iter S 0) = _ := fun ty => Lib.run_next_any_at (wr.iter S 0) wr.heap.size S 0 ty hit hSs
          have hd := (decode_high S 0 hSs hS0).1
          have hd2 := Lib.rune_le S 0
          have gI := Lib.below_iterAt gV (k := wr.heap.size) (Nat.le_refl _) S (0 + (Utf8.decode S 0).2)
          generalize hdd : Utf8.decode S 0 = d at *
          generalize hWI : (wr.iter S 0).iterAt wr.heap.size S (0 + d.2) = V at *
          have hFV := hF.grew gI
          have cF := fun x y f hy h => simple_fold x y f hy h V hFV
          obtain ⟨r, hr⟩ : ∃ r : Int, (d.1 : Int) = r := ⟨_, rfl⟩
          have hr0 : 128 ≤ r := by omega
          rw [hr] at hnx
          clear hdd hWI hit hS0 hr hF hFV hM h8 hd hd2
          simp only [List.mem_cons, List.not_mem_nil, or_false] at hy
          rcases hy with rfl | rfl | rfl | rfl
          · have cD := decode_one G hGs (by omega) V
            rw [hG0] at cD
            have c1 := cF 46 46 46 rfl (by simp)
            clear cF
            go_wp2
            refine wp_loop_rounds 1 ?_
            rw [rounds_succ]
            go_wp2_with (first | (go_at_call 87; with_reducible refine cD.mono ?_; rintro e1 W1 ⟨rfl, h1⟩; subst W1) | (go_at_call 88; with_reducible refine c1.mono ?_; rintro e1 W1 ⟨rfl, h1⟩; subst W1))
            refine wp_loop_rounds 1 ?_
            rw [rounds_succ]
            go_wp2
            simp (config := { zetaDelta := true }) only [Exit.jump, Exit.inBlock, Exit.then]
            go_ret
            exact ⟨rfl, gI⟩
          · have cD := decode_one G hGs (by omega) V
            rw [hG0] at cD
            have c1 := cF 103 103 71 rfl (by simp)
            have c2 := cF 71 71 103 rfl (by simp)
            clear cF
            go_wp2
            refine wp_loop_rounds 1 ?_
            rw [rounds_succ]
            go_wp2_with (first | (go_at_call 87; with_reducible refine cD.mono ?_; rintro e1 W1 ⟨rfl, h1⟩; subst W1) | (go_at_call 88; with_reducible refine c1.mono ?_; rintro e1 W1 ⟨rfl, h1⟩; subst W1))
            refine wp_loop_rounds 2 ?_
            rw [rounds_succ]
            go_wp2_with (first | (go_at_call 88; with_reducible refine c2.mono ?_; rintro e1 W1 ⟨rfl, h1⟩; subst W1))
            rw [rounds_succ]
            go_wp2
            simp (config := { zetaDelta := true }) only [Exit.jump, Exit.inBlock, Exit.then]
            go_ret
            exact ⟨rfl, gI⟩
          · have cD := decode_one G hGs (by omega) V
            rw [hG0] at cD
            have c1 := cF 105 105 73 rfl (by simp)
            have c2 := cF 73 73 105 rfl (by simp)
            clear cF
            go_wp2
            refine wp_loop_rounds 1 ?_
            rw [rounds_succ]
            go_wp2_with (first | (go_at_call 87; with_reducible refine cD.mono ?_; rintro e1 W1 ⟨rfl, h1⟩; subst W1) | (go_at_call 88; with_reducible refine c1.mono ?_; rintro e1 W1 ⟨rfl, h1⟩; subst W1))
            refine wp_loop_rounds 2 ?_
            rw [rounds_succ]
            go_wp2_with (first | (go_at_call 88; with_reducible refine c2.mono ?_; rintro e1 W1 ⟨rfl, h1⟩; subst W1))
            rw [rounds_succ]
            go_wp2
            simp (config := { zetaDelta := true }) only [Exit.jump, Exit.inBlock, Exit.then]
            go_ret
            exact ⟨rfl, gI⟩
          · have cD := decode_one G hGs (by omega) V
            rw [hG0] at cD
            have c1 := cF 116 116 84 rfl (by simp)
            have c2 := cF 84 84 116 rfl (by simp)
            clear cF
            go_wp2
            refine wp_loop_rounds 1 ?_
            rw [rounds_succ]
            go_wp2_with (first | (go_at_call 87; with_reducible refine cD.mono ?_; rintro e1 W1 ⟨rfl, h1⟩; subst W1) | (go_at_call 88; with_reducible refine c1.mono ?_; rintro e1 W1 ⟨rfl, h1⟩; subst W1))
            refine wp_loop_rounds 2 ?_
            rw [rounds_succ]
            go_wp2_with (first | (go_at_call 88; with_reducible refine c2.mono ?_; rintro e1 W1 ⟨rfl, h1⟩; subst W1))
            rw [rounds_succ]
            go_wp2
            simp (config := { zetaDelta := true }) only [Exit.jump, Exit.inBlock, Exit.then]
            go_ret
            exact ⟨rfl, gI⟩
        · rw [decide_eq_false h8] at hor
          have hnx : Hid (∀ j, j < i + 1 → ∀ hj : j < s.size, (s[j]'hj).toNat < 128) := fun j hj hjs => by
            by_cases e : j = i
            · subst e; omega
            · exact hasc.out j (by omega) hjs
          go_wp2
          all_goals first
            | (simp only [Exit.jump]; go_ret; exact ⟨rfl, Below.refl _ _⟩)
            | (go_roundw
               case rel => exact ⟨i + 1, by go_num, by omega, by trivial, hnx⟩
               case measure => simp [intOf]; omega)
      · have hfin : ((s.size : Int) == 4) = false := by
          rw [beq_eq_false_iff_ne]
          intro h4
          obtain ⟨hz1, hz2⟩ := HZ.out
          have := hasc.out z (by omega) hz1
          omega
        go_wp2
        simp only [Exit.jump]
        go_ret
        exact ⟨rfl, Below.refl _ _⟩

theorem quote_fold (s : ByteArray) (w : World) (hs : s.size ≤ 1073741824) (hF : FoldOk w) :
    Calls Tryd.prog 83 #[.string s, .string gitB] w fun e w' => e = .returned (.bool (Pure.isGit s.data.toList)) ∧ Grew w w' := by
  by_cases h : ∃ c ∈ s.data.toList, 128 ≤ c.toNat
  · obtain ⟨c, hc, h8⟩ := h
    rw [Pure.git_high hc h8]
    exact fold_high s w hs ⟨c, hc, h8⟩ hF
  · refine (Tryd.strings_EqualFold s gitB w (by omega) ?_ ?_).mono ?_
    · intro j b hb
      have hm := List.mem_of_getElem? hb
      apply Classical.byContradiction
      intro hn
      exact h ⟨b, hm, by omega⟩
    · intro j b hb
      have hm := List.mem_of_getElem? hb
      have key : ∀ b ∈ gitB.data.toList, b.toNat < 128 := by decide
      exact key b hm
    · rintro e w' ⟨rfl, rfl⟩
      exact ⟨by rw [← Pure.fold_git]; rfl, Below.refl _ _⟩

theorem name_parts (s : ByteArray) : Pure.nameP s.data.toList = (!s.toList.isEmpty && !(s.toList == [46]) && !(s.toList == [46, 46]) && !Pure.isGit s.data.toList) := by
  unfold Pure.nameP
  rw [ByteArray.toList_eq]

set_option maxRecDepth 100000 in
set_option maxHeartbeats 1000000 in
theorem quote_name (s : ByteArray) (w : World) (hs : s.size ≤ 1073741824) (hF : FoldOk w) :
    Calls Tryd.prog 77 #[.string s] w fun e w' => e = .returned (.bool (Pure.nameP s.data.toList)) ∧ Grew w w' := by
  have cF := quote_fold s w hs hF
  rw [name_parts]
  generalize Pure.isGit s.data.toList = G at *
  cases h1 : s.toList.isEmpty <;> cases h2 : (s.toList == [46]) <;> cases h3 : (s.toList == [46, 46])
  all_goals
    go_enter Tryd.func77, Tryd.ntmps77
    go_wp2_with (first | (go_at_call 83; with_reducible refine cF.mono ?_; rintro e1 W1 ⟨rfl, g1⟩))
    go_ret
    exact ⟨by simp, by first | assumption | exact Below.refl _ _⟩

end Go.Proofs.YtkdmhflcpfekfaaDoor
