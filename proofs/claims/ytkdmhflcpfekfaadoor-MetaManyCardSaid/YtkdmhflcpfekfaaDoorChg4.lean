/- change.two and change.TakeTrailer: extras and copies whose lines stand at the beginning of a text. Conditions: at most 2^30 bytes; the library's tables are laid. -/
import Derived.Test.YtkdmhflcpfekfaaDoorChg1
import Derived.Test.YtkdmhflcpfekfaaDoorCut
import Derived.Test.YtkdmhflcpfekfaaDoorM4
import Derived.Test.YtkdmhflcpfekfaaDoorM1
import Derived.OwnWalk
namespace Go.Proofs.YtkdmhflcpfekfaaDoor
set_option linter.unusedVariables false
set_option linter.unusedSimpArgs false
open Go.RowKit

theorem mk_list (s : ByteArray) : (⟨s.data.toList.toArray⟩ : ByteArray) = s := by cases s; rfl

set_option maxRecDepth 100000 in
theorem change_two (s wd : ByteArray) (w : World) (hs : s.size ≤ 1073741824) (hw : wd.size ≤ 100) (hm : MaxOk w) :
    Calls Tryd.prog 47 #[.string s, .string wd] w fun e w' => ∃ (a b : ByteArray) (has : Bool), e = .returned (.tuple #[.string a, .string b, .bool has]) ∧ Grew w w' ∧ a.size ≤ s.size ∧ b.size ≤ s.size ∧ Hid ((has = true ∧ twoG (wd.data.toList ++ [32]) s.data.toList = some (a.data.toList, b.data.toList)) ∨ (has = false ∧ twoG (wd.data.toList ++ [32]) s.data.toList = none)) := by
  obtain ⟨T, hT⟩ : ∃ T, wd ++ (⟨#[32]⟩ : ByteArray) = T := ⟨_, rfl⟩
  have hTl : T.data.toList = wd.data.toList ++ [32] := by rw [← hT, append_list]
  have cP := Tryd.strings_CutPrefix s T w
  have n1 : ¬ 9223372036854775807 < wd.size + 1 := by omega
  obtain ⟨R, hR⟩ : ∃ R : ByteArray, (⟨(Lib.trimPrefix s.data.toList T.data.toList).toArray⟩ : ByteArray) = R := ⟨_, rfl⟩
  have hRl : R.data.toList = Lib.trimPrefix s.data.toList T.data.toList := by rw [← hR]
  have hsl : s.data.toList.length = s.size := Array.length_toList
  have hRs : R.size ≤ s.size := by rw [Lib.size_eq, hRl, ← hsl]; exact Lib.trimPrefix_le _ _
  obtain ⟨B, hB⟩ : ∃ B, Lib.hasPrefix s.data.toList T.data.toList = B := ⟨_, rfl⟩
  rw [hR, hB] at cP
  have cC := strings_Cut1 32 R w (by omega) hm
  have hway : ∀ a b : List UInt8, B = true → Pure.cutC 32 R.data.toList = some (a, b) → twoG (wd.data.toList ++ [32]) s.data.toList = some (a, b) := by
    intro a b h1 h2
    unfold twoG
    rw [← hTl, hB, if_pos h1]
    have : R.data.toList = s.data.toList.drop T.data.toList.length := by rw [hRl, Lib.trimPrefix, hB, if_pos h1]
    rw [← this]
    exact h2
  have hway2 : (B = false ∨ Pure.cutC 32 R.data.toList = none) → twoG (wd.data.toList ++ [32]) s.data.toList = none := by
    intro h
    unfold twoG
    rw [← hTl, hB]
    cases B with
    | false => rfl
    | true =>
      rw [if_pos rfl]
      have : R.data.toList = s.data.toList.drop T.data.toList.length := by rw [hRl, Lib.trimPrefix, hB, if_pos rfl]
      rw [← this]
      rcases h with h | h
      · cases h
      · exact h
  have HW := Lib.hid hway
  have HW2 := Lib.hid hway2
  clear hTl hR hRl hB hsl hway hway2 hm
  cases B
  all_goals
    go_enter Tryd.func47, Tryd.ntmps47
    go_wp2_with (first | (go_at_call 63; with_reducible refine cP.mono ?_; rintro e1 W1 ⟨rfl, h1⟩; subst W1) | (go_at_call 46; with_reducible refine cC.mono ?_))
    rintro e2 W2 ⟨g2, ⟨hc, rfl⟩ | ⟨a, b, hc, hab, rfl⟩⟩
    all_goals
      go_wp2
      go_ret3
      first
        | exact ⟨_, _, _, rfl, g2, hRs, Nat.zero_le _, .inr ⟨rfl, HW2.out (.inr hc)⟩⟩
        | exact ⟨_, _, _, rfl, g2, by omega, by omega, .inr ⟨rfl, HW2.out (.inl (by first | rfl | trivial))⟩⟩
        | exact ⟨_, _, _, rfl, g2, by omega, by omega, .inl ⟨rfl, HW.out _ _ (by first | rfl | trivial) hc⟩⟩

theorem results_tmp4 {fn : Func} {t u v x : Tmp} (h : fn.results = #[.tmp t, .tmp u, .tmp v, .tmp x]) (tmps : Array Value) (P : Program) (w : World) :
    (results fn tmps).run P w = .ok (.tuple #[tmps.getD t undef, tmps.getD u undef, tmps.getD v undef, tmps.getD x undef]) w := by
  simp [results, h]

/-- Two slices that lie apart. -/
def Apart (v u : Value) : Prop := ∀ g, v.ownBlock = some g → u.ownBlock ≠ some g
/-- What TakeTrailer leaves. -/
def TakePost (s : List UInt8) (w : World) (e : Ending) (w' : World) : Prop := Grew w w' ∧
  ((takeG s.length [] [] s = none ∧ e = .returned (.tuple #[.slice none 0 0, .slice none 0 0, .string ⟨#[]⟩, .bool false])) ∨
   (∃ l c r v u, takeG s.length [] [] s = some (l, c, r.data.toList) ∧ e = .returned (.tuple #[v, u, .string r, .bool true]) ∧ OwnG kExtra w' w.heap.size v l ∧ OwnG kCopy w' w.heap.size u c ∧ (∀ x ∈ l, FineW x) ∧ (∀ x ∈ c, FineW x) ∧ r.size + l.length + c.length ≤ s.length))
theorem cut_ln {s : ByteArray} {w w' : World} {e : Ending} (h : CutPost 10 s w e w') : ∃ (a r : ByteArray) (is : Bool), e = .returned (.tuple #[.string a, .string r, .bool is]) ∧ a.size ≤ s.size ∧ Grew w w' ∧ ((is = true ∧ a.size + r.size + 1 = s.size ∧ Hid (Pure.cutC 10 s.data.toList = some (a.data.toList, r.data.toList))) ∨ (is = false ∧ Hid (Pure.cutC 10 s.data.toList = none))) := by
  obtain ⟨g, ⟨h1, rfl⟩ | ⟨a, b, h1, h2, rfl⟩⟩ := h
  · exact ⟨s, ⟨#[]⟩, false, rfl, Nat.le_refl _, g, .inr ⟨rfl, h1⟩⟩
  · exact ⟨a, b, true, rfl, by omega, g, .inl ⟨rfl, h2, h1⟩⟩
/-- What Unhex leaves, in one form. -/
theorem unhex_uniform {s : ByteArray} {w w' : World} {e : Ending} (h : UnhexPost s w e w') : ∃ (p : Option Addr) (c : Nat) (l : List UInt8) (E : Int), e = .returned (.tuple #[.slice p l.length c, .int .i64 E]) ∧ Rd w' p l ∧ Grew w w' ∧ 2 * l.length ≤ s.size ∧ ((E = 0 ∧ Hid (Pure.unhex s.data.toList = some l)) ∨ (E = 4 ∧ Hid (Pure.unhex s.data.toList = none))) := by
  obtain ⟨g, ⟨l, v, h1, rfl, h2⟩ | ⟨h1, rfl⟩⟩ := h
  · obtain ⟨-, p, c, rfl, -, -, hr⟩ := rd_of_owns h2
    refine ⟨p, c, l, 0, rfl, hr, g, ?_, .inl ⟨rfl, h1⟩⟩
    have h3 := Pure.unhex_length h1
    have h4 : s.data.toList.length = s.size := Array.length_toList
    omega
  · exact ⟨none, 0, [], 4, rfl, .inl rfl, g, by simp, .inr ⟨rfl, h1⟩⟩

theorem step_stop {s : List UInt8} (b : Bool) (h : Pure.cutC 10 s = none) : stepG b s = .stop := by unfold stepG; rw [h]
theorem step_ex {s a r k y : List UInt8} (h : Pure.cutC 10 s = some (a, r)) (h1 : twoG extraB a = some (k, y)) : stepG true s = match Pure.unhex y with | none => .bad | some b => .extra ⟨⟨k.toArray⟩, ⟨b.toArray⟩⟩ r := by
  unfold stepG
  rw [h]
  simp only [if_true]
  rw [h1]
  rfl
theorem step_cp {s a r : List UInt8} {b : Bool} (h : Pure.cutC 10 s = some (a, r)) (h1 : b = false ∨ twoG extraB a = none) : stepG b s = match twoG copyB a with | none => .stop | some (f, t) => match Pure.unhex f, Pure.unhex t with | some a, some b => .copy ⟨⟨a.toArray⟩, ⟨b.toArray⟩⟩ r | _, _ => .bad := by
  unfold stepG
  rw [h]
  simp only
  have h0 : (if b = true then twoG extraB a else none) = none := by
    rcases h1 with rfl | h1
    · rfl
    · rw [h1]; cases b <;> rfl
  rw [h0]
  rfl
theorem take_stop {s0 s : List UInt8} {ls cs : List Two} (hta : takeG s0.length [] [] s0 = takeG s.length ls cs s) (h : stepG cs.isEmpty s = .stop) : takeG s0.length [] [] s0 = some (ls, cs, s) := by rw [hta, takeG_step, h]
theorem take_bad {s0 s : List UInt8} {ls cs : List Two} (hta : takeG s0.length [] [] s0 = takeG s.length ls cs s) (h : stepG cs.isEmpty s = .bad) : takeG s0.length [] [] s0 = none := by rw [hta, takeG_step, h]
theorem take_ex {s0 s r : List UInt8} {ls cs : List Two} {x : Two} (hta : takeG s0.length [] [] s0 = takeG s.length ls cs s) (h : stepG cs.isEmpty s = .extra x r) : takeG s0.length [] [] s0 = takeG r.length (ls ++ [x]) cs r := by rw [hta, takeG_step, h]
theorem take_cp {s0 s r : List UInt8} {ls cs : List Two} {x : Two} (hta : takeG s0.length [] [] s0 = takeG s.length ls cs s) (h : stepG cs.isEmpty s = .copy x r) : takeG s0.length [] [] s0 = takeG r.length ls (cs ++ [x]) r := by rw [hta, takeG_step, h]
theorem fine_snoc {l : List Two} (h : ∀ x ∈ l, FineW x) {x : Two} (hx : FineW x) : ∀ y ∈ l ++ [x], FineW y := by
  intro y hy
  rw [List.mem_append] at hy
  rcases hy with hy | hy
  · exact h y hy
  · simp at hy; subst hy; exact hx
theorem OwnG.alloc1 {α : Type} {K : Kd α} {w : World} {base : Nat} {v : Value} {l : List α} (h : OwnG K w base v l) (O : Obj) : OwnG K (w.alloc O) base v l := h.below ((Below.refl _ _).alloc (Nat.le_refl _) O)
theorem OwnG.other {β : Type} {J : Kd β} {w w' : World} {base : Nat} {v v' u : Value} {c : List β} (h : OwnG J w base u c) (hap : Apart v u) (hg : w.grownBy w' v.ownBlock) (hat : v'.ownBlock = v.ownBlock ∨ v'.ownBlock = some w.heap.size) : OwnG J w' base u c ∧ Apart v' u := by
  refine ⟨h.kept hg ?_, ?_⟩
  · rcases hu : u.ownBlock with _ | g
    · exact .inl rfl
    · right
      intro e
      exact hap g e.symm hu
  · intro g hv hu
    rcases hat with e | e
    · exact hap g (by rw [← e]; exact hv) hu
    · have h1 := (h.lt g hu).2
      rw [hv] at e
      simp only [Option.some.injEq] at e
      omega
theorem Apart.symm {v u : Value} (h : Apart v u) : Apart u v := fun g hu hv => h g hv hu

set_option maxRecDepth 100000 in
set_option maxHeartbeats 8000000 in
theorem change_TakeTrailer (s0 : ByteArray) (w : World) (hs0 : s0.size ≤ 1073741824) (hm : MaxOk w) :
    Calls Tryd.prog 29 #[.string s0] w (TakePost s0.data.toList w) := by
  have hl0 : s0.data.toList.length = s0.size := Array.length_toList
  have HM := Lib.hid hm
  have HL0 := Lib.hid hl0
  have g0 : Grew w w := Below.refl _ _
  clear hm hl0
  go_enter Tryd.func29, Tryd.ntmps29
  go_wp2
  go_loopw [0, 6, 7] (fun sv lv cv wr => ∃ (s : ByteArray) (ls cs : List Two) (v u : Value), .string s = sv ∧ v = lv ∧ u = cv ∧ Grew w wr ∧ OwnG kExtra wr w.heap.size v ls ∧ OwnG kCopy wr w.heap.size u cs ∧ Apart v u ∧ s.size + ls.length + cs.length ≤ s0.size ∧ Hid (takeG s0.data.toList.length [] [] s0.data.toList = takeG s.data.toList.length ls cs s.data.toList) ∧ Hid (∀ x ∈ ls, FineW x) ∧ Hid (∀ x ∈ cs, FineW x)) (fun sv _ _ _ => match sv with | .string s => s.size | _ => 0)
  case atStart => exact ⟨s0, [], [], _, _, rfl, rfl, rfl, g0, OwnG.nil _ _ _, OwnG.nil _ _ _, fun g h => by simp [Value.ownBlock] at h, by simp, rfl, by simp [Hid], by simp [Hid]⟩
  case round =>
    obtain ⟨s, ls, cs, v, u, rfl, rfl, rfl, hb, hol, hoc, hap, hsz, hta, hfl, hfc⟩ := hrel
    clear g0
    obtain ⟨wo, rfl⟩ : ∃ wo : World, wo = wr := ⟨_, rfl⟩
    have cC := (strings_Cut1 10 s wo (by omega) (HM.out.grew hb)).mono (fun _ _ h => cut_ln h)
    go_wp2_with (go_at_call 46; with_reducible refine cC.mono ?_)
    rintro e1 W1 ⟨a, r, is, rfl, has, g1, hcut⟩
    have gw1 := hb.trans' g1
    have cT1 := change_two a ⟨#[101, 120, 116, 114, 97]⟩ W1 (by omega) (by decide) (HM.out.grew gw1)
    clear cC
    go_wp2_with (go_at_call 47; with_reducible refine cT1.mono ?_)
    rintro e2 W2 ⟨k, y, h1, rfl, g2, hka, hya, hw1⟩
    have gw2 := gw1.trans' g2
    have hol2 := hol.below (g1.trans' g2)
    have hoc2 := hoc.below (g1.trans' g2)
    obtain ⟨pu, cu, rfl, -, -, -, -⟩ := hoc.val
    have hw1' : (h1 = true ∧ twoG extraB a.data.toList = some (k.data.toList, y.data.toList)) ∨ (h1 = false ∧ twoG extraB a.data.toList = none) := hw1.out
    have HW1 := Lib.hid hw1'
    have HOL := Lib.hid hol2
    have HOC := Lib.hid hoc2
    clear cT1 hw1 hw1' hol hoc hol2 hoc2
    have hways : (is = true ∧ h1 = true ∧ cs.isEmpty = true) ∨ (is = false ∨ (is = true ∧ (h1 = false ∨ (h1 = true ∧ cs.isEmpty = false)))) := by
      cases is <;> cases h1 <;> cases cs.isEmpty <;> simp
    have hemp : ((cs.length : Int) == 0) = cs.isEmpty := by
      cases cs with
      | nil => rfl
      | cons x r => rw [beq_eq_false_iff_ne.2 (by simp; omega)]; rfl
    have hemp2 : (cs.length == 0) = cs.isEmpty := by cases cs <;> rfl
    rcases hways with ⟨rfl, rfl, hE⟩ | hway
    · rw [hE] at hemp hemp2
      obtain ⟨hrs, hc⟩ : a.size + r.size + 1 = s.size ∧ Hid (Pure.cutC 10 s.data.toList = some (a.data.toList, r.data.toList)) := by
        rcases hcut with ⟨-, h1, h2⟩ | ⟨h1, -⟩
        · exact ⟨h1, h2⟩
        · cases h1
      have htw : twoG extraB a.data.toList = some (k.data.toList, y.data.toList) := by
        rcases HW1.out with ⟨-, h⟩ | ⟨h, -⟩
        · exact h
        · cases h
      have hst := step_ex hc.out htw
      rw [← hE] at hst
      have HST := Lib.hid hst
      have cU := (hexa_Unhex y W2 (by omega)).mono (fun _ _ h => unhex_uniform h)
      clear hst htw hc hcut hE
      go_wp2_with (go_at_call 48; with_reducible refine cU.mono ?_)
      rintro e3 W3 ⟨pb, cb, bl, E, rfl, hrb, g3, hbl, hE⟩
      have gw3 := gw2.trans' g3
      have kc := conv_string cb hrb
      have hol3 := HOL.out.below g3
      have hoc3 := HOC.out.below g3
      rcases hE with ⟨rfl, hu⟩ | ⟨rfl, hu⟩
      rotate_right
      · have htb := take_bad hta.out (by rw [HST.out, hu.out])
        have HTB := Lib.hid htb
        clear htb hu kc
        go_wp2
        refine bodyPost_ret (results_tmp4 rfl _ _ _) rfl ?_
        exact ⟨gw3, .inl ⟨HTB.out, rfl⟩⟩
      obtain ⟨B, hB⟩ : ∃ B : ByteArray, (⟨bl.toArray⟩ : ByteArray) = B := ⟨_, rfl⟩
      have hBs : B.size = bl.length := by rw [← hB]; show bl.toArray.size = _; simp
      have hte := take_ex hta.out (by rw [HST.out, hu.out])
      rw [mk_list, hB] at hte
      rw [hB] at kc
      have hfx := fine_snoc hfl.out (x := ⟨k, B⟩) ⟨by show k.size ≤ _; omega, by show B.size ≤ _; omega⟩
      have HTE := Lib.hid hte
      have HFX := Lib.hid hfx
      have hoA := hol3.alloc1 (.cells #[.string k, .string B] 28)
      have hoB := hoc3.alloc1 (.cells #[.string k, .string B] 28)
      have gwA : Grew w (W3.alloc (.cells #[.string k, .string B] 28)) := Below.alloc gw3 gw3.size _
      have hrA : (W3.alloc (.cells #[.string k, .string B] 28)).rangeAt W3.heap.size 0 (kExtra.cells ⟨k, B⟩) := range_row (heap_alloc_new W3 (.cells #[.string k, .string B] 28))
      have hAs := gwA.size
      have HOA := Lib.hid hoA
      have HOB := Lib.hid hoB
      have HRA := Lib.hid hrA
      have HAS := Lib.hid hAs
      clear hte hfx hoA hoB hrA hB hu hol3 hoc3 hAs hrb cU
      go_wp2_with (at_builtin; refine wpList_append_Gat kExtra rfl _ _ rfl w.heap.size v ls ⟨k, B⟩ W3.heap.size rfl rfl HOA.out trivial HRA.out HAS.out (by omega) ?_)
      intro v4 W4 hown4 hb4 hg4 hat4
      obtain ⟨hoc4, hap4⟩ := HOB.out.other hap hg4 (hat4.imp id (fun e => e.trans (by simp)))
      have gw4 : Grew w W4 := Below.trans gwA hb4
      go_wp2
      go_roundw
      case rel => exact ⟨r, ls ++ [⟨k, B⟩], cs, v4, _, rfl, rfl, rfl, gw4, hown4, hoc4, hap4, by rw [List.length_append]; show _ + (_ + 1) + _ ≤ _; omega, HTE, HFX, hfc⟩
      case measure => show r.size < s.size; omega
    · have cT2 := change_two a ⟨#[99, 111, 112, 121]⟩ W2 (by omega) (by decide) (HM.out.grew gw2)
      have hne : is = true → cs.isEmpty = false ∨ twoG extraB a.data.toList = none := by
        intro h
        rcases hway with h' | ⟨-, h' | ⟨-, h'⟩⟩
        · rw [h] at h'; cases h'
        · right
          rcases HW1.out with ⟨h2, -⟩ | ⟨-, h2⟩
          · rw [h'] at h2; cases h2
          · exact h2
        · exact .inl h'
      have HNE := Lib.hid hne
      have HEMP := Lib.hid hemp
      have HCUT := Lib.hid hcut
      have hpre : is = false ∨ (is = true ∧ h1 = false) ∨ (is = true ∧ h1 = true ∧ ((cs.length : Int) == 0) = false) := by
        rcases hway with h | ⟨h, h' | ⟨h', h2⟩⟩
        · exact .inl h
        · exact .inr (.inl ⟨h, h'⟩)
        · exact .inr (.inr ⟨h, h', by rw [hemp, h2]⟩)
      clear hway hne hcut hemp hemp2 HW1
      have hgo : ∀ (Q : Exit → Act → World → Prop), True := fun _ => trivial
      rcases hpre with rfl | ⟨rfl, rfl⟩ | ⟨rfl, rfl, hz⟩
      all_goals
        go_wp2_with (go_at_call 47; with_reducible refine cT2.mono ?_)
        rintro e3 W3 ⟨f, t, h2, rfl, g3, hfa, hta2, hw2⟩
        have gw3 := gw2.trans' g3
        have hol3 := HOL.out.below g3
        have hoc3 := HOC.out.below g3
        have hw2' : (h2 = true ∧ twoG copyB a.data.toList = some (f.data.toList, t.data.toList)) ∨ (h2 = false ∧ twoG copyB a.data.toList = none) := hw2.out
        clear cT2 hw2
      · have hst : stepG cs.isEmpty s.data.toList = .stop := by
          rcases HCUT.out with ⟨h, -⟩ | ⟨-, h⟩
          · cases h
          · exact step_stop _ h.out
        have hts := take_stop hta.out hst
        have HTS := Lib.hid hts
        clear hst hts hw2'
        go_wp2
        refine bodyPost_ret (results_tmp4 rfl _ _ _) rfl ?_
        exact ⟨gw3, .inr ⟨ls, cs, s, v, _, HTS.out, rfl, hol3, hoc3, hfl.out, hfc.out, by rw [HL0.out]; exact hsz⟩⟩
      all_goals
        obtain ⟨hrs, hc⟩ : a.size + r.size + 1 = s.size ∧ Hid (Pure.cutC 10 s.data.toList = some (a.data.toList, r.data.toList)) := by
          rcases HCUT.out with ⟨-, h1, h2⟩ | ⟨h1, -⟩
          · exact ⟨h1, h2⟩
          · cases h1
        have hst := step_cp hc.out (HNE.out (by first | rfl | trivial))
        cases h2 with
        | false =>
          have hcn : twoG copyB a.data.toList = none := by
            rcases hw2' with ⟨h, -⟩ | ⟨-, h⟩
            · cases h
            · exact h
          rw [hcn] at hst
          have hts := take_stop hta.out hst
          have HTS := Lib.hid hts
          clear hst hts hw2' hcn
          go_wp2
          refine bodyPost_ret (results_tmp4 rfl _ _ _) rfl ?_
          exact ⟨gw3, .inr ⟨ls, cs, s, v, _, HTS.out, rfl, hol3, hoc3, hfl.out, hfc.out, by rw [HL0.out]; exact hsz⟩⟩
        | true =>
          have hcn : twoG copyB a.data.toList = some (f.data.toList, t.data.toList) := by
            rcases hw2' with ⟨-, h⟩ | ⟨h, -⟩
            · exact h
            · cases h
          rw [hcn] at hst
          have HST := Lib.hid hst
          have cU1 := (hexa_Unhex f W3 (by omega)).mono (fun _ _ h => unhex_uniform h)
          have HOL3 := Lib.hid hol3
          have HOC3 := Lib.hid hoc3
          clear hst hcn hw2' hol3 hoc3
          go_wp2_with (go_at_call 48; with_reducible refine cU1.mono ?_)
          rintro e5 W5 ⟨pf, cf, bf, E1, rfl, hrf, g5, hbf, hE1⟩
          have gw5 := gw3.trans' g5
          have cU2 := (hexa_Unhex t W5 (by omega)).mono (fun _ _ h => unhex_uniform h)
          clear cU1
          go_wp2_with (go_at_call 48; with_reducible refine cU2.mono ?_)
          rintro e6 W6 ⟨pt, ct, bt, E2, rfl, hrt, g6, hbt, hE2⟩
          have gw6 := gw5.trans' g6
          clear cU2
          have kf := conv_string cf (hrf.below g6 (Nat.le_refl _))
          have kt := conv_string ct hrt
          rcases hE1 with ⟨rfl, hu1⟩ | ⟨rfl, hu1⟩
          rotate_right
          · have htb := take_bad hta.out (by rw [HST.out, hu1.out])
            have HTB := Lib.hid htb
            clear htb hu1 kf kt hrf hrt
            go_wp2
            refine bodyPost_ret (results_tmp4 rfl _ _ _) rfl ?_
            exact ⟨gw6, .inl ⟨HTB.out, rfl⟩⟩
          rcases hE2 with ⟨rfl, hu2⟩ | ⟨rfl, hu2⟩
          rotate_right
          · have htb := take_bad hta.out (by rw [HST.out, hu1.out, hu2.out])
            have HTB := Lib.hid htb
            clear htb hu1 hu2 kf kt hrf hrt
            go_wp2
            refine bodyPost_ret (results_tmp4 rfl _ _ _) rfl ?_
            exact ⟨gw6, .inl ⟨HTB.out, rfl⟩⟩
          obtain ⟨F, hF⟩ : ∃ B : ByteArray, (⟨bf.toArray⟩ : ByteArray) = B := ⟨_, rfl⟩
          obtain ⟨T, hT⟩ : ∃ B : ByteArray, (⟨bt.toArray⟩ : ByteArray) = B := ⟨_, rfl⟩
          have hFs : F.size = bf.length := by rw [← hF]; show bf.toArray.size = _; simp
          have hTs : T.size = bt.length := by rw [← hT]; show bt.toArray.size = _; simp
          have hte := take_cp hta.out (by rw [HST.out, hu1.out, hu2.out])
          rw [hF, hT] at hte
          rw [hF] at kf
          rw [hT] at kt
          have hfx := fine_snoc hfc.out (x := ⟨F, T⟩) ⟨by show F.size ≤ _; omega, by show T.size ≤ _; omega⟩
          have HTE := Lib.hid hte
          have HFX := Lib.hid hfx
          have hoA := (HOC3.out.below (g5.trans' g6)).alloc1 (.cells #[.string F, .string T] 31)
          have hoB := (HOL3.out.below (g5.trans' g6)).alloc1 (.cells #[.string F, .string T] 31)
          have gwA : Grew w (W6.alloc (.cells #[.string F, .string T] 31)) := Below.alloc gw6 gw6.size _
          have hrA : (W6.alloc (.cells #[.string F, .string T] 31)).rangeAt W6.heap.size 0 (kCopy.cells ⟨F, T⟩) := range_row (heap_alloc_new W6 (.cells #[.string F, .string T] 31))
          have hAs := gwA.size
          have HOA := Lib.hid hoA
          have HOB := Lib.hid hoB
          have HRA := Lib.hid hrA
          have HAS := Lib.hid hAs
          clear hte hfx hoA hoB hrA hF hT hu1 hu2 hAs hrf hrt
          go_wp2_with (at_builtin; refine wpList_append_Gat kCopy rfl _ _ rfl w.heap.size _ cs ⟨F, T⟩ W6.heap.size rfl rfl HOA.out trivial HRA.out HAS.out (by omega) ?_)
          intro v4 W4 hown4 hb4 hg4 hat4
          obtain ⟨hol4, hap4⟩ := HOB.out.other hap.symm hg4 (hat4.imp id (fun e => e.trans (by simp)))
          have gw4 : Grew w W4 := Below.trans gwA hb4
          go_wp2
          go_roundw
          case rel => exact ⟨r, ls, cs ++ [⟨F, T⟩], v, v4, rfl, rfl, rfl, gw4, hol4, hown4, hap4.symm, by rw [List.length_append]; show _ + _ + (_ + 1) ≤ _; omega, HTE, hfl, HFX⟩
          case measure => show r.size < s.size; omega

end Go.Proofs.YtkdmhflcpfekfaaDoor
