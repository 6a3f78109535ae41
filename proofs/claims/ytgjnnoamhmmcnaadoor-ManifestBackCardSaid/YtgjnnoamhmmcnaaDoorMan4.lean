/- manifest.Parse. Conditions: at most 2^30 bytes; the library's tables are laid. -/
import Derived.Test.YtgjnnoamhmmcnaaDoorMan3
import Derived.Test.YtgjnnoamhmmcnaaDoorBytes
namespace Go.Proofs.YtgjnnoamhmmcnaaDoor
set_option linter.unusedVariables false
set_option linter.unusedSimpArgs false
open Go.RowKit

/-- What Parse leaves. -/
def ParsePostM (b : List UInt8) (w : World) (e : Ending) (w' : World) : Prop := Grew w w' ∧
  ((parseM b = none ∧ e = .returned (.tuple #[.slice none 0 0, .int .i64 4])) ∨
   (∃ l v, parseM b = some l ∧ (∀ x ∈ l, FineF x) ∧ e = .returned (.tuple #[v, .int .i64 0]) ∧ OwnG kFile w' w.heap.size v l))
theorem cut_line {s : ByteArray} {w w' : World} {e : Ending} (h : CutPost 10 s w e w') : ∃ (a r : ByteArray) (is : Bool), e = .returned (.tuple #[.string a, .string r, .bool is]) ∧ a.size ≤ s.size ∧ Grew w w' ∧ ((is = true ∧ a.size + r.size + 1 = s.size ∧ Hid (Pure.cutC 10 s.data.toList = some (a.data.toList, r.data.toList))) ∨ (is = false ∧ Hid (Pure.cutC 10 s.data.toList = none))) := by
  obtain ⟨g, ⟨h1, rfl⟩ | ⟨a, b, h1, h2, rfl⟩⟩ := h
  · exact ⟨s, ⟨#[]⟩, false, rfl, Nat.le_refl _, g, .inr ⟨rfl, h1⟩⟩
  · exact ⟨a, b, true, rfl, by omega, g, .inl ⟨rfl, h2, h1⟩⟩
theorem file_uniform {s : List UInt8} {w w' : World} {e : Ending} (h : FilePost s w e w') : ∃ (x : Fil) (has : Bool), e = .returned (.tuple #[.agg x.cells.toArray, .bool has]) ∧ x.id.length = 20 ∧ Grew w w' ∧ Hid ((has = true ∧ fileM s = some x) ∨ (has = false ∧ fileM s = none)) := by
  obtain ⟨g, ⟨x, h1, rfl⟩ | ⟨h1, rfl⟩⟩ := h
  · exact ⟨x, true, rfl, (fileM_some h1).1, g, .inl ⟨rfl, h1⟩⟩
  · exact ⟨zeroFil, false, rfl, rfl, g, .inr ⟨rfl, h1⟩⟩

set_option maxRecDepth 100000 in
set_option maxHeartbeats 8000000 in
theorem manifest_Parse (p : Option Addr) (b : List UInt8) (cap : Nat) (w : World) (hr : Rd w p b) (hl : b.length ≤ 1073741824) (hm : MaxOk w) (hu : U8Ok w) (hF : FoldOk w) :
    Calls Tryd.prog 11 #[.slice p b.length cap] w (ParsePostM b w) := by
  have g0 : Grew w w := Below.refl _ _
  have k0 := conv_string cap hr
  have HR := Lib.hid hr
  have HM := Lib.hid hm
  have HU := Lib.hid hu
  have HFO := Lib.hid hF
  obtain ⟨B0, hB0⟩ : ∃ B0, (⟨b.toArray⟩ : ByteArray) = B0 := ⟨_, rfl⟩
  have hB0l : B0.data.toList = b := by rw [← hB0]
  have hB0s : B0.size = b.length := by rw [Lib.size_eq, hB0l]
  rw [hB0] at k0
  clear hr hm hu hF hB0
  go_enter Tryd.func11, Tryd.ntmps11
  go_wp2
  go_loopw [4, 5] (fun lv rv wr => ∃ (q : ByteArray) (ds : List Fil) (v : Value), .string q = rv ∧ v = lv ∧ Grew w wr ∧ OwnG kFile wr w.heap.size v ds ∧ ds.length + q.size ≤ b.length ∧ Hid (linesM b.length b = (linesM q.data.toList.length q.data.toList).map (ds ++ ·)) ∧ Hid (∀ x ∈ ds, FineF x)) (fun _ rv _ => match rv with | .string s => s.size | _ => 0)
  case atStart => exact ⟨B0, [], _, rfl, rfl, g0, OwnG.nil _ _ _, by simp; omega, by rw [hB0l]; simp [Hid], by simp [Hid]⟩
  case round =>
    obtain ⟨q, ds, v, rfl, rfl, hb, hown, hdq, hit, hfi⟩ := hrel
    clear g0 k0 hB0l hB0s
    obtain ⟨wo, rfl⟩ : ∃ wo : World, wo = wr := ⟨_, rfl⟩
    by_cases h0 : 0 < q.size
    · have hq0 : (q.toList == ([] : List UInt8)) = false := by
        rw [beq_eq_false_iff_ne, ByteArray.toList_eq]
        intro e
        have : q.data.toList.length = q.size := Array.length_toList
        rw [e] at this
        simp at this
        omega
      have hne : q.data.toList ≠ [] := fun e => by
        have : q.data.toList.length = q.size := Array.length_toList
        rw [e] at this
        simp at this
        omega
      have cC := (strings_Cut1 10 q wo (by omega) (HM.out.grew hb)).mono (fun _ _ h => cut_line h)
      have HNE := Lib.hid hne
      clear hne
      go_wp2_with (go_at_call 24; with_reducible refine cC.mono ?_)
      rintro e1 W1 ⟨a, r, is, rfl, has, g1, hcut⟩
      have gw1 := hb.trans' g1
      have cFi := (manifest_file a W1 (by omega) (HM.out.grew gw1)).mono (fun _ _ h => file_uniform h)
      clear cC
      go_wp2_with (go_at_call 25; with_reducible refine cFi.mono ?_)
      rintro e2 W2 ⟨x, hs, rfl, hxi, g2, hfile⟩
      have nfx := infoFile x hxi
      have gw2 := gw1.trans' g2
      clear cFi
      go_wp2_with (refine wpList_store_new rfl 28 _ _ rfl W2 _ rfl x.cells rfl rfl (x.len hxi).symm nfx x.one ?_)
      intro V gV gVV rV fV sV
      have gwV := gw2.trans' gV
      have hlm : lineM q.data.toList = if is && hs then some (x, r.data.toList) else none := by
        unfold lineM
        rcases hcut with ⟨rfl, -, hc⟩ | ⟨rfl, hc⟩
        · rw [hc.out]
          simp only
          rcases hfile.out with ⟨rfl, hf⟩ | ⟨rfl, hf⟩ <;> rw [hf] <;> rfl
        · rw [hc.out]
          rfl
      have hrs : is = true → a.size + r.size + 1 = q.size := fun h => by
        rcases hcut with ⟨-, h2, -⟩ | ⟨rfl, -⟩
        · exact h2
        · cases h
      have HLM := Lib.hid hlm
      have HRS := Lib.hid hrs
      have hownV := hown.below (g1.trans' (g2.trans' gV))
      have HOV := Lib.hid hownV
      have HRV := Lib.hid rV
      clear hcut hfile hlm hrs hown hownV rV fV sV gV g2 g1 gw1 gw2
      have hways : is = false ∨ (is = true ∧ hs = false) ∨ (is = true ∧ hs = true) := by cases is <;> cases hs <;> simp
      rcases hways with rfl | ⟨rfl, rfl⟩ | ⟨rfl, rfl⟩
      rotate_right
      · have hlm2 : lineM q.data.toList = some (x, r.data.toList) := HLM.out
        obtain ⟨-, -, hxp, hx1, hx3⟩ := lineM_some hlm2
        have hql : q.data.toList.length = q.size := Array.length_toList
        have hsz := HRS.out rfl
        have hstep : linesM b.length b = (linesM r.data.toList.length r.data.toList).map ((ds ++ [x]) ++ ·) := by
          rw [hit.out, linesM_step hlm2, Option.map_map]
          congr 1
          funext y
          simp
        have hfX : ∀ y ∈ ds ++ [x], FineF y := by
          intro y hy
          rw [List.mem_append] at hy
          rcases hy with hy | hy
          · exact hfi.out y hy
          · simp at hy; subst hy; exact ⟨hxi, by omega⟩
        have HST := Lib.hid hstep
        have HFX := Lib.hid hfX
        have rx := HRV.out V gVV
        have ks : ∀ W, (Instr.buildSlice 22 1 #[(0, .agg x.cells.toArray)]).run Tryd.prog W = .ok (.slice (some ⟨W.heap.size, 0, none⟩) 1 1) (W.alloc (.cells x.cells.toArray 28)) := fun W => run_slice_G kFile x hxi W
        obtain ⟨U, hU, gU, gUU, rU⟩ := boxedG kFile V x
        change V.alloc (.cells x.cells.toArray 28) = U at hU
        have hoU := HOV.out.below gU
        have rUU := rU U gUU
        have gwU := gwV.trans' gU
        have hbU : w.heap.size ≤ U.heap.size := gwU.size
        have HOU := Lib.hid hoU
        have HRU := Lib.hid rUU
        rw [← hU] at HOU HRU hbU gwU
        clear hoU rUU rU gUU hU hlm2 hxp hx1 hx3 hql hstep hfX
        go_wp2_with (refine wpList_load_mid rfl 28 _ rfl W2.heap.size 0 rfl x.cells _ rx Tryd.underlying28 rfl nfx ?_; refine wpListExec rfl _ _ (execBuildSlice 22 1 [(0, .tmp 35)] rfl _ (ks _)) ?_; refine wpList_append_G kFile rfl _ _ rfl w.heap.size v ds x V.heap.size rfl rfl HOU.out hxi HRU.out hbU (by omega) ?_)
        intro v4 W4 hown4 hb4 hg4
        go_wp2
        go_roundw
        case rel => exact ⟨r, ds ++ [x], v4, rfl, rfl, Below.trans gwU hb4, hown4, by rw [List.length_append]; show _ + 1 + _ ≤ _; omega, HST, HFX⟩
        case measure => show r.size < q.size; omega
      all_goals
        have hpn := parse_stopM hit.out HNE.out HLM.out
        have HPN := Lib.hid hpn
        clear hpn
        go_wp2
        go_ret2
        exact ⟨gwV, .inl ⟨HPN.out, rfl⟩⟩
    · have hq0 : (q.toList == ([] : List UInt8)) = true := by
        rw [beq_iff_eq, ByteArray.toList_eq]
        exact List.eq_nil_of_length_eq_zero (by have : q.data.toList.length = q.size := Array.length_toList; omega)
      have hq1 : q.data.toList = [] := List.eq_nil_of_length_eq_zero (by have : q.data.toList.length = q.size := Array.length_toList; omega)
      have hits : linesM b.length b = some ds := by rw [hit.out, hq1]; simp [linesM]
      have HIT := Lib.hid hits
      obtain ⟨pv, cv, rfl, hrd, -, -, -⟩ := hown.val
      have cP := manifest_Print pv ds cv wo (by omega) hrd hfi.out (HM.out.grew hb) (u8_grew HU.out hb) (HFO.out.grew hb)
      have HOW := Lib.hid hown
      clear hq1 hits hit hown hrd
      go_wp2_with (go_at_call 9; with_reducible refine cP.mono ?_)
      rintro e5 W5 ⟨g5, ⟨h1, rfl⟩ | ⟨h1, h2, rfl⟩ | ⟨h1, h2, vx, rfl, hox⟩⟩
      · have hpn : parseM b = none := parseM_bad HIT.out (fun h => by rw [h.1] at h1; cases h1)
        have HPN := Lib.hid hpn
        clear hpn
        go_wp2
        go_ret2
        exact ⟨hb.trans' g5, .inl ⟨HPN.out, rfl⟩⟩
      · have hpn : parseM b = none := parseM_bad HIT.out (fun h => by have h3 := h.2.1; rw [← h.2.2] at h3; omega)
        have HPN := Lib.hid hpn
        clear hpn
        go_wp2
        go_ret2
        exact ⟨hb.trans' g5, .inl ⟨HPN.out, rfl⟩⟩
      · obtain ⟨px, cx, rfl, hrx, -, -⟩ := hox.val
        have gw5 := hb.trans' g5
        have cE := bytes_Equal' px p (printF ds) b cx cap W5 hrx (HR.out.below gw5 (Nat.le_refl _))
        obtain ⟨B, hB⟩ : ∃ B, (printF ds == b) = B := ⟨_, rfl⟩
        rw [hB] at cE
        have HB := Lib.hid hB
        have HL2 := Lib.hid h2
        have HH1 := Lib.hid h1
        clear hB hox hrx h2 h1
        cases B with
        | false =>
          have hpn : parseM b = none := parseM_bad HIT.out (fun h => absurd h.2.2 (beq_eq_false_iff_ne.1 HB.out))
          have HPN := Lib.hid hpn
          clear hpn
          go_wp2_with (go_at_call 26; with_reducible refine cE.mono ?_; rintro e11 W11 ⟨rfl, h11⟩; subst W11)
          go_ret2
          exact ⟨gw5, .inl ⟨HPN.out, rfl⟩⟩
        | true =>
          have he := beq_iff_eq.1 HB.out
          have hps : parseM b = some ds := parseM_of HIT.out ⟨HH1.out, by rw [← he]; exact HL2.out, he⟩
          have HPS := Lib.hid hps
          clear hps he
          go_wp2_with (go_at_call 26; with_reducible refine cE.mono ?_; rintro e11 W11 ⟨rfl, h11⟩; subst W11)
          go_ret2
          exact ⟨gw5, .inr ⟨ds, _, HPS.out, hfi.out, rfl, HOW.out.below g5⟩⟩

end Go.Proofs.YtgjnnoamhmmcnaaDoor
