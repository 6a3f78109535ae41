/- The law CommitHeaders of layer 9, walked. Conditions: the library's tables are laid. -/
import Derived.Test.YtemojhcbhljemaaDoorLaw09c
import Derived.Test.YtemojhcbhljemaaDoorPure09e
namespace Go.Proofs.YtemojhcbhljemaaDoor
set_option linter.unusedVariables false
set_option linter.unusedSimpArgs false
open Go.RowKit

theorem conv_rd (W : World) (G : ByteArray) (h : G.size ≤ 9223372036854775807) : Rd (Lib.bytesWorld W 5 G) (some ⟨W.heap.size, 0, none⟩) G.data.toList ∧ G.data.toList.length ≤ grownCap W G.size 0 5 := by
  obtain ⟨p, c, hv, hr, hc, -⟩ := (OwnB.conv (w := W) (base := 0) G (Nat.zero_le _) h).val
  cases hv
  exact ⟨hr, hc⟩

set_option maxRecDepth 100000 in
set_option maxHeartbeats 8000000 in
theorem law_CommitHeaders (S : ByteArray) (x : Int) (w : World) (hs : S.size ≤ 9223372036854775807) (hx0 : -9223372036854775808 ≤ x) (hx1 : x ≤ 9223372036854775807) (hu : U8Ok w) (hm : MaxOk w) (ht : TabOk w) (he : ErrOk w) :
    Calls Tryd.prog 5 #[.string S, .int .i64 x] w fun e w' => e = .returned (.bool true) ∧ Grew w w' := by
  have g0 : Grew w w := Below.refl _ _
  have cA := fun W (g : Grew w W) => awake09 W (u8_grew hu g) (hm.grew g) (ht.grew g)
  by_cases h500 : 500 < S.size
  · have f1 : decide (500 < (S.size : Int)) = true := decide_eq_true (by omega)
    go_enter Tryd.func5, Tryd.ntmps5
    go_wp2_with (first | (go_at_call 7; with_reducible refine (cA _ (by assumption)).mono ?_; rintro e1 W1 ⟨rfl, g1⟩; replace g1 := Grew.trans' (a := w) (by assumption) g1))
    go_ret
    exact ⟨rfl, by assumption⟩
  have f1 : decide (500 < (S.size : Int)) = false := decide_eq_false (by omega)
  have hS5 : S.size ≤ 500 := by omega
  have cF := fun W => help_Find S ⟨#[0]⟩ W (by omega) (by decide) (by decide)
  have hXI : decide (0 ≤ Lib.index S.data.toList [0]) = Lib.contains S.data.toList [0] := contains_index _ _
  obtain ⟨FI, hFI⟩ : ∃ FI, Lib.index S.data.toList [0] = FI := ⟨_, rfl⟩
  simp only [show (⟨#[0]⟩ : ByteArray).data.toList = [0] from rfl, hFI] at cF
  rw [hFI] at hXI
  clear hFI
  obtain ⟨X, hX⟩ : ∃ X, Lib.contains S.data.toList [0] = X := ⟨_, rfl⟩
  rw [hX] at hXI
  cases X with
  | true =>
    go_enter Tryd.func5, Tryd.ntmps5
    go_wp2_with (first | (go_at_call 14; with_reducible refine (cF _).mono ?_; rintro e1 W1 ⟨rfl, h1⟩; subst W1) | (go_at_call 7; with_reducible refine (cA _ (by assumption)).mono ?_; rintro e1 W1 ⟨rfl, g1⟩; replace g1 := Grew.trans' (a := w) (by assumption) g1))
    go_ret
    exact ⟨rfl, by assumption⟩
  | false =>
    have hgd := good_text S hS5 hX
    obtain ⟨K, hK, hK9⟩ := pick_wrap x 9 9 rfl (by decide) (by decide)
    obtain ⟨T, hT⟩ : ∃ B : ByteArray, (⟨#[116, 114, 101, 101, 32, 48, 49, 48, 48, 48, 48, 48, 48, 48, 48, 48, 48, 48, 48, 48, 48, 48, 48, 48, 48, 48, 48, 48, 48, 48, 48, 48, 48, 48, 48, 48, 48, 48, 48, 48, 48, 48, 48, 48, 48, 10]⟩ : ByteArray) = B := ⟨_, rfl⟩
    have sT : T.size = 46 := by rw [← hT]; rfl
    have lTx : T.data.toList = lT ++ [10] := by rw [← hT] <;> rfl
    obtain ⟨P, hP⟩ : ∃ B : ByteArray, (⟨#[112, 97, 114, 101, 110, 116, 32, 48, 50, 48, 48, 48, 48, 48, 48, 48, 48, 48, 48, 48, 48, 48, 48, 48, 48, 48, 48, 48, 48, 48, 48, 48, 48, 48, 48, 48, 48, 48, 48, 48, 48, 48, 48, 48, 48, 48, 48, 10]⟩ : ByteArray) = B := ⟨_, rfl⟩
    have sP : P.size = 48 := by rw [← hP]; rfl
    have lPx : P.data.toList = lP ++ [10] := by rw [← hP] <;> rfl
    obtain ⟨A, hA⟩ : ∃ B : ByteArray, (⟨#[97, 117, 116, 104, 111, 114, 32, 65, 32, 60, 97, 62, 32, 53, 32, 43, 48, 48, 48, 48, 10]⟩ : ByteArray) = B := ⟨_, rfl⟩
    have sA : A.size = 21 := by rw [← hA]; rfl
    have lAx : A.data.toList = lA ++ [10] := by rw [← hA] <;> rfl
    obtain ⟨C, hC⟩ : ∃ B : ByteArray, (⟨#[99, 111, 109, 109, 105, 116, 116, 101, 114, 32, 66, 32, 60, 98, 62, 32, 54, 32, 45, 48, 49, 48, 48, 10]⟩ : ByteArray) = B := ⟨_, rfl⟩
    have sC : C.size = 24 := by rw [← hC]; rfl
    have lCx : C.data.toList = lC ++ [10] := by rw [← hC] <;> rfl
    obtain ⟨N, hN⟩ : ∃ B : ByteArray, (⟨#[10]⟩ : ByteArray) = B := ⟨_, rfl⟩
    have sN : N.size = 1 := by rw [← hN]; rfl
    have lNx : N.data.toList = [10] := by rw [← hN] <;> rfl
    obtain ⟨G, hG⟩ : ∃ B : ByteArray, (⟨#[103, 112, 103, 115, 105, 103, 32, 120, 10, 10]⟩ : ByteArray) = B := ⟨_, rfl⟩
    have sG : G.size = 10 := by rw [← hG]; rfl
    have lGx : G.data.toList = lG ++ [10, 10] := by rw [← hG] <;> rfl
    obtain ⟨E, hE⟩ : ∃ B : ByteArray, (⟨#[101, 110, 99, 111, 100, 105, 110, 103, 32, 117, 116, 102, 45, 56, 10]⟩ : ByteArray) = B := ⟨_, rfl⟩
    have sE : E.size = 15 := by rw [← hE]; rfl
    have lEx : E.data.toList = lE ++ [10] := by rw [← hE] <;> rfl
    obtain ⟨CTP, hCTP⟩ : ∃ B : ByteArray, T ++ P = B := ⟨_, rfl⟩
    have sCTP : CTP.size = 94 := by rw [← hCTP, ByteArray.size_append]; omega
    have lCTPx : CTP.data.toList = T.data.toList ++ P.data.toList := by rw [← hCTP, append_list]
    obtain ⟨CTPA, hCTPA⟩ : ∃ B : ByteArray, CTP ++ A = B := ⟨_, rfl⟩
    have sCTPA : CTPA.size = 115 := by rw [← hCTPA, ByteArray.size_append]; omega
    have lCTPAx : CTPA.data.toList = CTP.data.toList ++ A.data.toList := by rw [← hCTPA, append_list]
    obtain ⟨CTPAC, hCTPAC⟩ : ∃ B : ByteArray, CTPA ++ C = B := ⟨_, rfl⟩
    have sCTPAC : CTPAC.size = 139 := by rw [← hCTPAC, ByteArray.size_append]; omega
    have lCTPACx : CTPAC.data.toList = CTPA.data.toList ++ C.data.toList := by rw [← hCTPAC, append_list]
    obtain ⟨CTPACN, hCTPACN⟩ : ∃ B : ByteArray, CTPAC ++ N = B := ⟨_, rfl⟩
    have sCTPACN : CTPACN.size = 140 := by rw [← hCTPACN, ByteArray.size_append]; omega
    have lCTPACNx : CTPACN.data.toList = CTPAC.data.toList ++ N.data.toList := by rw [← hCTPACN, append_list]
    obtain ⟨CTPACNS, hCTPACNS⟩ : ∃ B : ByteArray, CTPACN ++ S = B := ⟨_, rfl⟩
    have sCTPACNS : CTPACNS.size = 140 + S.size := by rw [← hCTPACNS, ByteArray.size_append]; omega
    have lCTPACNSx : CTPACNS.data.toList = CTPACN.data.toList ++ S.data.toList := by rw [← hCTPACNS, append_list]
    obtain ⟨CPT, hCPT⟩ : ∃ B : ByteArray, P ++ T = B := ⟨_, rfl⟩
    have sCPT : CPT.size = 94 := by rw [← hCPT, ByteArray.size_append]; omega
    have lCPTx : CPT.data.toList = P.data.toList ++ T.data.toList := by rw [← hCPT, append_list]
    obtain ⟨CPTA, hCPTA⟩ : ∃ B : ByteArray, CPT ++ A = B := ⟨_, rfl⟩
    have sCPTA : CPTA.size = 115 := by rw [← hCPTA, ByteArray.size_append]; omega
    have lCPTAx : CPTA.data.toList = CPT.data.toList ++ A.data.toList := by rw [← hCPTA, append_list]
    obtain ⟨CPTAC, hCPTAC⟩ : ∃ B : ByteArray, CPTA ++ C = B := ⟨_, rfl⟩
    have sCPTAC : CPTAC.size = 139 := by rw [← hCPTAC, ByteArray.size_append]; omega
    have lCPTACx : CPTAC.data.toList = CPTA.data.toList ++ C.data.toList := by rw [← hCPTAC, append_list]
    obtain ⟨CPTACN, hCPTACN⟩ : ∃ B : ByteArray, CPTAC ++ N = B := ⟨_, rfl⟩
    have sCPTACN : CPTACN.size = 140 := by rw [← hCPTACN, ByteArray.size_append]; omega
    have lCPTACNx : CPTACN.data.toList = CPTAC.data.toList ++ N.data.toList := by rw [← hCPTACN, append_list]
    obtain ⟨CPTACNS, hCPTACNS⟩ : ∃ B : ByteArray, CPTACN ++ S = B := ⟨_, rfl⟩
    have sCPTACNS : CPTACNS.size = 140 + S.size := by rw [← hCPTACNS, ByteArray.size_append]; omega
    have lCPTACNSx : CPTACNS.data.toList = CPTACN.data.toList ++ S.data.toList := by rw [← hCPTACNS, append_list]
    obtain ⟨CTPC, hCTPC⟩ : ∃ B : ByteArray, CTP ++ C = B := ⟨_, rfl⟩
    have sCTPC : CTPC.size = 118 := by rw [← hCTPC, ByteArray.size_append]; omega
    have lCTPCx : CTPC.data.toList = CTP.data.toList ++ C.data.toList := by rw [← hCTPC, append_list]
    obtain ⟨CTPCA, hCTPCA⟩ : ∃ B : ByteArray, CTPC ++ A = B := ⟨_, rfl⟩
    have sCTPCA : CTPCA.size = 139 := by rw [← hCTPCA, ByteArray.size_append]; omega
    have lCTPCAx : CTPCA.data.toList = CTPC.data.toList ++ A.data.toList := by rw [← hCTPCA, append_list]
    obtain ⟨CTPCAN, hCTPCAN⟩ : ∃ B : ByteArray, CTPCA ++ N = B := ⟨_, rfl⟩
    have sCTPCAN : CTPCAN.size = 140 := by rw [← hCTPCAN, ByteArray.size_append]; omega
    have lCTPCANx : CTPCAN.data.toList = CTPCA.data.toList ++ N.data.toList := by rw [← hCTPCAN, append_list]
    obtain ⟨CTPCANS, hCTPCANS⟩ : ∃ B : ByteArray, CTPCAN ++ S = B := ⟨_, rfl⟩
    have sCTPCANS : CTPCANS.size = 140 + S.size := by rw [← hCTPCANS, ByteArray.size_append]; omega
    have lCTPCANSx : CTPCANS.data.toList = CTPCAN.data.toList ++ S.data.toList := by rw [← hCTPCANS, append_list]
    obtain ⟨CTPACG, hCTPACG⟩ : ∃ B : ByteArray, CTPAC ++ G = B := ⟨_, rfl⟩
    have sCTPACG : CTPACG.size = 149 := by rw [← hCTPACG, ByteArray.size_append]; omega
    have lCTPACGx : CTPACG.data.toList = CTPAC.data.toList ++ G.data.toList := by rw [← hCTPACG, append_list]
    obtain ⟨CTPACGS, hCTPACGS⟩ : ∃ B : ByteArray, CTPACG ++ S = B := ⟨_, rfl⟩
    have sCTPACGS : CTPACGS.size = 149 + S.size := by rw [← hCTPACGS, ByteArray.size_append]; omega
    have lCTPACGSx : CTPACGS.data.toList = CTPACG.data.toList ++ S.data.toList := by rw [← hCTPACGS, append_list]
    obtain ⟨CTT, hCTT⟩ : ∃ B : ByteArray, T ++ T = B := ⟨_, rfl⟩
    have sCTT : CTT.size = 92 := by rw [← hCTT, ByteArray.size_append]; omega
    have lCTTx : CTT.data.toList = T.data.toList ++ T.data.toList := by rw [← hCTT, append_list]
    obtain ⟨CTTA, hCTTA⟩ : ∃ B : ByteArray, CTT ++ A = B := ⟨_, rfl⟩
    have sCTTA : CTTA.size = 113 := by rw [← hCTTA, ByteArray.size_append]; omega
    have lCTTAx : CTTA.data.toList = CTT.data.toList ++ A.data.toList := by rw [← hCTTA, append_list]
    obtain ⟨CTTAC, hCTTAC⟩ : ∃ B : ByteArray, CTTA ++ C = B := ⟨_, rfl⟩
    have sCTTAC : CTTAC.size = 137 := by rw [← hCTTAC, ByteArray.size_append]; omega
    have lCTTACx : CTTAC.data.toList = CTTA.data.toList ++ C.data.toList := by rw [← hCTTAC, append_list]
    obtain ⟨CTTACN, hCTTACN⟩ : ∃ B : ByteArray, CTTAC ++ N = B := ⟨_, rfl⟩
    have sCTTACN : CTTACN.size = 138 := by rw [← hCTTACN, ByteArray.size_append]; omega
    have lCTTACNx : CTTACN.data.toList = CTTAC.data.toList ++ N.data.toList := by rw [← hCTTACN, append_list]
    obtain ⟨CTTACNS, hCTTACNS⟩ : ∃ B : ByteArray, CTTACN ++ S = B := ⟨_, rfl⟩
    have sCTTACNS : CTTACNS.size = 138 + S.size := by rw [← hCTTACNS, ByteArray.size_append]; omega
    have lCTTACNSx : CTTACNS.data.toList = CTTACN.data.toList ++ S.data.toList := by rw [← hCTTACNS, append_list]
    obtain ⟨CTPP, hCTPP⟩ : ∃ B : ByteArray, CTP ++ P = B := ⟨_, rfl⟩
    have sCTPP : CTPP.size = 142 := by rw [← hCTPP, ByteArray.size_append]; omega
    have lCTPPx : CTPP.data.toList = CTP.data.toList ++ P.data.toList := by rw [← hCTPP, append_list]
    obtain ⟨CTPPA, hCTPPA⟩ : ∃ B : ByteArray, CTPP ++ A = B := ⟨_, rfl⟩
    have sCTPPA : CTPPA.size = 163 := by rw [← hCTPPA, ByteArray.size_append]; omega
    have lCTPPAx : CTPPA.data.toList = CTPP.data.toList ++ A.data.toList := by rw [← hCTPPA, append_list]
    obtain ⟨CTPPAC, hCTPPAC⟩ : ∃ B : ByteArray, CTPPA ++ C = B := ⟨_, rfl⟩
    have sCTPPAC : CTPPAC.size = 187 := by rw [← hCTPPAC, ByteArray.size_append]; omega
    have lCTPPACx : CTPPAC.data.toList = CTPPA.data.toList ++ C.data.toList := by rw [← hCTPPAC, append_list]
    obtain ⟨CTPPACN, hCTPPACN⟩ : ∃ B : ByteArray, CTPPAC ++ N = B := ⟨_, rfl⟩
    have sCTPPACN : CTPPACN.size = 188 := by rw [← hCTPPACN, ByteArray.size_append]; omega
    have lCTPPACNx : CTPPACN.data.toList = CTPPAC.data.toList ++ N.data.toList := by rw [← hCTPPACN, append_list]
    obtain ⟨CTPPACNS, hCTPPACNS⟩ : ∃ B : ByteArray, CTPPACN ++ S = B := ⟨_, rfl⟩
    have sCTPPACNS : CTPPACNS.size = 188 + S.size := by rw [← hCTPPACNS, ByteArray.size_append]; omega
    have lCTPPACNSx : CTPPACNS.data.toList = CTPPACN.data.toList ++ S.data.toList := by rw [← hCTPPACNS, append_list]
    obtain ⟨CTPAA, hCTPAA⟩ : ∃ B : ByteArray, CTPA ++ A = B := ⟨_, rfl⟩
    have sCTPAA : CTPAA.size = 136 := by rw [← hCTPAA, ByteArray.size_append]; omega
    have lCTPAAx : CTPAA.data.toList = CTPA.data.toList ++ A.data.toList := by rw [← hCTPAA, append_list]
    obtain ⟨CTPAAC, hCTPAAC⟩ : ∃ B : ByteArray, CTPAA ++ C = B := ⟨_, rfl⟩
    have sCTPAAC : CTPAAC.size = 160 := by rw [← hCTPAAC, ByteArray.size_append]; omega
    have lCTPAACx : CTPAAC.data.toList = CTPAA.data.toList ++ C.data.toList := by rw [← hCTPAAC, append_list]
    obtain ⟨CTPAACN, hCTPAACN⟩ : ∃ B : ByteArray, CTPAAC ++ N = B := ⟨_, rfl⟩
    have sCTPAACN : CTPAACN.size = 161 := by rw [← hCTPAACN, ByteArray.size_append]; omega
    have lCTPAACNx : CTPAACN.data.toList = CTPAAC.data.toList ++ N.data.toList := by rw [← hCTPAACN, append_list]
    obtain ⟨CTPAACNS, hCTPAACNS⟩ : ∃ B : ByteArray, CTPAACN ++ S = B := ⟨_, rfl⟩
    have sCTPAACNS : CTPAACNS.size = 161 + S.size := by rw [← hCTPAACNS, ByteArray.size_append]; omega
    have lCTPAACNSx : CTPAACNS.data.toList = CTPAACN.data.toList ++ S.data.toList := by rw [← hCTPAACNS, append_list]
    obtain ⟨CTPAN, hCTPAN⟩ : ∃ B : ByteArray, CTPA ++ N = B := ⟨_, rfl⟩
    have sCTPAN : CTPAN.size = 116 := by rw [← hCTPAN, ByteArray.size_append]; omega
    have lCTPANx : CTPAN.data.toList = CTPA.data.toList ++ N.data.toList := by rw [← hCTPAN, append_list]
    obtain ⟨CTPANS, hCTPANS⟩ : ∃ B : ByteArray, CTPAN ++ S = B := ⟨_, rfl⟩
    have sCTPANS : CTPANS.size = 116 + S.size := by rw [← hCTPANS, ByteArray.size_append]; omega
    have lCTPANSx : CTPANS.data.toList = CTPAN.data.toList ++ S.data.toList := by rw [← hCTPANS, append_list]
    obtain ⟨CTE, hCTE⟩ : ∃ B : ByteArray, T ++ E = B := ⟨_, rfl⟩
    have sCTE : CTE.size = 61 := by rw [← hCTE, ByteArray.size_append]; omega
    have lCTEx : CTE.data.toList = T.data.toList ++ E.data.toList := by rw [← hCTE, append_list]
    obtain ⟨CTEA, hCTEA⟩ : ∃ B : ByteArray, CTE ++ A = B := ⟨_, rfl⟩
    have sCTEA : CTEA.size = 82 := by rw [← hCTEA, ByteArray.size_append]; omega
    have lCTEAx : CTEA.data.toList = CTE.data.toList ++ A.data.toList := by rw [← hCTEA, append_list]
    obtain ⟨CTEAC, hCTEAC⟩ : ∃ B : ByteArray, CTEA ++ C = B := ⟨_, rfl⟩
    have sCTEAC : CTEAC.size = 106 := by rw [← hCTEAC, ByteArray.size_append]; omega
    have lCTEACx : CTEAC.data.toList = CTEA.data.toList ++ C.data.toList := by rw [← hCTEAC, append_list]
    obtain ⟨CTEACN, hCTEACN⟩ : ∃ B : ByteArray, CTEAC ++ N = B := ⟨_, rfl⟩
    have sCTEACN : CTEACN.size = 107 := by rw [← hCTEACN, ByteArray.size_append]; omega
    have lCTEACNx : CTEACN.data.toList = CTEAC.data.toList ++ N.data.toList := by rw [← hCTEACN, append_list]
    obtain ⟨CTEACNS, hCTEACNS⟩ : ∃ B : ByteArray, CTEACN ++ S = B := ⟨_, rfl⟩
    have sCTEACNS : CTEACNS.size = 107 + S.size := by rw [← hCTEACNS, ByteArray.size_append]; omega
    have lCTEACNSx : CTEACNS.data.toList = CTEACN.data.toList ++ S.data.toList := by rw [← hCTEACNS, append_list]
    have hgl : CTPACNS.data.toList = goodL S.data.toList := by rw [lCTPACNSx, lCTPACNx, lCTPACx, lCTPAx, lCTPx, lTx, lPx, lAx, lCx, lNx]; unfold goodL; simp only [List.append_assoc, List.cons_append, List.nil_append]
    have hbl0 : CPTACNS.data.toList = badL S.data.toList 0 := by rw [lCPTACNSx, lCPTACNx, lCPTACx, lCPTAx, lCPTx, lPx, lTx, lAx, lCx, lNx]; unfold badL; simp only [List.append_assoc, List.cons_append, List.nil_append]
    have hbl1 : CTPCANS.data.toList = badL S.data.toList 1 := by rw [lCTPCANSx, lCTPCANx, lCTPCAx, lCTPCx, lCTPx, lTx, lPx, lCx, lAx, lNx]; unfold badL; simp only [List.append_assoc, List.cons_append, List.nil_append]
    have hbl2 : CTPACGS.data.toList = badL S.data.toList 2 := by rw [lCTPACGSx, lCTPACGx, lCTPACx, lCTPAx, lCTPx, lTx, lPx, lAx, lCx, lGx]; unfold badL; simp only [List.append_assoc, List.cons_append, List.nil_append]
    have hbl3 : CTTACNS.data.toList = badL S.data.toList 3 := by rw [lCTTACNSx, lCTTACNx, lCTTACx, lCTTAx, lCTTx, lTx, lAx, lCx, lNx]; unfold badL; simp only [List.append_assoc, List.cons_append, List.nil_append]
    have hbl4 : CTPPACNS.data.toList = badL S.data.toList 4 := by rw [lCTPPACNSx, lCTPPACNx, lCTPPACx, lCTPPAx, lCTPPx, lCTPx, lTx, lPx, lAx, lCx, lNx]; unfold badL; simp only [List.append_assoc, List.cons_append, List.nil_append]
    have hbl5 : CTPAACNS.data.toList = badL S.data.toList 5 := by rw [lCTPAACNSx, lCTPAACNx, lCTPAACx, lCTPAAx, lCTPAx, lCTPx, lTx, lPx, lAx, lCx, lNx]; unfold badL; simp only [List.append_assoc, List.cons_append, List.nil_append]
    have hbl6 : CTPAC.data.toList = badL S.data.toList 6 := by rw [lCTPACx, lCTPAx, lCTPx, lTx, lPx, lAx, lCx]; unfold badL; simp only [List.append_assoc, List.cons_append, List.nil_append]
    have hbl7 : CTPANS.data.toList = badL S.data.toList 7 := by rw [lCTPANSx, lCTPANx, lCTPAx, lCTPx, lTx, lPx, lAx, lNx]; unfold badL; simp only [List.append_assoc, List.cons_append, List.nil_append]
    have hbl8 : CTEACNS.data.toList = badL S.data.toList 8 := by rw [lCTEACNSx, lCTEACNx, lCTEACx, lCTEAx, lCTEx, lTx, lEx, lAx, lCx, lNx]; unfold badL; simp only [List.append_assoc, List.cons_append, List.nil_append]
    obtain ⟨W0, hW0⟩ : ∃ W0, w.alloc (.cells #[.string CPTACNS, .string CTPCANS, .string CTPACGS, .string CTTACNS, .string CTPPACNS, .string CTPAACNS, .string CTPAC, .string CTPANS, .string CTEACNS] 9) = W0 := ⟨_, rfl⟩
    have gw0 : Grew w W0 := by rw [← hW0]; exact (Below.refl _ _).alloc (Nat.le_refl _) _
    obtain ⟨BK, hcK, hbK, hsK⟩ : ∃ BK : ByteArray, W0.cell? ⟨w.heap.size, K, none⟩ = some (.string BK) ∧ BK.data.toList = badL S.data.toList K ∧ BK.size ≤ 1000 := by
      rw [← hW0]
      have : K = 0 ∨ K = 1 ∨ K = 2 ∨ K = 3 ∨ K = 4 ∨ K = 5 ∨ K = 6 ∨ K = 7 ∨ K = 8 := by omega
      rcases this with rfl | rfl | rfl | rfl | rfl | rfl | rfl | rfl | rfl
      · exact ⟨CPTACNS, by rw [cell_of_row _ _ _ _ _ (0, 0) (heap_alloc_new w _)]; rfl, hbl0, by omega⟩
      · exact ⟨CTPCANS, by rw [cell_of_row _ _ _ _ _ (0, 0) (heap_alloc_new w _)]; rfl, hbl1, by omega⟩
      · exact ⟨CTPACGS, by rw [cell_of_row _ _ _ _ _ (0, 0) (heap_alloc_new w _)]; rfl, hbl2, by omega⟩
      · exact ⟨CTTACNS, by rw [cell_of_row _ _ _ _ _ (0, 0) (heap_alloc_new w _)]; rfl, hbl3, by omega⟩
      · exact ⟨CTPPACNS, by rw [cell_of_row _ _ _ _ _ (0, 0) (heap_alloc_new w _)]; rfl, hbl4, by omega⟩
      · exact ⟨CTPAACNS, by rw [cell_of_row _ _ _ _ _ (0, 0) (heap_alloc_new w _)]; rfl, hbl5, by omega⟩
      · exact ⟨CTPAC, by rw [cell_of_row _ _ _ _ _ (0, 0) (heap_alloc_new w _)]; rfl, hbl6, by omega⟩
      · exact ⟨CTPANS, by rw [cell_of_row _ _ _ _ _ (0, 0) (heap_alloc_new w _)]; rfl, hbl7, by omega⟩
      · exact ⟨CTEACNS, by rw [cell_of_row _ _ _ _ _ (0, 0) (heap_alloc_new w _)]; rfl, hbl8, by omega⟩
    have hsG : CTPACNS.size ≤ 1000 := by omega
    have HGL := Lib.hid hgl
    have HBK := Lib.hid hbK
    have HX := Lib.hid hX
    have HGD := Lib.hid hgd
    clear hgl hbK hX hgd lTx lPx lAx lCx lNx lGx lEx lCTPx lCTPAx lCTPACx lCTPACNx lCTPACNSx lCPTx lCPTAx lCPTACx lCPTACNx lCPTACNSx lCTPCx lCTPCAx lCTPCANx lCTPCANSx lCTPACGx lCTPACGSx lCTTx lCTTAx lCTTACx lCTTACNx lCTTACNSx lCTPPx lCTPPAx lCTPPACx lCTPPACNx lCTPPACNSx lCTPAAx lCTPAACx lCTPAACNx lCTPAACNSx lCTPANx lCTPANSx lCTEx lCTEAx lCTEACx lCTEACNx lCTEACNSx hbl0 hbl1 hbl2 hbl3 hbl4 hbl5 hbl6 hbl7 hbl8
    obtain ⟨V0, hV0⟩ : ∃ V, Lib.bytesWorld W0 5 CTPACNS = V := ⟨_, rfl⟩
    have kc := run_conv_bytes
    obtain ⟨rdG, cpG⟩ := conv_rd W0 CTPACNS (by omega)
    have gV0 : Grew W0 V0 := by rw [← hV0]; exact bytesWorld_grew _ _
    rw [hV0] at rdG
    have gwV := gw0.trans' gV0
    have hlG : CTPACNS.data.toList.length = CTPACNS.size := Array.length_toList
    have cG := commit_Parse (some ⟨W0.heap.size, 0, none⟩) (grownCap W0 CTPACNS.size 0 5) CTPACNS.data.toList V0 rdG (by omega) cpG (hm.grew gwV) (u8_grew hu gwV) (ht.grew gwV) (he.grew gwV)
    rw [hlG, sCTPACNS] at cG
    have HP0 := Lib.hid gwV
    clear hlG rdG cpG
    go_enter Tryd.func5, Tryd.ntmps5
    go_wp2_with (first | (go_at_call 14; with_reducible refine (cF _).mono ?_; rintro e1 W1 ⟨rfl, h1⟩; subst W1) | (go_at_call 10; with_reducible refine cG.mono ?_))
    rintro e2 Wb hp2
    have gVb := hp2.1
    obtain ⟨-, r1, p1, c1, k1, rfl, -, -, -, hw1⟩ := parse_ways hp2
    rw [HGL.out] at hw1
    obtain ⟨rfl, hg1⟩ : k1 = 0 ∧ GoodR (goodL S.data.toList) r1 := by
      rcases hw1 with h | ⟨-, -, hno⟩
      · exact h
      · exact absurd HGD.out (hno _)
    obtain rfl := good_uniq hg1 HGD.out
    have gwb := gwV.trans' gVb
    have hpl : (goodRec S).par.length = 1 := rfl
    rw [hpl]
    have nf1 := infoRec (.slice p1 1 c1) (goodRec S) rfl
    have one1 := rec_one (goodRec S) (.slice p1 1 c1) rfl
    have len1 := Rec.len (.slice p1 1 c1) (goodRec S) rfl
    obtain ⟨RE, hRE⟩ : ∃ RE, (goodRec S).cells (.slice p1 1 c1) = RE := ⟨_, rfl⟩
    rw [hRE] at nf1 one1 len1 ⊢
    have HRE := Lib.hid hRE
    clear cG hp2 hRE hg1
    have cB := fun W (g : Grew w W) => commit_Parse (some ⟨W.heap.size, 0, none⟩) (grownCap W BK.size 0 5) BK.data.toList (Lib.bytesWorld W 5 BK) (conv_rd W BK (by omega)).1 (by rw [show BK.data.toList.length = BK.size from Array.length_toList]; omega) (conv_rd W BK (by omega)).2 (hm.grew (g.trans' (bytesWorld_grew _ _))) (u8_grew hu (g.trans' (bytesWorld_grew _ _))) (ht.grew (g.trans' (bytesWorld_grew _ _))) (he.grew (g.trans' (bytesWorld_grew _ _)))
    simp only [show BK.data.toList.length = BK.size from Array.length_toList] at cB
    go_wp2_with (refine wpList_store_newH rfl 29 _ _ rfl Wb _ rfl RE rfl rfl len1.symm nf1 one1 ?_)
    intro Ub gUb sUb bUb
    have gwU := gwb.trans' gUb
    have cB1 := cB Ub gwU
    have kc2 : (convert 9 30 (.string BK)).run Tryd.prog Ub = .ok (.slice (some ⟨Ub.heap.size, 0, none⟩) BK.size (grownCap Ub BK.size 0 5)) (Lib.bytesWorld Ub 5 BK) := by
      rw [run_conv_bytes, show BK.data.toList.length = BK.size from Array.length_toList]
    clear cB kc sUb
    go_wp2_with (go_at_call 10; with_reducible refine cB1.mono ?_)
    rintro e3 Wc hp3
    obtain ⟨gc, r2, p2, c2, k2, rfl, -, hr2, -, hw2⟩ := parse_ways hp3
    rw [HBK.out] at hw2
    obtain ⟨rfl, rfl⟩ : k2 = 4 ∧ r2 = zeroR := by
      rcases hw2 with ⟨-, hg2⟩ | ⟨h1, h2, -⟩
      · exact absurd hg2 (bad_none _ K hK9 _)
      · exact ⟨h1, h2⟩
    have gwc := (gwU.trans' (bytesWorld_grew Ub BK)).trans' gc
    have rUc : Wc.heap[Wb.heap.size]? = some (.cells RE.toArray 29 (0, 0)) := (gc.block _ (Nat.lt_of_lt_of_le (Array.getElem?_eq_some_iff.1 bUb).1 (bytesWorld_grew Ub BK).size)).trans (((bytesWorld_grew Ub BK).block _ (Array.getElem?_eq_some_iff.1 bUb).1).trans bUb)
    have hpz : zeroR.par.length = 0 := rfl
    rw [hpz]
    have nf2 := infoRec (.slice p2 0 c2) zeroR rfl
    have one2 := rec_one zeroR (.slice p2 0 c2) rfl
    have len2 := Rec.len (.slice p2 0 c2) zeroR rfl
    have cQ := fun W => help_Record p2 none c2 0 zeroR W rfl (by simp [zeroR]) (by simp [zeroR]) (.inl rfl) (.inl rfl)
    change ∀ W, Calls _ _ #[.agg (zeroR.cells (.slice p2 0 c2)).toArray, .agg #[.int .u8 0, .int .u8 0, .int .u8 0, .int .u8 0, .int .u8 0, .int .u8 0, .int .u8 0, .int .u8 0, .int .u8 0, .int .u8 0, .int .u8 0, .int .u8 0, .int .u8 0, .int .u8 0, .int .u8 0, .int .u8 0, .int .u8 0, .int .u8 0, .int .u8 0, .int .u8 0, .slice none 0 0, .string ⟨#[]⟩, .string ⟨#[]⟩, .int .i64 0, .int .i64 0, .string ⟨#[]⟩, .string ⟨#[]⟩, .int .i64 0, .int .i64 0, .string ⟨#[]⟩]] _ _ at cQ
    obtain ⟨RZ, hRZ⟩ : ∃ RZ, zeroR.cells (.slice p2 0 c2) = RZ := ⟨_, rfl⟩
    simp only [hRZ] at nf2 one2 len2 cQ ⊢
    clear cB1 hp3 hRZ hw2 bUb kc2
    go_wp2_with (refine wpList_store_newH rfl 29 _ _ rfl Wc _ rfl RZ rfl rfl len2.symm nf2 one2 ?_)
    intro Ud gUd sUd bUd
    have gwd := gwc.trans' gUd
    have gdd : Grew Ud Ud := Below.refl _ _
    have rZ : ∀ W, Grew Ud W → W.rangeAt Wc.heap.size 0 RZ := fun W g => range_grew (by have := range_row bUd; simpa using this) g
    have rE : Ud.rangeAt Wb.heap.size 0 ((goodRec S).cells (.slice p1 1 c1)) := by
      rw [HRE.out]
      have := range_row ((gUd.block _ (Array.getElem?_eq_some_iff.1 rUc).1).trans rUc)
      simpa using this
    obtain ⟨-, q1, q2, q3, q4⟩ := rec_range rE rfl
    have e20 : ∀ W, Grew Ud W → W.cell? ⟨Wb.heap.size, 20, none⟩ = some (.slice p1 1 c1) := fun W g => cell_grew (by rwa [Nat.zero_add] at q1) g
    have e23 : ∀ W, Grew Ud W → W.cell? ⟨Wb.heap.size, 23, none⟩ = some (.int .i64 5) := fun W g => cell_grew (q2 2 _ rfl) g
    have e28 : ∀ W, Grew Ud W → W.cell? ⟨Wb.heap.size, 28, none⟩ = some (.int .i64 (-60)) := fun W g => cell_grew (q3 3 _ rfl) g
    have e29 : ∀ W, Grew Ud W → W.cell? ⟨Wb.heap.size, 29, none⟩ = some (.string S) := fun W g => cell_grew (by rwa [Nat.zero_add] at q4) g
    have cA2 := fun W (g : Grew Ud W) => cA W (gwd.trans' g)
    clear cA rE q1 q2 q3 q4 rUc bUd sUd
    go_wp2_with (first | (go_at_call 7; with_reducible refine (cA2 _ (by assumption)).mono ?_; rintro e1 W1 ⟨rfl, g1⟩; replace g1 := Grew.trans' (a := Ud) (by assumption) g1) | (refine wpList_load_g (by rfl) 29 (.tmp 13) rfl Wc.heap.size 0 rfl RZ _ (rZ _ (by assumption)) Tryd.underlying29 rfl nf2 ?_) | (go_at_call 12; with_reducible refine (cQ _).mono ?_; rintro e1 W1 ⟨rfl, g1⟩; replace g1 := Grew.trans' (a := Ud) (by assumption) g1))
    go_ret
    exact ⟨rfl, gwd.trans' (by assumption)⟩


end Go.Proofs.YtemojhcbhljemaaDoor
