/- commit.Print: a record as bytes. Conditions: the library's tables are laid; at most 2^30 parents, names and text of at most 2^30 bytes. -/
import Derived.Test.YtemojhcbhljemaaGreatDoorCom2
import Derived.Test.YtemojhcbhljemaaGreatDoorIdent8
import Derived.Test.YtemojhcbhljemaaGreatDoorHexa1
import Derived.Test.YtemojhcbhljemaaGreatDoorBuilder
namespace Go.Proofs.YtemojhcbhljemaaGreatDoor
set_option linter.unusedVariables false
set_option linter.unusedSimpArgs false
open Go.RowKit

theorem run_slice_idR (b o : Nat) (w : World) : (Instr.sliceAt 23 (.pointer (some ⟨b, o, none⟩)) none none none).run Tryz.prog w = .ok (.slice (some ⟨b, o, none⟩) 20 20) w := by
  simp [Instr.sliceAt, go_sem]

def treeT : List UInt8 := [116, 114, 101, 101, 32]
def parT : List UInt8 := [112, 97, 114, 101, 110, 116, 32]
def auT : List UInt8 := [97, 117, 116, 104, 111, 114, 32]
def coT : List UInt8 := [10, 99, 111, 109, 109, 105, 116, 116, 101, 114, 32]
def parL (l : List (List UInt8)) : List UInt8 := l.flatMap fun x => parT ++ Pure.hex x ++ [10]
theorem parL_snoc (l : List (List UInt8)) (x : List UInt8) : parL (l ++ [x]) = parL l ++ (parT ++ Pure.hex x ++ [10]) := by unfold parL; rw [List.flatMap_append]; simp
theorem hex_len (l : List UInt8) : (Pure.hex l).length = 2 * l.length := Pure.hex_length l
theorem parL_len : ∀ (l : List (List UInt8)), (∀ x ∈ l, x.length = 20) → (parL l).length = 48 * l.length
  | [], _ => rfl
  | x :: r, h => by
    have ih := parL_len r (fun y hy => h y (by simp [hy]))
    have h1 := hex_len x
    rw [h x (by simp)] at h1
    unfold parL at ih ⊢
    rw [List.flatMap_cons, List.length_append, ih]
    simp only [List.length_append, h1, List.length_cons, List.length_nil, parT]
    omega
/-- A record's bytes, if it is right. -/
def printR (r : Rec) : List UInt8 := treeT ++ Pure.hex r.tree ++ [10] ++ parL r.par ++ (auT ++ printN r.au ++ coT ++ printN r.co ++ [10, 10] ++ r.text.data.toList)
def PrintPostR (r : Rec) (w : World) (e : Ending) (w' : World) : Prop := Grew w w' ∧
  ((rightR r = false ∧ e = .returned (.tuple #[.slice none 0 0, .int .i64 4])) ∨ (rightR r = true ∧ ∃ v, e = .returned (.tuple #[v, .int .i64 0]) ∧ OwnB w' w.heap.size v (printR r)))
theorem infoRec (v : Value) (r : Rec) (h : r.tree.length = 20) : (Tryz.prog.info? 28).map (·.size) = some (r.cells v).length := by
  rw [r.len v h]; kernel_rfl
theorem rightR_parts {r : Rec} (h : rightR r = true) : r.par.length ≤ 16 ∧ rightN r.au = true ∧ rightN r.co = true ∧ r.text.size ≤ 32768 := by
  unfold rightR rightRest at h
  simp only [Bool.and_eq_true, decide_eq_true_eq] at h
  exact ⟨h.2.1.1.1.1.2, h.2.1.1.1.2, h.2.1.1.2, h.2.2⟩
theorem printN_len {i : Idn} (h : rightN i = true) : (printN i).length ≤ 440 := by
  obtain ⟨p1, p2, p3, p4, p5⟩ := right_parts h
  have l1 := called_len p1
  have l2 := called_len p2
  have l3 := itoa_short p3 p4
  have l4 := Pure.zoneS_len i.zone
  unfold printN Pure.printL
  have l5 : (if i.name.data.toList = [] then [] else i.name.data.toList ++ [32]).length ≤ 201 := by
    split
    · simp
    · rw [List.length_append]; simp only [List.length_cons, List.length_nil]; omega
  generalize (if i.name.data.toList = [] then [] else i.name.data.toList ++ [32]) = I at *
  simp only [List.length_append, List.length_cons, l4]
  omega

theorem nameShort {i : Idn} (h : rightN i = true) : i.name.size ≤ 1099511627776 ∧ i.email.size ≤ 1099511627776 := by
  obtain ⟨p1, p2, -⟩ := right_parts h
  have l1 := called_len p1
  have l2 := called_len p2
  rw [Lib.size_eq, Lib.size_eq]
  omega

set_option maxRecDepth 100000 in
set_option maxHeartbeats 8000000 in
theorem commit_Print (p : Option Addr) (cap : Nat) (r : Rec) (w : World) (hf : FineR r) (hc : r.par.length ≤ cap) (hr : RdG kId w p r.par) (hu : U8Ok w) (hm : MaxOk w) (ht : TabOk w) :
    Calls Tryz.prog 8 #[.agg (r.cells (.slice p r.par.length cap)).toArray] w (PrintPostR r w) := by
  obtain ⟨V, hV, gV, gVV, rV⟩ := boxedR w (.slice p r.par.length cap) r
  have cR : ∀ W, Grew V W → Calls Tryz.prog 12 #[.agg (r.cells (.slice p r.par.length cap)).toArray] W fun e w' => e = .returned (.bool (rightR r)) ∧ Grew W w' := fun W g => commit_Right p cap r W hf hc (hr.grew (gV.trans' g)) (u8_grew hu (gV.trans' g)) (hm.grew (gV.trans' g))
  obtain ⟨h20, hp20, hpl, ha1, ha2, hc1, hc2, htx⟩ := hf
  have nfR := infoRec (.slice p r.par.length cap) r h20
  obtain ⟨R, hR⟩ : ∃ R, rightR r = R := ⟨_, rfl⟩
  unfold PrintPostR
  simp only [hR] at cR ⊢
  cases R with
  | false =>
    have rV0 := rV V gVV
    generalize r.cells (.slice p r.par.length cap) = RC at *
    go_enter Tryz.func8, Tryz.ntmps8
    go_wp2_with (first | (refine wpList_load_mid rfl 28 _ rfl _ _ rfl RC _ rV0 Tryz.underlying28 rfl nfR ?_) | (go_at_call 12; with_reducible refine (cR _ (by assumption)).mono ?_; rintro e1 W1 ⟨rfl, g1⟩; replace g1 := Grew.trans' (a := V) (by assumption) g1))
    go_ret2
    exact ⟨gV.trans' (by assumption), .inl ⟨by simp, rfl⟩⟩
  | true =>
    obtain ⟨hp16, hra, hrc, hts⟩ := rightR_parts hR
    have rT : ∀ W, Grew V W → W.rangeAt w.heap.size 0 (Lib.byteCells r.tree) := fun W g => (rec_range (rV W g) h20).1
    have rP : ∀ W, Grew V W → W.cell? ⟨w.heap.size, 20, none⟩ = some (.slice p r.par.length cap) := fun W g => by have := (rec_range (rV W g) h20).2.1; rwa [Nat.zero_add] at this
    have rA : ∀ W, Grew V W → W.rangeAt w.heap.size 21 r.au.cells := fun W g => by have := (rec_range (rV W g) h20).2.2.1; rwa [Nat.zero_add] at this
    have rC : ∀ W, Grew V W → W.rangeAt w.heap.size 25 r.co.cells := fun W g => by have := (rec_range (rV W g) h20).2.2.2.1; rwa [Nat.zero_add] at this
    have rX : ∀ W, Grew V W → W.cell? ⟨w.heap.size, 29, none⟩ = some (.string r.text) := fun W g => by have := (rec_range (rV W g) h20).2.2.2.2; rwa [Nat.zero_add] at this
    have kr := run_slice_idR
    have hl40 := hex_len r.tree
    rw [h20] at hl40
    have cH := fun W (g : Grew V W) => hexa_Hex (some ⟨w.heap.size, 0, none⟩) r.tree 20 W (by omega) (rd_range (rT W g))
    rw [h20] at cH
    obtain ⟨H, hH⟩ : ∃ H : ByteArray, (⟨(Pure.hex r.tree).toArray⟩ : ByteArray) = H := ⟨_, rfl⟩
    simp only [hH] at cH
    have hHl : H.data.toList = Pure.hex r.tree := by rw [← hH]
    have hHs : H.size = 40 := by rw [Lib.size_eq, hHl, hl40]
    obtain ⟨T1, h1⟩ : ∃ T : ByteArray, (⟨#[116, 114, 101, 101, 32]⟩ : ByteArray) ++ H = T := ⟨_, rfl⟩
    obtain ⟨T2, h2⟩ : ∃ T : ByteArray, T1 ++ (⟨#[10]⟩ : ByteArray) = T := ⟨_, rfl⟩
    have s1 : T1.size = 45 := by rw [← h1, ByteArray.size_append, hHs]; rfl
    have s2 : T2.size = 46 := by rw [← h2, ByteArray.size_append, s1]; rfl
    have n1 : ¬ 9223372036854775807 < 5 + H.size := by omega
    have n2 : ¬ 9223372036854775807 < T1.size + 1 := by omega
    have hT2 : T2.data.toList = treeT ++ Pure.hex r.tree ++ [10] := by rw [← h2, append_list, ← h1, append_list, hHl]; rfl
    have rV0 := rV V gVV
    have HR := Lib.hid hr
    have HP20 := Lib.hid hp20
    have HT2 := Lib.hid hT2
    have HS2 := Lib.hid s2
    obtain ⟨n, hn⟩ : ∃ n, r.par.length = n := ⟨_, rfl⟩
    have HN := Lib.hid hn
    have HRR := Lib.hid hR
    rw [hn] at rP hpl hc hp16 rV0 nfR cR hV ⊢
    clear hr hp20 hT2 s1 s2 hH hHl hHs hl40 hR hn
    generalize r.cells (.slice p n cap) = RC at *
    go_enter Tryz.func8, Tryz.ntmps8
    go_wp2_with (first | (refine wpList_load_mid rfl 28 _ rfl _ _ rfl RC _ rV0 Tryz.underlying28 rfl nfR ?_) | (go_at_call 12; with_reducible refine (cR _ (by assumption)).mono ?_))
    rintro e1 W1 ⟨rfl, g1⟩
    have gV1 : Grew V W1 := Grew.trans' (by assumption) g1
    have hI0 := Lib.IsBuilderF.of (Lib.fresh_isBuilder tB tU8 W1)
    have gW2 := (Below.refl _ _ : Grew W1 W1).alloc (Nat.le_refl _) (.cells #[.pointer none, .slice none 0 0] tB)
    obtain ⟨W2, hW2⟩ : ∃ W2, W1.alloc (.cells #[.pointer none, .slice none 0 0] tB) = W2 := ⟨_, rfl⟩
    rw [hW2] at hI0 gW2
    have hbl := builder_ltI hI0
    have gV2 : Grew V W2 := gV1.trans' gW2
    have hVb := gV1.size
    clear cR rV0
    obtain ⟨b, hb⟩ : ∃ b, W1.heap.size = b := ⟨_, rfl⟩
    rw [hb] at hI0 hbl hVb
    go_wp2_with fail
    go_fit (cH _ gV2)
    rintro e3 W3 ⟨rfl, g3⟩
    have gV3 := gV2.trans' g3
    have hI3 := builder_grewI hI0 g3
    go_wp2_with (go_at_call 18; with_reducible refine (writeString b b _ T2 _ hI3 (by rw [HS2.out]; simp) (by have := g3.size; omega)).mono ?_)
    rintro e4 W4 ⟨rfl, hI4, g4, -⟩
    rw [List.nil_append, strCells_eq, HT2.out] at hI4
    have gV4 : Grew V W4 := gV3.trans (g4.mono hVb)
    have h00 : treeT ++ Pure.hex r.tree ++ [10] = treeT ++ Pure.hex r.tree ++ [10] ++ parL (r.par.take 0) := by simp [parL]
    rw [h00] at hI4
    have hhl := hex_len r.tree
    rw [h20] at hhl
    have hlk : ∀ k, (treeT ++ Pure.hex r.tree ++ [10] ++ parL (r.par.take k)).length ≤ 46 + 48 * k := by
      intro k
      have h1 := parL_len (r.par.take k) (fun y hy => HP20.out y (List.mem_of_mem_take hy))
      rw [List.length_append, h1, List.length_take]
      simp only [List.length_append, hhl, List.length_cons, List.length_nil, treeT]
      omega
    obtain ⟨P0, hP0⟩ : ∃ P0, treeT ++ Pure.hex r.tree ++ [10] = P0 := ⟨_, rfl⟩
    rw [hP0] at hI4
    simp only [hP0] at hlk
    have HP0 := Lib.hid hP0
    have HLK := Lib.hid hlk
    have HB := Lib.hid hb
    clear hI0 hI3 h00 hhl hP0 hlk cH h1 h2 n1 n2 g1 g3 hW2 gW2
    go_wp2_with fail
    try rw [hb]
    clear hb
    go_loopw [19] (fun i wr => ∃ k : Nat, k ≤ n ∧ i = .int .i64 k ∧ Grew V wr ∧ Lib.IsBuilderF tB tU8 b b (Lib.byteCells (P0 ++ parL (r.par.take k))) wr) (fun i _ => n - (intOf i).toNat)
    case atStart => exact ⟨0, Nat.zero_le _, rfl, gV4, hI4⟩
    case round =>
      obtain ⟨k, hk, rfl, hgV, hI⟩ := hrel
      clear hI4 gV4 g4
      have hlb := builder_ltI hI
      by_cases hlt : k < n
      · obtain ⟨x, hx⟩ : ∃ x, r.par[k]? = some x := ⟨_, List.getElem?_eq_getElem (by rw [HN.out]; exact hlt)⟩
        have hxi := HP20.out x (List.mem_of_getElem? hx)
        obtain ⟨bb, oo, rfl, hcx⟩ := HR.out.at (by rw [HN.out]; omega)
        have rx : wr.rangeAt bb (oo + k * 20) (Lib.byteCells x) := range_grew (range_grew (hcx k x hx) gV) hgV
        have nfx := infoId' hxi
        have one1 := one_bytes' x
        have h22 : (Lib.byteCells x).length = 20 := by rw [Lib.byteCells_length]; exact hxi
        have hnx : P0 ++ parL (r.par.take (k + 1)) = P0 ++ parL (r.par.take k) ++ (parT ++ Pure.hex x ++ [10]) := by rw [List.take_add_one, hx, Option.toList_some, parL_snoc]; simp only [List.append_assoc]
        have hl40 := hex_len x
        rw [hxi] at hl40
        obtain ⟨H, hH⟩ : ∃ H : ByteArray, (⟨(Pure.hex x).toArray⟩ : ByteArray) = H := ⟨_, rfl⟩
        have hHl : H.data.toList = Pure.hex x := by rw [← hH]
        have hHs : H.size = 40 := by rw [Lib.size_eq, hHl, hl40]
        obtain ⟨T1, h1⟩ : ∃ T : ByteArray, (⟨#[112, 97, 114, 101, 110, 116, 32]⟩ : ByteArray) ++ H = T := ⟨_, rfl⟩
        obtain ⟨T2, h2⟩ : ∃ T : ByteArray, T1 ++ (⟨#[10]⟩ : ByteArray) = T := ⟨_, rfl⟩
        have s1 : T1.size = 47 := by rw [← h1, ByteArray.size_append, hHs]; rfl
        have s2 : T2.size = 48 := by rw [← h2, ByteArray.size_append, s1]; rfl
        have n1 : ¬ 9223372036854775807 < 7 + H.size := by omega
        have n2 : ¬ 9223372036854775807 < T1.size + 1 := by omega
        have hT2 : T2.data.toList = parT ++ Pure.hex x ++ [10] := by rw [← h2, append_list, ← h1, append_list, hHl]; rfl
        have HT2 := Lib.hid hT2
        have HS2 := Lib.hid s2
        have HNX := Lib.hid hnx
        have HH := Lib.hid hH
        clear hcx hx hnx hT2 s1 s2 hH hHl hHs hl40
        go_wp2_with (first | (refine wpList_load_mid rfl 23 _ rfl bb _ rfl (Lib.byteCells x) _ rx Tryz.underlying23 rfl nfx ?_) | (refine wpList_store_new rfl 23 _ _ rfl wr _ rfl (Lib.byteCells x) rfl rfl h22.symm nfx one1 ?_))
        intro U gU gUU rU fU sU
        have cH := hexa_Hex (some ⟨wr.heap.size, 0, none⟩) x 20 U (by omega) (rd_range (rU U gUU))
        rw [hxi, HH.out] at cH
        have hIU := builder_grewI hI gU
        have gVU := hgV.trans' gU
        clear rx one1 h22 hI
        go_wp2_with fail
        go_fit cH
        rintro e5 W5 ⟨rfl, g5⟩
        have gV5 := gVU.trans' g5
        have hI5 := builder_grewI hIU g5
        have hb5 := builder_ltI hI5
        clear cH hIU rU
        go_wp2_with (go_at_call 18; with_reducible refine (writeString b b _ T2 _ hI5 (by rw [HS2.out, Lib.byteCells_length]; have := HLK.out k; omega) (by omega)).mono ?_)
        rintro e6 W6 ⟨rfl, hI6, g6, -⟩
        rw [strCells_eq, HT2.out, ← Lib.byteCells_append, ← HNX.out] at hI6
        have gV6 : Grew V W6 := gV5.trans (g6.mono hVb)
        go_wp2
        go_roundw
        case rel => exact ⟨k + 1, by omega, by go_num, gV6, hI6⟩
        case measure => simp [intOf]; omega
      · obtain rfl : k = n := by omega
        rw [← HN.out, List.take_length] at hI
        have hL := HLK.out k
        rw [← HN.out, List.take_length] at hL
        have kc := run_conv_bytes
        have eA : printB r.au = ⟨(printN r.au).toArray⟩ := if_pos hra
        have eC : printB r.co = ⟨(printN r.co).toArray⟩ := if_pos hrc
        have lA := printN_len hra
        have lC := printN_len hrc
        have cPA : ∀ W, Grew V W → Calls Tryz.prog 20 #[.agg #[.string r.au.name, .string r.au.email, .int .i64 r.au.when, .int .i64 r.au.zone]] W fun e w' => e = .returned (.string (printB r.au)) ∧ Grew W w' := fun W g => ident_Print r.au W (nameShort hra).1 (nameShort hra).2 (u8_grew hu (gV.trans' g)) (ht.grew (gV.trans' g))
        have cPC : ∀ W, Grew V W → Calls Tryz.prog 20 #[.agg #[.string r.co.name, .string r.co.email, .int .i64 r.co.when, .int .i64 r.co.zone]] W fun e w' => e = .returned (.string (printB r.co)) ∧ Grew W w' := fun W g => ident_Print r.co W (nameShort hrc).1 (nameShort hrc).2 (u8_grew hu (gV.trans' g)) (ht.grew (gV.trans' g))
        rw [eA] at cPA
        rw [eC] at cPC
        obtain ⟨PA, hPA⟩ : ∃ P : ByteArray, (⟨(printN r.au).toArray⟩ : ByteArray) = P := ⟨_, rfl⟩
        obtain ⟨PC, hPC⟩ : ∃ P : ByteArray, (⟨(printN r.co).toArray⟩ : ByteArray) = P := ⟨_, rfl⟩
        simp only [hPA] at cPA
        simp only [hPC] at cPC
        have hPAl : PA.data.toList = printN r.au := by rw [← hPA]
        have hPCl : PC.data.toList = printN r.co := by rw [← hPC]
        have zA : PA.size ≤ 440 := by rw [Lib.size_eq, hPAl]; exact lA
        have zC : PC.size ≤ 440 := by rw [Lib.size_eq, hPCl]; exact lC
        obtain ⟨T1, h1⟩ : ∃ T : ByteArray, (⟨#[97, 117, 116, 104, 111, 114, 32]⟩ : ByteArray) ++ PA = T := ⟨_, rfl⟩
        obtain ⟨T2, h2⟩ : ∃ T : ByteArray, T1 ++ (⟨#[10, 99, 111, 109, 109, 105, 116, 116, 101, 114, 32]⟩ : ByteArray) = T := ⟨_, rfl⟩
        obtain ⟨T3, h3⟩ : ∃ T : ByteArray, T2 ++ PC = T := ⟨_, rfl⟩
        obtain ⟨T4, h4⟩ : ∃ T : ByteArray, T3 ++ (⟨#[10, 10]⟩ : ByteArray) = T := ⟨_, rfl⟩
        obtain ⟨T5, h5⟩ : ∃ T : ByteArray, T4 ++ r.text = T := ⟨_, rfl⟩
        have s1 : T1.size = 7 + PA.size := by rw [← h1, ByteArray.size_append]; rfl
        have s2 : T2.size = T1.size + 11 := by rw [← h2, ByteArray.size_append]; rfl
        have s3 : T3.size = T2.size + PC.size := by rw [← h3, ByteArray.size_append]
        have s4 : T4.size = T3.size + 2 := by rw [← h4, ByteArray.size_append]; rfl
        have s5 : T5.size = T4.size + r.text.size := by rw [← h5, ByteArray.size_append]
        have n1 : ¬ 9223372036854775807 < 7 + PA.size := by omega
        have n2 : ¬ 9223372036854775807 < T1.size + 11 := by omega
        have n3 : ¬ 9223372036854775807 < T2.size + PC.size := by omega
        have n4 : ¬ 9223372036854775807 < T3.size + 2 := by omega
        have n5 : ¬ 9223372036854775807 < T4.size + r.text.size := by omega
        have z5 : T5.size ≤ 34000 := by omega
        have hT5 : T5.data.toList = auT ++ printN r.au ++ coT ++ printN r.co ++ [10, 10] ++ r.text.data.toList := by
          rw [← h5, ← h4, ← h3, ← h2, ← h1]
          simp only [append_list, hPAl, hPCl]
          rfl
        have hfin : P0 ++ parL r.par ++ T5.data.toList = printR r := by rw [hT5, ← HP0.out]; rfl
        have hId : Lib.IsBuilderF tB tU8 b b (Lib.byteCells (P0 ++ parL r.par)) wr.drew := builder_grewI hI (Below.drew (Below.refl _ _))
        have gVd : Grew V wr.drew := hgV.drew
        have a0 : ∀ W, Grew V W → W.cell? ⟨w.heap.size, 21, none⟩ = some (.string r.au.name) := fun W g => rA W g 0 _ rfl
        have a1 : ∀ W, Grew V W → W.cell? ⟨w.heap.size, 22, none⟩ = some (.string r.au.email) := fun W g => rA W g 1 _ rfl
        have a2 : ∀ W, Grew V W → W.cell? ⟨w.heap.size, 23, none⟩ = some (.int .i64 r.au.when) := fun W g => rA W g 2 _ rfl
        have a3 : ∀ W, Grew V W → W.cell? ⟨w.heap.size, 24, none⟩ = some (.int .i64 r.au.zone) := fun W g => rA W g 3 _ rfl
        have b0 : ∀ W, Grew V W → W.cell? ⟨w.heap.size, 25, none⟩ = some (.string r.co.name) := fun W g => rC W g 0 _ rfl
        have b1 : ∀ W, Grew V W → W.cell? ⟨w.heap.size, 26, none⟩ = some (.string r.co.email) := fun W g => rC W g 1 _ rfl
        have b2 : ∀ W, Grew V W → W.cell? ⟨w.heap.size, 27, none⟩ = some (.int .i64 r.co.when) := fun W g => rC W g 2 _ rfl
        have b3 : ∀ W, Grew V W → W.cell? ⟨w.heap.size, 28, none⟩ = some (.int .i64 r.co.zone) := fun W g => rC W g 3 _ rfl
        have rr1 : ∀ W, Grew V W → W.rangeAt w.heap.size 21 [.string r.au.name, .string r.au.email, .int .i64 r.au.when, .int .i64 r.au.zone] := rA
        have rr2 : ∀ W, Grew V W → W.rangeAt w.heap.size 25 [.string r.co.name, .string r.co.email, .int .i64 r.co.when, .int .i64 r.co.zone] := rC
        have hpr : (printR r).length ≤ 9223372036854775807 := by
          have h6 := Lib.size_eq T5
          rw [← hfin, List.length_append]
          have := HN.out
          omega
        have HFIN := Lib.hid hfin
        have hbsz := builder_ltI hId
        clear hfin hT5 s1 s2 s3 s4 s5 hPA hPC hPAl hPCl eA eC lA lC hI rA rC rT rP rV
        go_wp2_with fail
        refine wp_region_held_drew (S := fun w' => Grew V w') (by kernel_rfl) (by first | assumption | exact Below.drew (by assumption)) (fun hHeld => ?_)
        first
          | (refine wpAnyH_take (i := 0) (v := ?_) rfl (by kernel_rfl) (by kernel_rfl) (by kernel_rfl) (fun _ _ _ h => h) (Or.inl ⟨by rfl, ?_⟩) (by assumption) ?_; rotate_left 1; focus (intro w hSw; (try dsimp only at hSw); go_simp; (try with_reducible rfl)))
          | fail
        try simp only [Act.put, List.getElem_toArray, List.getElem_cons_succ, List.getElem_cons_zero, List.setIfInBounds_toArray, List.set_cons_zero, List.set_cons_succ]
        first
          | (refine' wpAnyH_take (i := 1) (v := _) rfl (by kernel_rfl) (by kernel_rfl) (by kernel_rfl) (fun _ _ _ h => h) (yieldsIf_load_mid (by rfl) _ _ rfl _ _ rfl _ _ (fun w hSw => (by (first | exact rr1 _ hSw | exact rr2 _ hSw))) Tryz.underlying26 rfl (by first | assumption | kernel_rfl)) (by assumption) ?_)
          | fail
        try simp only [Act.put, List.getElem_toArray, List.getElem_cons_succ, List.getElem_cons_zero, List.setIfInBounds_toArray, List.set_cons_zero, List.set_cons_succ]
        first
          | (refine wpAnyH_take (i := 5) (v := ?_) rfl (by kernel_rfl) (by kernel_rfl) (by kernel_rfl) (fun _ _ _ h => h) (Or.inl ⟨by rfl, ?_⟩) (by assumption) ?_; rotate_left 1; focus (intro w hSw; (try dsimp only at hSw); go_simp; (try with_reducible rfl)))
          | fail
        try simp only [Act.put, List.getElem_toArray, List.getElem_cons_succ, List.getElem_cons_zero, List.setIfInBounds_toArray, List.set_cons_zero, List.set_cons_succ]
        first
          | (refine' wpAnyH_take (i := 6) (v := _) rfl (by kernel_rfl) (by kernel_rfl) (by kernel_rfl) (fun _ _ _ h => h) (yieldsIf_load_mid (by rfl) _ _ rfl _ _ rfl _ _ (fun w hSw => (by (first | exact rr1 _ hSw | exact rr2 _ hSw))) Tryz.underlying26 rfl (by first | assumption | kernel_rfl)) (by assumption) ?_)
          | fail
        try simp only [Act.put, List.getElem_toArray, List.getElem_cons_succ, List.getElem_cons_zero, List.setIfInBounds_toArray, List.set_cons_zero, List.set_cons_succ]
        first
          | (refine wpAnyH_take (i := 10) (v := ?_) rfl (by kernel_rfl) (by kernel_rfl) (by kernel_rfl) (fun _ _ _ h => h) (Or.inl ⟨by rfl, ?_⟩) (by assumption) ?_; rotate_left 1; focus (intro w hSw; (try dsimp only at hSw); go_simp; (try with_reducible rfl)))
          | fail
        try simp only [Act.put, List.getElem_toArray, List.getElem_cons_succ, List.getElem_cons_zero, List.setIfInBounds_toArray, List.set_cons_zero, List.set_cons_succ]
        first
          | (refine wpAnyH_take (i := 11) (v := ?_) rfl (by kernel_rfl) (by kernel_rfl) (by kernel_rfl) (fun _ _ _ h => h) (Or.inl ⟨by rfl, ?_⟩) (by assumption) ?_; rotate_left 1; focus (intro w hSw; (try dsimp only at hSw); go_simp; (try with_reducible rfl)))
          | fail
        try simp only [Act.put, List.getElem_toArray, List.getElem_cons_succ, List.getElem_cons_zero, List.setIfInBounds_toArray, List.set_cons_zero, List.set_cons_succ]
        refine wpAnyH_ready (rs := [2]) (by kernel_rfl) (by simp) ?_
        refine AllReadyH.cons rfl (fun K hK => ?_) AllReadyH.nil
        go_simp
        (go_at_call 20; with_reducible refine (cPA _ gVd).mono ?_; rintro e7 W7 ⟨rfl, g7⟩; have hI7 := builder_grewI hId g7; have gV7 : Grew V W7 := Grew.trans' gVd g7)
        go_wp2_with fail
        refine hK.out _ _ (by first | assumption | exact Below.drew (by assumption)) (fun hHeld => ?_)
        clear hK K
        try simp only [Act.put, List.getElem_toArray, List.getElem_cons_succ, List.getElem_cons_zero, List.setIfInBounds_toArray, List.set_cons_zero, List.set_cons_succ]
        first
          | (refine wpAnyH_take (i := 3) (v := ?_) rfl (by kernel_rfl) (by kernel_rfl) (by kernel_rfl) (fun _ _ _ h => h) (Or.inl ⟨by rfl, ?_⟩) (by assumption) ?_; rotate_left 1; focus (intro w hSw; (try dsimp only at hSw); go_simp; (try with_reducible rfl)))
          | fail
        try simp only [Act.put, List.getElem_toArray, List.getElem_cons_succ, List.getElem_cons_zero, List.setIfInBounds_toArray, List.set_cons_zero, List.set_cons_succ]
        first
          | (refine wpAnyH_take (i := 4) (v := ?_) rfl (by kernel_rfl) (by kernel_rfl) (by kernel_rfl) (fun _ _ _ h => h) (Or.inl ⟨by rfl, ?_⟩) (by assumption) ?_; rotate_left 1; focus (intro w hSw; (try dsimp only at hSw); go_simp; (try with_reducible rfl)))
          | fail
        try simp only [Act.put, List.getElem_toArray, List.getElem_cons_succ, List.getElem_cons_zero, List.setIfInBounds_toArray, List.set_cons_zero, List.set_cons_succ]
        refine wpAnyH_ready (rs := [7]) (by kernel_rfl) (by simp) ?_
        refine AllReadyH.cons rfl (fun K hK => ?_) AllReadyH.nil
        go_simp
        (go_at_call 20; with_reducible refine (cPC _ gV7).mono ?_; rintro e8 W8 ⟨rfl, g8⟩; have hI8 := builder_grewI hI7 g8; have gV8 : Grew V W8 := Grew.trans' gV7 g8)
        go_wp2_with fail
        refine hK.out _ _ (by first | assumption | exact Below.drew (by assumption)) (fun hHeld => ?_)
        clear hK K
        try simp only [Act.put, List.getElem_toArray, List.getElem_cons_succ, List.getElem_cons_zero, List.setIfInBounds_toArray, List.set_cons_zero, List.set_cons_succ]
        first
          | (refine wpAnyH_take (i := 8) (v := ?_) rfl (by kernel_rfl) (by kernel_rfl) (by kernel_rfl) (fun _ _ _ h => h) (Or.inl ⟨by rfl, ?_⟩) (by assumption) ?_; rotate_left 1; focus (intro w hSw; (try dsimp only at hSw); go_simp; (try with_reducible rfl)))
          | fail
        try simp only [Act.put, List.getElem_toArray, List.getElem_cons_succ, List.getElem_cons_zero, List.setIfInBounds_toArray, List.set_cons_zero, List.set_cons_succ]
        first
          | (refine wpAnyH_take (i := 9) (v := ?_) rfl (by kernel_rfl) (by kernel_rfl) (by kernel_rfl) (fun _ _ _ h => h) (Or.inl ⟨by rfl, ?_⟩) (by assumption) ?_; rotate_left 1; focus (intro w hSw; (try dsimp only at hSw); go_simp; (try with_reducible rfl)))
          | fail
        try simp only [Act.put, List.getElem_toArray, List.getElem_cons_succ, List.getElem_cons_zero, List.setIfInBounds_toArray, List.set_cons_zero, List.set_cons_succ]
        first
          | (refine wpAnyH_take (i := 12) (v := ?_) rfl (by kernel_rfl) (by kernel_rfl) (by kernel_rfl) (fun _ _ _ h => h) (Or.inl ⟨by rfl, ?_⟩) (by assumption) ?_; rotate_left 1; focus (intro w hSw; (try dsimp only at hSw); go_simp; (try with_reducible rfl)))
          | fail
        try simp only [Act.put, List.getElem_toArray, List.getElem_cons_succ, List.getElem_cons_zero, List.setIfInBounds_toArray, List.set_cons_zero, List.set_cons_succ]
        refine wpAnyH_ready (rs := [13]) (by kernel_rfl) (by simp) ?_
        refine AllReadyH.cons rfl (fun K hK => ?_) AllReadyH.nil
        go_simp
        (go_at_call 18; with_reducible refine (writeString b b _ T5 _ hI8 (by rw [Lib.byteCells_length]; have := HN.out; omega) (by have := builder_ltI hI8; omega)).mono ?_; rintro e9 W9 ⟨rfl, hI9, g9, -⟩; have gV9 : Grew V W9 := gV8.trans (g9.mono hVb))
        go_wp2_with fail
        refine hK.out _ _ (by first | assumption | exact Below.drew (by assumption)) (fun hHeld => ?_)
        clear hK K
        try simp only [Act.put, List.getElem_toArray, List.getElem_cons_succ, List.getElem_cons_zero, List.setIfInBounds_toArray, List.set_cons_zero, List.set_cons_succ]
        refine wpAnyH_done (by kernel_rfl) ?_ _
        rw [strCells_eq, ← Lib.byteCells_append, HFIN.out] at hI9
        go_wp2_with (go_at_call 21; with_reducible refine (Tryz.Builder_String_any_k b b _ _ hI9 (by have := builder_ltI hI9; omega)).mono ?_)
        rintro e10 W10 ⟨rfl, -, g10, -⟩
        have gV10 : Grew V W10 := gV9.trans (g10.mono hVb)
        go_wp2
        go_ret2
        refine ⟨gV.trans' (gV10.trans' (bytesWorld_grew _ _)), .inr ⟨trivial, _, rfl, ?_⟩⟩
        exact OwnB.conv (base := w.heap.size) (w := W10) ⟨(printR r).toArray⟩ (gV.trans' gV10).size (by rw [Lib.size_eq]; exact hpr)

end Go.Proofs.YtemojhcbhljemaaGreatDoor
