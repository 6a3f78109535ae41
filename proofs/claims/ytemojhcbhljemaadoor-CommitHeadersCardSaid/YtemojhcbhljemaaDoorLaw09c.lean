/- The law CommitBack of layer 9, walked. Conditions: the library's tables are laid. -/
import Derived.Test.YtemojhcbhljemaaDoorCom7
import Derived.Test.YtemojhcbhljemaaDoorCom8
import Derived.Test.YtemojhcbhljemaaDoorCom9
import Derived.Test.YtemojhcbhljemaaDoorHelpBytes
import Derived.Test.YtemojhcbhljemaaDoorLaw09b
namespace Go.Proofs.YtemojhcbhljemaaDoor
set_option linter.unusedVariables false
set_option linter.unusedSimpArgs false
open Go.RowKit

theorem parL_inj (r s : Rec) (hr : rightN r.au = true) (hs : rightN s.au = true) : ∀ l m : List (List UInt8), parL l ++ tailR r = parL m ++ tailR s → l = m ∧ tailR r = tailR s
  | [], [], h => ⟨rfl, h⟩
  | [], y :: m, h => by
    have h1 := next_end hr
    rw [show tailR r = parL [] ++ tailR r from rfl, h, next_par] at h1
    cases h1
  | x :: l, [], h => by
    have h1 := next_end hs
    rw [show tailR s = parL [] ++ tailR s from rfl, ← h, next_par] at h1
    cases h1
  | x :: l, y :: m, h => by
    have h1 := next_par x l (tailR r)
    rw [h, next_par] at h1
    simp only [Option.some.injEq, Prod.mk.injEq] at h1
    have h2 : y = x := by have := congrArg Pure.unhex h1.1; rw [Pure.unhex_hex, Pure.unhex_hex] at this; exact Option.some.inj this
    obtain ⟨h3, h4⟩ := parL_inj r s hr hs l m h1.2.symm
    exact ⟨by rw [h2, h3], h4⟩
/-- Right records that are printed alike are alike. -/
theorem good_uniq {b : List UInt8} {r s : Rec} (hr : GoodR b r) (hs : GoodR b s) : r = s := by
  have h1 := next_tree r
  have h2 := next_tree s
  rw [hr.2.2.2] at h1
  rw [hs.2.2.2, h1] at h2
  simp only [Option.some.injEq, Prod.mk.injEq] at h2
  have ht : r.tree = s.tree := by have := congrArg Pure.unhex h2.1; rw [Pure.unhex_hex, Pure.unhex_hex] at this; exact Option.some.inj this
  have ha := (rightR_parts hr.2.2.1).2.1
  have hb := (rightR_parts hs.2.2.1).2.1
  obtain ⟨hp, hq⟩ := parL_inj r s ha hb _ _ h2.2
  have h3 := next_au ha
  have h4 := next_au hb
  rw [hq, h4] at h3
  simp only [Option.some.injEq, Prod.mk.injEq] at h3
  have hau := print_inj ha hb h3.1.symm
  have hc := (rightR_parts hr.2.2.1).2.2.1
  have hd := (rightR_parts hs.2.2.1).2.2.1
  have h5 := next_co hc
  have h6 := next_co hd
  rw [← h3.2, h6] at h5
  simp only [Option.some.injEq, Prod.mk.injEq] at h5
  have hco := print_inj hc hd h5.1.symm
  have htx : r.text = s.text := ba_ext (by have := h5.2; simp only [List.cons.injEq, true_and] at this; exact this.symm)
  obtain ⟨a1, a2, a3, a4, a5⟩ := r
  obtain ⟨b1, b2, b3, b4, b5⟩ := s
  simp only at ht hp hau hco htx
  subst ht hp hau hco htx
  rfl
theorem printR_short {r : Rec} (h20 : r.tree.length = 20) (hp : ∀ x ∈ r.par, x.length = 20) (h : rightR r = true) : (printR r).length ≤ 1073741824 := by
  obtain ⟨k1, k2, k3, k4⟩ := rightR_parts h
  have l1 := printN_len k2
  have l2 := printN_len k3
  have l3 := parL_len r.par hp
  have l4 := hex_len r.tree
  have l5 : r.text.data.toList.length = r.text.size := Array.length_toList
  unfold printR
  simp only [List.length_append, List.length_cons, List.length_nil, treeT, auT, coT, l3, l4, l5]
  omega
/-- What Parse leaves, in one. -/
theorem parse_ways {b : List UInt8} {w w' : World} {e : Ending} (h : ParsePostR b w e w') : Grew w w' ∧ ∃ (r : Rec) (p : Option Addr) (c : Nat) (k : Int), e = .returned (.tuple #[.agg (r.cells (.slice p r.par.length c)).toArray, .int .i64 k]) ∧ FineR r ∧ RdG kId w' p r.par ∧ r.par.length ≤ c ∧
    ((k = 0 ∧ GoodR b r) ∨ (k = 4 ∧ r = zeroR ∧ ∀ s, ¬ GoodR b s)) := by
  obtain ⟨g, ⟨r, v, hg, rfl, ho⟩ | ⟨hn, rfl⟩⟩ := h
  · obtain ⟨p, c, rfl, h1, h2, -, -⟩ := ho.val
    obtain ⟨k1, k2, k3, k4⟩ := rightR_parts hg.2.2.1
    have s1 := nameShort k2
    have s2 := nameShort k3
    exact ⟨g, r, p, c, 0, rfl, ⟨hg.1, hg.2.1, by omega, by omega, by omega, by omega, by omega, by omega⟩, h1, h2, .inl ⟨rfl, hg⟩⟩
  · exact ⟨g, zeroR, none, 0, 4, rfl, ⟨rfl, by simp, by decide, by decide, by decide, by decide, by decide, by decide⟩, .inl rfl, Nat.le_refl _, .inr ⟨rfl, rfl, hn⟩⟩

set_option maxRecDepth 100000 in
set_option maxHeartbeats 8000000 in
theorem law_CommitBack (a0 : Option Addr) (r : Rec) (cap0 : Nat) (a1 : Option Addr) (b : List UInt8) (cap1 : Nat) (w : World) (hr0 : RdG kId w a0 r.par) (hc0 : r.par.length ≤ cap0) (hl0 : r.par.length ≤ 9223372036854775807) (ht0 : r.tree.length = 20) (hp0 : ∀ x ∈ r.par, x.length = 20)
    (hx0 : r.au.name.size ≤ 9223372036854775807 ∧ r.au.email.size ≤ 9223372036854775807 ∧ r.co.name.size ≤ 9223372036854775807 ∧ r.co.email.size ≤ 9223372036854775807 ∧ r.text.size ≤ 9223372036854775807)
    (hr1 : Rd w a1 b) (hl1 : b.length ≤ 9223372036854775807) (hn1 : a1 = none → cap1 = 0) (hc1 : b.length ≤ cap1) (hu : U8Ok w) (hm : MaxOk w) (ht : TabOk w) (he : ErrOk w) :
    Calls Tryd.prog 4 #[.agg (r.cells (.slice a0 r.par.length cap0)).toArray, .slice a1 b.length cap1] w fun e w' => e = .returned (.bool true) ∧ Grew w w' := by
  obtain ⟨V, hV, gV, gVV, rV⟩ := boxedR w (.slice a0 r.par.length cap0) r
  have cF := few_run a0 cap0 r V ht0
  have cA := fun W (g : Grew V W) => awake09 W (u8_grew hu (gV.trans' g)) (hm.grew (gV.trans' g)) (ht.grew (gV.trans' g))
  have nfR := infoRec (.slice a0 r.par.length cap0) r ht0
  have cPr := fun (hf : FineR r) W (g : Grew V W) => commit_Print a0 cap0 r W hf hc0 (hr0.grew (gV.trans' g)) (u8_grew hu (gV.trans' g)) (hm.grew (gV.trans' g)) (ht.grew (gV.trans' g))
  have cRr := fun (hf : FineR r) W (g : Grew V W) => ref_RightR a0 cap0 r W hf hc0 (hr0.grew (gV.trans' g)) (u8_grew hu (gV.trans' g)) (hm.grew (gV.trans' g))
  have cRec := fun (q : Option Addr) (d : Nat) (hl : r.par.length ≤ 1073741824) W (g : Grew V W) (h : RdG kId W q r.par) => help_Record q a0 d cap0 r W ht0 hp0 hl h (hr0.grew (gV.trans' g))
  obtain ⟨RC, hRC⟩ : ∃ RC, r.cells (.slice a0 r.par.length cap0) = RC := ⟨_, rfl⟩
  simp only [hRC] at hV rV cF nfR cPr cRr cRec ⊢
  have rR0 := rV V gVV
  have HRC := Lib.hid hRC
  clear hRC
  go_enter Tryd.func4, Tryd.ntmps4
  go_wp2_with (first | (refine wpList_load_mid rfl 29 _ rfl w.heap.size 0 rfl RC _ rR0 Tryd.underlying29 rfl nfR ?_) | (go_at_call 9; with_reducible refine cF.mono ?_))
  rintro ea Wa ⟨⟨B, rfl, hB⟩, ga⟩
  cases B with
  | false =>
    clear hB
    go_wp2_with (first | (go_at_call 7; with_reducible refine (cA _ (by assumption)).mono ?_; rintro e1 W1 ⟨rfl, g1⟩; replace g1 := Grew.trans' (a := V) (by assumption) g1))
    go_ret
    exact ⟨rfl, gV.trans' (by assumption)⟩
  | true =>
    obtain ⟨h40, h2000⟩ := hB rfl
    clear hB
    by_cases hl : 4000 < b.length
    · have f1 : decide (4000 < (b.length : Int)) = true := decide_eq_true (by omega)
      go_wp2_with (first | (go_at_call 7; with_reducible refine (cA _ (by assumption)).mono ?_; rintro e1 W1 ⟨rfl, g1⟩; replace g1 := Grew.trans' (a := V) (by assumption) g1))
      go_ret
      exact ⟨rfl, gV.trans' (by assumption)⟩
    · have f1 : decide (4000 < (b.length : Int)) = false := decide_eq_false (by omega)
      have hfine : FineR r := ⟨ht0, hp0, by omega, hx0.1, hx0.2.1, hx0.2.2.1, hx0.2.2.2.1, by omega⟩
      have cP := cPr hfine Wa ga
      have cR := cRr hfine
      have cQ := cRec
      have cB := fun W (g : Grew V W) => commit_Parse a1 cap1 b W (hr1.below (gV.trans' g) (Nat.le_refl _)) (by omega) hc1 (hm.grew (gV.trans' g)) (u8_grew hu (gV.trans' g)) (ht.grew (gV.trans' g)) (he.grew (gV.trans' g))
      have rRa := rV Wa ga
      have HQ := Lib.hid cRec
      clear cF cPr cRr cRec cQ
      go_wp2_with (first | (refine wpList_load_mid rfl 29 _ rfl w.heap.size 0 rfl RC _ rRa Tryd.underlying29 rfl nfR ?_) | (go_at_call 6; with_reducible refine cP.mono ?_))
      rintro eb Wb ⟨gb, ⟨hR, rfl⟩ | ⟨hR, x, rfl, hox⟩⟩
      · have gVb := ga.trans' gb
        have cN := commit_Parse none 0 [] Wb (.inl rfl) (by decide) (Nat.le_refl _) (hm.grew (gV.trans' gVb)) (u8_grew hu (gV.trans' gVb)) (ht.grew (gV.trans' gVb)) (he.grew (gV.trans' gVb))
        change Calls _ _ #[.slice none 0 0] _ _ at cN
        simp only [hR] at cR
        clear cP rRa
        go_wp2_with (go_at_call 10; with_reducible refine cN.mono ?_)
        rintro ec Wc hpc
        obtain ⟨gc, rr, pp, cc, k, rfl, hfr, -, -, -⟩ := parse_ways hpc
        have gVc := gVb.trans' gc
        have nfc := infoRec (.slice pp rr.par.length cc) rr hfr.1
        have onec := rec_one rr (.slice pp rr.par.length cc) rfl
        have lenc := Rec.len (.slice pp rr.par.length cc) rr hfr.1
        generalize rr.cells (.slice pp rr.par.length cc) = RE at *
        clear cN hpc
        go_wp2_with (refine wpList_store_newH rfl 29 _ _ rfl Wc _ rfl RE rfl rfl lenc.symm nfc onec ?_)
        intro Uc gUc sUc bUc
        have gVUc := gVc.trans' gUc
        clear bUc sUc
        go_wp2_with (first | (go_at_call 7; with_reducible refine (cA _ (by assumption)).mono ?_; rintro e1 W1 ⟨rfl, g1⟩; replace g1 := Grew.trans' (a := V) (by assumption) g1) | (refine wpList_load_g (by rfl) 29 (.tmp 2) rfl w.heap.size 0 rfl RC _ (rV _ (by assumption)) Tryd.underlying29 rfl nfR ?_) | (go_at_call 11; with_reducible refine (cR _ (by assumption)).mono ?_; rintro e1 W1 ⟨rfl, g1⟩; replace g1 := Grew.trans' (a := V) (by assumption) g1) | (go_at_call 10; with_reducible refine (cB _ (by assumption)).mono ?_))
        rintro e4 Wd hp4
        obtain ⟨g4, r4, p4, c4, k4, rfl, hf4, hr4, hc4, hw4⟩ := parse_ways hp4
        have gVd : Grew V Wd := Grew.trans' (by assumption) g4
        obtain ⟨n4, hn4⟩ : ∃ n4, r4.par.length = n4 := ⟨_, rfl⟩
        have nf4 := infoRec (.slice p4 r4.par.length c4) r4 hf4.1
        have one4 := rec_one r4 (.slice p4 r4.par.length c4) rfl
        have len4 := Rec.len (.slice p4 r4.par.length c4) r4 hf4.1
        have cP4 := fun W (g : Grew Wd W) => commit_Print p4 c4 r4 W hf4 hc4 (hr4.grew g) (u8_grew hu (gV.trans' (gVd.trans' g))) (hm.grew (gV.trans' (gVd.trans' g))) (ht.grew (gV.trans' (gVd.trans' g)))
        obtain ⟨RD, hRD⟩ : ∃ RD, r4.cells (.slice p4 r4.par.length c4) = RD := ⟨_, rfl⟩
        simp only [hRD] at nf4 one4 len4 cP4 ⊢
        clear hRD hn4 hp4
        go_wp2_with (refine wpList_store_newH rfl 29 _ _ rfl Wd _ rfl RD rfl rfl len4.symm nf4 one4 ?_)
        intro Ud gUd sUd bUd
        have rUd : Ud.rangeAt Wd.heap.size 0 RD := by have := range_row bUd; simpa using this
        have gVU := gVd.trans' gUd
        have cP5 := cP4 Ud gUd
        clear cP4 bUd sUd
        go_wp2_with (first | (refine wpList_load_mid rfl 29 _ rfl Wd.heap.size 0 rfl RD _ rUd Tryd.underlying29 rfl nf4 ?_) | (go_at_call 6; with_reducible refine cP5.mono ?_))
        rintro e5 We ⟨g5, hp5⟩
        have gVe := gVU.trans' g5
        rcases hw4 with ⟨rfl, hgood⟩ | ⟨rfl, hR4, -⟩
        · rcases hp5 with ⟨hR5, -⟩ | ⟨-, x5, rfl, hox⟩
          · rw [hgood.2.2.1] at hR5; cases hR5
          · rw [hgood.2.2.2] at hox
            obtain ⟨p5, c5, rfl, hr5, -, -⟩ := hox.val
            have cB := help_Bytes p5 a1 b b c5 cap1 We hr5 (hr1.below (gV.trans' gVe) (Nat.le_refl _))
            simp only [beq_self_eq_true] at cB
            clear hox hr5 cP5 rUd
            go_wp2_with (go_at_call 13; with_reducible refine cB.mono ?_; rintro e6 Wf ⟨rfl, h6⟩; subst Wf)
            go_ret
            exact ⟨rfl, gV.trans' gVe⟩
        · obtain ⟨x, k, rfl⟩ : ∃ x k, e5 = .returned (.tuple #[x, .int .i64 k]) := by rcases hp5 with ⟨-, h⟩ | ⟨-, v, h, -⟩ <;> exact ⟨_, _, h⟩
          clear hp5 cP5 rUd
          go_wp2
          go_ret
          exact ⟨rfl, gV.trans' gVe⟩
      · have gVb := ga.trans' gb
        obtain ⟨px, cx, rfl, hrx, hcx, -⟩ := hox.val
        have hgood : GoodR (printR r) r := ⟨ht0, hp0, hR, rfl⟩
        have cN := commit_Parse px cx (printR r) Wb hrx (printR_short ht0 hp0 hR) hcx (hm.grew (gV.trans' gVb)) (u8_grew hu (gV.trans' gVb)) (ht.grew (gV.trans' gVb)) (he.grew (gV.trans' gVb))
        simp only [hR] at cR
        clear cP rRa hox
        go_wp2_with (go_at_call 10; with_reducible refine cN.mono ?_)
        rintro ec Wc hpc
        obtain ⟨gc, rr, pp, cc, k, rfl, hfr, hrr, -, ⟨rfl, hgr⟩ | ⟨-, -, hno⟩⟩ := parse_ways hpc
        · obtain rfl := good_uniq hgr hgood
          have gVc := gVb.trans' gc
          have nfc := infoRec (.slice pp rr.par.length cc) rr hfr.1
          have onec := rec_one rr (.slice pp rr.par.length cc) rfl
          have lenc := Rec.len (.slice pp rr.par.length cc) rr hfr.1
          have cQ := fun W (g : Grew V W) (h : Grew Wc W) => HQ.out pp cc (by omega) W g (hrr.grew h)
          obtain ⟨RE, hRE⟩ : ∃ RE, rr.cells (.slice pp rr.par.length cc) = RE := ⟨_, rfl⟩
          simp only [hRE] at nfc onec lenc cQ ⊢
          clear cN hpc hRE
          go_wp2_with (refine wpList_store_newH rfl 29 _ _ rfl Wc _ rfl RE rfl rfl lenc.symm nfc onec ?_)
          intro Uc gUc sUc bUc
          have gVUc := gVc.trans' gUc
          have rE : Uc.rangeAt Wc.heap.size 0 RE := by have := range_row bUc; simpa using this
          have rEg := fun W (g : Grew Uc W) => range_grew rE g
          have cQ2 := fun W (g : Grew Uc W) => cQ W (gVUc.trans' g) (gUc.trans' g)
          have rV2 := fun W (g : Grew Uc W) => rV W (gVUc.trans' g)
          have cA2 := fun W (g : Grew Uc W) => cA W (gVUc.trans' g)
          have cR2 := fun W (g : Grew Uc W) => cR W (gVUc.trans' g)
          have cB2 := fun W (g : Grew Uc W) => cB W (gVUc.trans' g)
          have gUU : Grew Uc Uc := Below.refl _ _
          clear bUc sUc cQ cA cR cB
          go_wp2_with (first | (go_at_call 7; with_reducible refine (cA2 _ (by assumption)).mono ?_; rintro e1 W1 ⟨rfl, g1⟩; replace g1 := Grew.trans' (a := Uc) (by assumption) g1) | (refine wpList_load_g (by rfl) 29 (.tmp 2) rfl w.heap.size 0 rfl RC _ (rV2 _ (by assumption)) Tryd.underlying29 rfl nfR ?_) | (refine wpList_load_g (by rfl) 29 (.tmp 7) rfl Wc.heap.size 0 rfl RE _ (rEg _ (by assumption)) Tryd.underlying29 rfl nfc ?_) | (go_at_call 11; with_reducible refine (cR2 _ (by assumption)).mono ?_; rintro e1 W1 ⟨rfl, g1⟩; replace g1 := Grew.trans' (a := Uc) (by assumption) g1) | (go_at_call 12; with_reducible refine (cQ2 _ (by assumption)).mono ?_; rintro e1 W1 ⟨rfl, g1⟩; replace g1 := Grew.trans' (a := Uc) (by assumption) g1) | (go_at_call 10; with_reducible refine (cB2 _ (by assumption)).mono ?_))
          have gVx : ∀ W, Grew Uc W → Grew V W := fun W g => gVUc.trans' g
          rintro e4 Wd hp4
          obtain ⟨g4, r4, p4, c4, k4, rfl, hf4, hr4, hc4, hw4⟩ := parse_ways hp4
          have gVd : Grew V Wd := Grew.trans' (gVx _ (by assumption)) g4
          obtain ⟨n4, hn4⟩ : ∃ n4, r4.par.length = n4 := ⟨_, rfl⟩
          have nf4 := infoRec (.slice p4 r4.par.length c4) r4 hf4.1
          have one4 := rec_one r4 (.slice p4 r4.par.length c4) rfl
          have len4 := Rec.len (.slice p4 r4.par.length c4) r4 hf4.1
          have cP4 := fun W (g : Grew Wd W) => commit_Print p4 c4 r4 W hf4 hc4 (hr4.grew g) (u8_grew hu (gV.trans' (gVd.trans' g))) (hm.grew (gV.trans' (gVd.trans' g))) (ht.grew (gV.trans' (gVd.trans' g)))
          obtain ⟨RD, hRD⟩ : ∃ RD, r4.cells (.slice p4 r4.par.length c4) = RD := ⟨_, rfl⟩
          simp only [hRD] at nf4 one4 len4 cP4 ⊢
          clear hRD hn4 hp4
          go_wp2_with (refine wpList_store_newH rfl 29 _ _ rfl Wd _ rfl RD rfl rfl len4.symm nf4 one4 ?_)
          intro Ud gUd sUd bUd
          have rUd : Ud.rangeAt Wd.heap.size 0 RD := by have := range_row bUd; simpa using this
          have gVU := gVd.trans' gUd
          have cP5 := cP4 Ud gUd
          clear cP4 bUd sUd
          go_wp2_with (first | (refine wpList_load_mid rfl 29 _ rfl Wd.heap.size 0 rfl RD _ rUd Tryd.underlying29 rfl nf4 ?_) | (go_at_call 6; with_reducible refine cP5.mono ?_))
          rintro e5 We ⟨g5, hp5⟩
          have gVe := gVU.trans' g5
          rcases hw4 with ⟨rfl, hgood⟩ | ⟨rfl, hR4, -⟩
          · rcases hp5 with ⟨hR5, -⟩ | ⟨-, x5, rfl, hox⟩
            · rw [hgood.2.2.1] at hR5; cases hR5
            · rw [hgood.2.2.2] at hox
              obtain ⟨p5, c5, rfl, hr5, -, -⟩ := hox.val
              have cB := help_Bytes p5 a1 b b c5 cap1 We hr5 (hr1.below (gV.trans' gVe) (Nat.le_refl _))
              simp only [beq_self_eq_true] at cB
              clear hox hr5 cP5 rUd
              go_wp2_with (go_at_call 13; with_reducible refine cB.mono ?_; rintro e6 Wf ⟨rfl, h6⟩; subst Wf)
              go_ret
              exact ⟨rfl, gV.trans' gVe⟩
          · obtain ⟨x, k, rfl⟩ : ∃ x k, e5 = .returned (.tuple #[x, .int .i64 k]) := by rcases hp5 with ⟨-, h⟩ | ⟨-, v, h, -⟩ <;> exact ⟨_, _, h⟩
            clear hp5 cP5 rUd
            go_wp2
            go_ret
            exact ⟨rfl, gV.trans' gVe⟩
        · exact absurd hgood (hno _)

end Go.Proofs.YtemojhcbhljemaaDoor
