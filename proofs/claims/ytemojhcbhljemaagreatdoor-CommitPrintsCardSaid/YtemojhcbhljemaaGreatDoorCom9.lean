/- Two records that are alike (the helper Record); few. Conditions: at most 2^30 parents; sizes below 2^63. -/
import Derived.Test.YtemojhcbhljemaaGreatDoorCom2
import Derived.Test.YtemojhcbhljemaaGreatDoorHelpId
import Derived.Test.YtemojhcbhljemaaGreatDoorIdnEq
namespace Go.Proofs.YtemojhcbhljemaaGreatDoor
set_option linter.unusedVariables false
set_option linter.unusedSimpArgs false
open Go.RowKit

set_option maxRecDepth 100000 in
set_option maxHeartbeats 4000000 in
theorem help_Record (p q : Option Addr) (c d : Nat) (r : Rec) (w : World) (h20 : r.tree.length = 20) (hp20 : ∀ x ∈ r.par, x.length = 20) (hl : r.par.length ≤ 1073741824) (h1 : RdG kId w p r.par) (h2 : RdG kId w q r.par) :
    Calls Tryz.prog 15 #[.agg (r.cells (.slice p r.par.length c)).toArray, .agg (r.cells (.slice q r.par.length d)).toArray] w fun e w' => e = .returned (.bool true) ∧ Grew w w' := by
  obtain ⟨V0, hV0, gw0, g00, r0⟩ := boxedR w (.slice p r.par.length c) r
  obtain ⟨V, hV, g0V, gVV, rV⟩ := boxedR V0 (.slice q r.par.length d) r
  have gwV := gw0.trans' g0V
  have T1 := (rec_range (r0 V g0V) h20).1
  have T2 := (rec_range (rV V gVV) h20).1
  have P1 : ∀ W, Grew V W → W.cell? ⟨w.heap.size, 20, none⟩ = some (.slice p r.par.length c) := fun W g => by have := (rec_range (r0 W (g0V.trans' g)) h20).2.1; rwa [Nat.zero_add] at this
  have P2 : ∀ W, Grew V W → W.cell? ⟨V0.heap.size, 20, none⟩ = some (.slice q r.par.length d) := fun W g => by have := (rec_range (rV W g) h20).2.1; rwa [Nat.zero_add] at this
  have A1 : ∀ W, Grew V W → W.rangeAt w.heap.size 21 r.au.cells := fun W g => by have := (rec_range (r0 W (g0V.trans' g)) h20).2.2.1; rwa [Nat.zero_add] at this
  have A2 : ∀ W, Grew V W → W.rangeAt V0.heap.size 21 r.au.cells := fun W g => by have := (rec_range (rV W g) h20).2.2.1; rwa [Nat.zero_add] at this
  have C1 : ∀ W, Grew V W → W.rangeAt w.heap.size 25 r.co.cells := fun W g => by have := (rec_range (r0 W (g0V.trans' g)) h20).2.2.2.1; rwa [Nat.zero_add] at this
  have C2 : ∀ W, Grew V W → W.rangeAt V0.heap.size 25 r.co.cells := fun W g => by have := (rec_range (rV W g) h20).2.2.2.1; rwa [Nat.zero_add] at this
  have X1 : ∀ W, Grew V W → W.cell? ⟨w.heap.size, 29, none⟩ = some (.string r.text) := fun W g => by have := (rec_range (r0 W (g0V.trans' g)) h20).2.2.2.2; rwa [Nat.zero_add] at this
  have X2 : ∀ W, Grew V W → W.cell? ⟨V0.heap.size, 29, none⟩ = some (.string r.text) := fun W g => by have := (rec_range (rV W g) h20).2.2.2.2; rwa [Nat.zero_add] at this
  have cP := plain_Id_eq p q r.par c d V hl hp20 (h1.grew gwV) (h2.grew gwV)
  have nfT := infoId' h20
  have nfA := infoIdn r.au
  have nfC := infoIdn r.co
  have eT := fun W => eql_id r.tree r.tree h20 h20 W
  have gT := fun W op a b => guard_id op a b r.tree r.tree W
  have eA := fun W => eql_idn r.au r.au W
  have gA := fun W op a b => guard_idn op a b r.au r.au W
  have eC := fun W => eql_idn r.co r.co W
  have gC := fun W op a b => guard_idn op a b r.co r.co W
  simp only [beq_self_eq_true] at eT
  simp only [eqN_refl] at eA eC
  generalize r.par.length = n at *
  generalize (r.cells (.slice p n c)).toArray = RC at *
  generalize (r.cells (.slice q n d)).toArray = RD at *
  generalize Lib.byteCells r.tree = tc at *
  generalize r.au.cells = ac at *
  generalize r.co.cells = cc at *
  clear r0 rV
  go_enter Tryz.func15, Tryz.ntmps15
  go_wp2_with (first | (refine wpList_load_mid rfl 23 (.tmp 5) rfl w.heap.size 0 rfl tc _ T1 Tryz.underlying23 rfl nfT ?_) | (refine wpList_load_mid rfl 23 (.tmp 7) rfl V0.heap.size 0 rfl tc _ T2 Tryz.underlying23 rfl nfT ?_) | (go_at_call 38; with_reducible refine cP.mono ?_))
  rintro e1 W1 ⟨rfl, g1⟩
  have A1' := A1 W1 g1
  have A2' := A2 W1 g1
  have C1' := C1 W1 g1
  have C2' := C2 W1 g1
  have X1' := X1 W1 g1
  have X2' := X2 W1 g1
  clear A1 A2 C1 C2 X1 X2 T1 T2 P1 P2 cP
  go_wp2_with (first | (refine wpList_load_g (by rfl) 26 (.tmp 18) rfl w.heap.size 21 rfl ac _ A1' Tryz.underlying26 rfl nfA ?_) | (refine wpList_load_g (by rfl) 26 (.tmp 20) rfl V0.heap.size 21 rfl ac _ A2' Tryz.underlying26 rfl nfA ?_) | (refine wpList_load_g (by rfl) 26 (.tmp 25) rfl w.heap.size 25 rfl cc _ C1' Tryz.underlying26 rfl nfC ?_) | (refine wpList_load_g (by rfl) 26 (.tmp 27) rfl V0.heap.size 25 rfl cc _ C2' Tryz.underlying26 rfl nfC ?_))
  go_ret
  exact ⟨rfl, gwV.trans' g1⟩

set_option maxRecDepth 100000 in
set_option maxHeartbeats 4000000 in
/-- few: what it lets in has few parents, and a short text. (The names' lengths are added up, and the sum may wrap.) -/
theorem few_run (p : Option Addr) (c : Nat) (r : Rec) (w : World) (h20 : r.tree.length = 20) :
    Calls Tryz.prog 4 #[.agg (r.cells (.slice p r.par.length c)).toArray] w fun e w' => (∃ B : Bool, e = .returned (.bool B) ∧ (B = true → r.par.length ≤ 40 ∧ r.text.size ≤ 2000)) ∧ Grew w w' := by
  obtain ⟨V, hV, gV, gVV, rV⟩ := boxedR w (.slice p r.par.length c) r
  have rP : V.cell? ⟨w.heap.size, 20, none⟩ = some (.slice p r.par.length c) := by have := (rec_range (rV V gVV) h20).2.1; rwa [Nat.zero_add] at this
  have rA : V.rangeAt w.heap.size 21 r.au.cells := by have := (rec_range (rV V gVV) h20).2.2.1; rwa [Nat.zero_add] at this
  have rC : V.rangeAt w.heap.size 25 r.co.cells := by have := (rec_range (rV V gVV) h20).2.2.2.1; rwa [Nat.zero_add] at this
  have rX : V.cell? ⟨w.heap.size, 29, none⟩ = some (.string r.text) := by have := (rec_range (rV V gVV) h20).2.2.2.2; rwa [Nat.zero_add] at this
  have a0 : V.cell? ⟨w.heap.size, 21, none⟩ = some (.string r.au.name) := rA 0 _ rfl
  have a1 : V.cell? ⟨w.heap.size, 22, none⟩ = some (.string r.au.email) := rA 1 _ rfl
  have b0 : V.cell? ⟨w.heap.size, 25, none⟩ = some (.string r.co.name) := rC 0 _ rfl
  have b1 : V.cell? ⟨w.heap.size, 26, none⟩ = some (.string r.co.email) := rC 1 _ rfl
  obtain ⟨n, hn⟩ : ∃ n, r.par.length = n := ⟨_, rfl⟩
  rw [hn] at rP hV ⊢
  obtain ⟨X, hX⟩ : ∃ X, r.text = X := ⟨_, rfl⟩
  rw [hX] at rX ⊢
  generalize (r.cells (.slice p n c)).toArray = RC at *
  clear rV rA rC hn hX
  have ways : ¬ (n ≤ 40) ∨ (n ≤ 40 ∧ ¬ (X.size ≤ 2000)) ∨ (n ≤ 40 ∧ X.size ≤ 2000) := by omega
  rcases ways with h | ⟨h, h'⟩ | ⟨h, h'⟩
  · have f1 : decide ((n : Int) ≤ 40) = false := decide_eq_false (by omega)
    go_enter Tryz.func4, Tryz.ntmps4
    go_wp2
    go_ret
    exact ⟨⟨_, rfl, fun e => by cases e⟩, gV⟩
  · have f1 : decide ((n : Int) ≤ 40) = true := decide_eq_true (by omega)
    have f2 : decide ((X.size : Int) ≤ 2000) = false := decide_eq_false (by omega)
    go_enter Tryz.func4, Tryz.ntmps4
    go_wp2
    go_ret
    exact ⟨⟨_, rfl, fun e => by cases e⟩, gV⟩
  · have f1 : decide ((n : Int) ≤ 40) = true := decide_eq_true (by omega)
    have f2 : decide ((X.size : Int) ≤ 2000) = true := decide_eq_true (by omega)
    go_enter Tryz.func4, Tryz.ntmps4
    go_wp2
    go_ret
    exact ⟨⟨_, rfl, fun _ => ⟨h, h'⟩⟩, gV⟩

end Go.Proofs.YtemojhcbhljemaaGreatDoor
