/- The laws of layer 9, walked: awake, CommitParents. Conditions: the library's tables are laid. -/
import Derived.Test.YtemojhcbhljemaaGreatDoorPure09
namespace Go.Proofs.YtemojhcbhljemaaGreatDoor
set_option linter.unusedVariables false
set_option linter.unusedSimpArgs false
open Go.RowKit

theorem fine_recN (l : List (List UInt8)) (t : ByteArray) (h : ∀ x ∈ l, x.length = 20) (hl : l.length ≤ 1000) (ht : t.size ≤ 1000) : FineR (recN l t) := ⟨rfl, h, by show l.length ≤ _; omega, by show (1 : Nat) ≤ _; omega, by show (1 : Nat) ≤ _; omega, by show (1 : Nat) ≤ _; omega, by show (1 : Nat) ≤ _; omega, by show t.size ≤ _; omega⟩
theorem build_who (w : World) : (Instr.build 26 #[(0, .string ⟨#[65]⟩), (1, .string ⟨#[97]⟩)]).run Tryz.prog w = .ok (.agg #[.string ⟨#[65]⟩, .string ⟨#[97]⟩, .int .i64 0, .int .i64 0]) w := run_build w _ _ _ (by kernel_rfl)
theorem build_by (x : Int) (w : World) : (Instr.build 23 #[(0, .int .u8 x)]).run Tryz.prog w = .ok (.agg #[.int .u8 x, .int .u8 0, .int .u8 0, .int .u8 0, .int .u8 0, .int .u8 0, .int .u8 0, .int .u8 0, .int .u8 0, .int .u8 0, .int .u8 0, .int .u8 0, .int .u8 0, .int .u8 0, .int .u8 0, .int .u8 0, .int .u8 0, .int .u8 0, .int .u8 0, .int .u8 0]) w := run_build w _ _ _ (by kernel_rfl)
theorem build_rec4 (w : World) : (Instr.build 28 #[(0, .agg #[.int .u8 1, .int .u8 0, .int .u8 0, .int .u8 0, .int .u8 0, .int .u8 0, .int .u8 0, .int .u8 0, .int .u8 0, .int .u8 0, .int .u8 0, .int .u8 0, .int .u8 0, .int .u8 0, .int .u8 0, .int .u8 0, .int .u8 0, .int .u8 0, .int .u8 0, .int .u8 0]), (2, .agg #[.string ⟨#[65]⟩, .string ⟨#[97]⟩, .int .i64 0, .int .i64 0]), (3, .agg #[.string ⟨#[65]⟩, .string ⟨#[97]⟩, .int .i64 0, .int .i64 0]), (4, .string ⟨#[120]⟩)]).run Tryz.prog w = .ok (.agg ((recN [] ⟨#[120]⟩).cells (.slice none 0 0)).toArray) w := run_build w _ _ _ (by kernel_rfl)
theorem build_rec3 (w : World) : (Instr.build 28 #[(0, .agg #[.int .u8 1, .int .u8 0, .int .u8 0, .int .u8 0, .int .u8 0, .int .u8 0, .int .u8 0, .int .u8 0, .int .u8 0, .int .u8 0, .int .u8 0, .int .u8 0, .int .u8 0, .int .u8 0, .int .u8 0, .int .u8 0, .int .u8 0, .int .u8 0, .int .u8 0, .int .u8 0]), (2, .agg #[.string ⟨#[65]⟩, .string ⟨#[97]⟩, .int .i64 0, .int .i64 0]), (3, .agg #[.string ⟨#[65]⟩, .string ⟨#[97]⟩, .int .i64 0, .int .i64 0])]).run Tryz.prog w = .ok (.agg ((recN [] ⟨#[]⟩).cells (.slice none 0 0)).toArray) w := run_build w _ _ _ (by kernel_rfl)

set_option maxRecDepth 100000 in
set_option maxHeartbeats 1000000 in
theorem awake09 (w : World) (hu : U8Ok w) (hm : MaxOk w) (ht : TabOk w) :
    Calls Tryz.prog 5 #[] w fun e w' => e = .returned (.bool true) ∧ Grew w w' := by
  obtain ⟨W1, hW1, g1, g11, hq⟩ := boxed w #[.string ⟨#[65]⟩, .string ⟨#[97]⟩, .int .i64 0, .int .i64 0] 26
  have q0 := fun W g => hq W g 0 _ rfl
  have q1 := fun W g => hq W g 1 _ rfl
  have q2 := fun W g => hq W g 2 _ rfl
  have q3 := fun W g => hq W g 3 _ rfl
  subst hW1
  have cP := commit_Print none 0 (recN [] ⟨#[120]⟩) _ (fine_recN _ _ (by simp) (by simp) (by decide)) (Nat.le_refl _) (.inl rfl) (u8_grew hu g1) (hm.grew g1) (ht.grew g1)
  rw [show (recN [] ⟨#[120]⟩).par.length = 0 from rfl] at cP
  change Calls Tryz.prog 8 #[.agg #[.int .u8 1, .int .u8 0, .int .u8 0, .int .u8 0, .int .u8 0, .int .u8 0, .int .u8 0, .int .u8 0, .int .u8 0, .int .u8 0, .int .u8 0, .int .u8 0, .int .u8 0, .int .u8 0, .int .u8 0, .int .u8 0, .int .u8 0, .int .u8 0, .int .u8 0, .int .u8 0, .slice none 0 0, .string ⟨#[65]⟩, .string ⟨#[97]⟩, .int .i64 0, .int .i64 0, .string ⟨#[65]⟩, .string ⟨#[97]⟩, .int .i64 0, .int .i64 0, .string ⟨#[120]⟩]] _ _ at cP
  have haw := awake_right
  obtain ⟨hb1, br, hb2⟩ := awake_bytes
  have HAW := Lib.hid haw
  clear hq haw
  generalize recN [] ⟨#[120]⟩ = R at *
  go_enter Tryz.func5, Tryz.ntmps5
  go_wp2_with fail
  go_fit cP
  rintro e2 W2 ⟨g2, ⟨hn, _⟩ | ⟨_, v, rfl, hown⟩⟩
  · rw [HAW.out] at hn; cases hn
  · obtain ⟨p, c, rfl, hr, hlc, -⟩ := hown.val
    rcases hr with hr | ⟨b, o, rfl, hlt, hcell⟩
    · rw [hr] at hb1; simp at hb1
    have h0 := hcell 0 (by omega)
    rw [hb2, Nat.add_zero] at h0
    have h0' : W2.cell? ⟨b, o, none⟩ = some (.int .u8 116) := h0
    obtain ⟨n, hn⟩ : ∃ n, (printR R).length = n := ⟨_, rfl⟩
    rw [hn] at hb1 ⊢
    have f1 : decide (60 < (n : Int)) = true := decide_eq_true (by omega)
    have f2 : (0 : Int) < (n : Int) := by omega
    clear cP hown hcell h0 hb2 hn
    go_wp2
    go_ret
    exact ⟨rfl, g1.trans' g2⟩

end Go.Proofs.YtemojhcbhljemaaGreatDoor
