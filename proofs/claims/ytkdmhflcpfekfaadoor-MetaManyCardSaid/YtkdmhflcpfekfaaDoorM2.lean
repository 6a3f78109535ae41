/- Several texts in one: RowWords, RowBytesC, RowG. -/
import Derived.Test.YtkdmhflcpfekfaaDoorM1
import Derived.ProofKit
import Derived.OpenShut
import Derived.Deep.Slices

/- Words that the rows of this seat share: how arguments are opened, and the world for a row's witness. No function of the program. -/
namespace Go.Proofs.YtkdmhflcpfekfaaDoor
set_option linter.unusedVariables false
set_option linter.unusedSimpArgs false
set_option maxRecDepth 100000
open Go.ChangeShapes Go.WideShapes Go.ChangeAt Go.RowKit

/-- A package-level variable set to cells. -/
def setG (w : World) (g : Nat) (cs : List Value) : World := { w with heap := w.heap.modify g fun
  | .cells _ t frozen => .cells cs.toArray t frozen
  | o => o }

theorem own : ownKnob Tryd.prog.godebug = none := by kernel_rfl
theorem laidOut : laidOutB Tryd.prog = true := by kernel_rfl

/-- What an argument that is a slice of bytes is told as. -/
theorem rd_of_ints {W : World} {x : Addr} {l c : Nat} {zs : List Int} (hl : l ≤ c) (hz : zs.length = c) (hcell : ∀ i, i < zs.length → W.cell? (x.add i) = some (.int .u8 (zs.getD i 0))) (hwz : ∀ n ∈ zs, (Lit.int .u8 n).wf = true) :
    ∃ bs : List UInt8, bs.length = l ∧ Rd W (some x) bs := by
  refine ⟨(zs.take l).map fun n => UInt8.ofNat n.toNat, by simp [List.length_take]; omega, ?_⟩
  by_cases h0 : l = 0
  · subst h0; exact .inl rfl
  · obtain ⟨b, o, spot⟩ := x
    have hc := hcell 0 (by omega)
    have hspot : spot = none := by simpa [Addr.add] using World.cell?_spot hc
    subst hspot
    refine .inr ⟨b, o, rfl, block_lt_of_cell hc, fun i hi => ?_⟩
    have hi' : i < l := by simpa [List.length_take, hz, Nat.min_eq_left hl] using hi
    have h1 := hcell i (by omega)
    rw [Addr.add_mid] at h1
    rw [h1]
    have hm : zs.getD i 0 ∈ zs := by rw [List.getD_eq_getElem?_getD, List.getElem?_eq_getElem (by omega)]; exact List.getElem_mem _
    have hb := hwz _ hm
    simp [Lit.wf, IntKind.min, IntKind.max, IntKind.signed, IntKind.bits] at hb
    have e : ((zs.take l).map fun n => UInt8.ofNat n.toNat).getD i 0 = UInt8.ofNat (zs.getD i 0).toNat := by
      simp [List.getD_eq_getElem?_getD, List.getElem?_take, hi', List.getElem?_eq_getElem (show i < zs.length by omega)]
    rw [e]
    congr 2
    simp [UInt8.toNat_ofNat']
    omega

/-- The same, said of the argument's reading. -/
theorem bytes_of_read {H : Type} {enc : TypeId × Value → H} {W : World} {a : Option Addr} {len cap : Nat} {d : DataW H} {p : List MemPlace}
    (h : DataW.Trod enc Tryd.prog W 0 (fun _ => true) true 48 (.slice a len cap) d p) : ∃ l : List UInt8, l.length = len ∧ l.length ≤ 9223372036854775807 ∧ Rd W a l := by
  obtain ⟨fuel, hf⟩ := h
  rcases open_ints Tryd.underlying48 Tryd.underlying5 (by kernel_rfl) hf with ⟨hcs, _⟩ | ⟨x, l, c, zs, hcs, _, hl, hm, hz, _, hcell, hwz⟩
  · simp [Value.cells] at hcs
    obtain ⟨rfl, rfl, rfl⟩ := hcs
    exact ⟨[], rfl, by simp, .inl rfl⟩
  · simp [Value.cells] at hcs
    obtain ⟨rfl, rfl, rfl⟩ := hcs
    obtain ⟨bs, hb1, hb2⟩ := rd_of_ints hl (by simpa using hz) hcell hwz
    exact ⟨bs, hb1, by unfold maxLen at hm; omega, hb2⟩

theorem int_of_wf {x : Int} (h : (Lit.int .i64 x).wf = true) : -9223372036854775808 ≤ x ∧ x ≤ 9223372036854775807 := by
  simp [Lit.wf, IntKind.min, IntKind.max, IntKind.signed, IntKind.bits] at h
  exact ⟨by omega, by omega⟩
theorem byte_of_wf' {x : Int} (h : (Lit.int .u8 x).wf = true) : 0 ≤ x ∧ x ≤ 255 := by
  simp [Lit.wf, IntKind.min, IntKind.max, IntKind.signed, IntKind.bits] at h
  exact ⟨by omega, by omega⟩

theorem cellsId : Tryd.prog.cellsOf 75 = 20 := by kernel_rfl
theorem cellsU8' : Tryd.prog.cellsOf 5 = 1 := by kernel_rfl
/-- Cells that read as an id are twenty bytes. -/
theorem id_of_trod {H : Type} {enc : TypeId × Value → H} {W : World} {base : Nat} {spare : Nat → Bool} {held : Bool} {fuel : Nat} {cs : List Value} {x : DataW H × List MemPlace}
    (h : DataW.trod enc Tryd.prog W base spare held fuel 75 cs = some x) : ∃ l : List UInt8, cs = Lib.byteCells l ∧ l.length = 20 := by
  obtain ⟨xs, m, -, -, hl, hn, hi⟩ := DataW.trod_array Tryd.underlying75 h
  rw [cellsId] at hl
  have key : ∀ i, i < 20 → ∃ b : UInt8, cs[i]? = some (.int .u8 (b.toNat : Int)) := by
    intro i h20
    have h1 := hi i h20
    rw [cellsU8', Nat.mul_one, List.getElem?_eq_getElem (by omega)] at h1
    obtain ⟨n, h2, -, hw⟩ := DataW.trod_int Tryd.underlying5 h1
    have hb := byte_of_wf' hw
    have hlt : i < cs.length := by omega
    refine ⟨UInt8.ofNat n.toNat, ?_⟩
    rw [List.drop_eq_getElem_cons hlt, List.take_succ_cons, List.take_zero] at h2
    have h3 : cs[i] = .int .u8 n := by injection h2
    have h4 : n = ((UInt8.ofNat n.toNat).toNat : Int) := by rw [UInt8.toNat_ofNat']; omega
    rw [List.getElem?_eq_getElem hlt, h3, ← h4]
  refine ⟨(List.range 20).map fun i => match cs[i]? with | some (Value.int IntKind.u8 n) => UInt8.ofNat n.toNat | _ => 0, ?_, by simp⟩
  apply List.ext_getElem?
  intro i
  by_cases h20 : i < 20
  · obtain ⟨b, hb⟩ := key i h20
    rw [hb, byteCells_getElem?]
    simp [h20, hb]
  · rw [List.getElem?_eq_none (by omega), List.getElem?_eq_none (by simp [Lib.byteCells_length]; omega)]

theorem id_of_read {H : Type} {enc : TypeId × Value → H} {W : World} {base : Nat} {v : Value} {d : DataW H} {p : List MemPlace} (hv : Value.okWide Tryd.prog W .any base 75 v)
    (h : DataW.Trod enc Tryd.prog W 0 (fun _ => true) true 75 v d p) : ∃ l : List UInt8, v = .agg (Lib.byteCells l).toArray ∧ l.length = 20 := by
  obtain ⟨cs, rfl⟩ : ∃ cs, v = .agg cs := by
    simp only [Value.okWide, Tryd.underlying75] at hv
    obtain ⟨cs, h1, _⟩ := hv
    exact ⟨cs, h1⟩
  obtain ⟨fuel, hf⟩ := h
  obtain ⟨l, h1, h2⟩ := id_of_trod hf
  refine ⟨l, ?_, h2⟩
  rw [← h1]
  simp [Value.cells]

end Go.Proofs.YtkdmhflcpfekfaaDoor

/- How an argument that is a slice of bytes is opened, its capacity too. No function of the program. -/
namespace Go.Proofs.YtkdmhflcpfekfaaDoor
set_option linter.unusedVariables false
set_option linter.unusedSimpArgs false
set_option maxRecDepth 100000
open Go.ChangeShapes Go.WideShapes Go.ChangeAt Go.RowKit

/-- What an argument that is a slice of bytes is told as, its capacity too. -/
theorem bytes_of_read' {H : Type} {enc : TypeId × Value → H} {W : World} {a : Option Addr} {len cap : Nat} {d : DataW H} {p : List MemPlace}
    (h : DataW.Trod enc Tryd.prog W 0 (fun _ => true) true 48 (.slice a len cap) d p) : ∃ l : List UInt8, l.length = len ∧ l.length ≤ 9223372036854775807 ∧ Rd W a l ∧ (a = none → cap = 0) ∧ l.length ≤ cap := by
  obtain ⟨l, h1, h2, h3⟩ := bytes_of_read h
  refine ⟨l, h1, h2, h3, ?_⟩
  obtain ⟨fuel, hf⟩ := h
  rcases open_ints Tryd.underlying48 Tryd.underlying5 (by kernel_rfl) hf with ⟨hcs, _⟩ | ⟨x, l', c, zs, hcs, _, hl, hm, hz, _, hcell, hwz⟩
  · simp [Value.cells] at hcs
    obtain ⟨rfl, rfl, rfl⟩ := hcs
    exact ⟨fun _ => rfl, by omega⟩
  · simp [Value.cells] at hcs
    obtain ⟨rfl, rfl, rfl⟩ := hcs
    exact ⟨fun e => (by cases e), by omega⟩

end Go.Proofs.YtkdmhflcpfekfaaDoor

/- How an argument that is a slice of a kind of values is opened. No function of the program. -/
namespace Go.Proofs.YtkdmhflcpfekfaaDoor
set_option linter.unusedVariables false
set_option linter.unusedSimpArgs false
set_option maxRecDepth 100000
open Go.ChangeShapes Go.WideShapes Go.ChangeAt Go.RowKit

theorem listOf {α : Type} {P : Nat → α → Prop} : ∀ n : Nat, (∀ i, i < n → ∃ x, P i x) → ∃ l : List α, l.length = n ∧ ∀ i x, l[i]? = some x → P i x
  | 0, _ => ⟨[], rfl, fun i x h => by simp at h⟩
  | n + 1, h => by
    obtain ⟨l, hl, hp⟩ := listOf n (fun i hi => h i (by omega))
    obtain ⟨x, hx⟩ := h n (by omega)
    refine ⟨l ++ [x], by simp [hl], fun i y hy => ?_⟩
    by_cases hi : i < l.length
    · rw [List.getElem?_append_left hi] at hy
      exact hp i y hy
    · rw [List.getElem?_append_right (by omega)] at hy
      have : i - l.length = 0 := by have := (List.getElem?_eq_some_iff.1 hy).1; simp at this; omega
      rw [this] at hy
      cases hy
      have : i = n := by omega
      subst this
      exact hx

theorem sliceG_of_read {α : Type} (K : Kd α) (R : α → Prop) (hcell : Tryd.prog.cellsOf K.E = K.n) {H : Type} {enc : TypeId × Value → H} {W : World}
    (el : ∀ (base : Nat) (spare : Nat → Bool) (held : Bool) (fuel : Nat) (cs : List Value) (x : DataW H × List MemPlace), DataW.trod enc Tryd.prog W base spare held fuel K.E cs = some x → ∃ y, cs = K.cells y ∧ K.ok y ∧ R y)
    {a : Option Addr} {len cap : Nat} {d : DataW H} {p : List MemPlace}
    (h : DataW.Trod enc Tryd.prog W 0 (fun _ => true) true K.T (.slice a len cap) d p) : ∃ l : List α, l.length = len ∧ l.length ≤ 9223372036854775807 ∧ RdG K W a l ∧ (∀ x ∈ l, K.ok x ∧ R x) ∧ l.length ≤ cap ∧ (a = none → cap = 0) := by
  obtain ⟨fuel, hf⟩ := h
  rcases Go.Deep.open_slice K.und hf with ⟨hcs, _⟩ | ⟨x, l, c, m, n, D, Pl, hcs, _, hl, hm, hmm, _, hi⟩
  · simp [Value.cells] at hcs
    obtain ⟨rfl, rfl, rfl⟩ := hcs
    exact ⟨[], rfl, by simp, .inl rfl, by simp, Nat.le_refl _, fun _ => rfl⟩
  · simp [Value.cells] at hcs
    obtain ⟨rfl, rfl, rfl⟩ := hcs
    have hmc : m = cap := by simpa using hmm
    have hpos := K.hn
    obtain ⟨its, hlen, hits⟩ := listOf (P := fun i (it : α) => (∀ j v, (K.cells it)[j]? = some v → W.cell? (x.add (i * K.n + j)) = some v) ∧ K.ok it ∧ R it) len (fun i hil => by
      obtain ⟨cs', hc, ht⟩ := hi i (by omega)
      rw [hcell] at hc
      obtain ⟨_, hcl, hat⟩ := World.cells?_some hc
      obtain ⟨it, e, hok, hR⟩ := el _ _ _ _ _ _ ht
      refine ⟨it, fun j v hv => ?_, hok, hR⟩
      have hj : j < K.n := by have := (List.getElem?_eq_some_iff.1 hv).1; rw [K.hlen it hok] at this; exact this
      have h1 := hat j hj
      rw [e, hv] at h1
      rw [← Go.Deep.add_add]
      exact h1)
    refine ⟨its, hlen, by unfold maxLen at hm; omega, ?_, fun y hy => by obtain ⟨i, hi⟩ := List.mem_iff_getElem?.1 hy; exact (hits i y hi).2, by omega, fun e => by cases e⟩
    by_cases h0 : len = 0
    · exact .inl (List.eq_nil_of_length_eq_zero (by omega))
    · obtain ⟨y, hy⟩ : ∃ y, its[0]? = some y := ⟨_, List.getElem?_eq_getElem (by omega)⟩
      obtain ⟨v0, hv0⟩ : ∃ v0, (K.cells y)[0]? = some v0 := ⟨_, List.getElem?_eq_getElem (by rw [K.hlen y (hits 0 y hy).2.1]; exact hpos)⟩
      have hc := (hits 0 y hy).1 0 _ hv0
      obtain ⟨b, o, spot⟩ := x
      have hspot : spot = none := by simpa [Addr.add] using World.cell?_spot hc
      subst hspot
      refine .inr ⟨b, o, rfl, fun k z hz j v hv => ?_⟩
      have := (hits k z hz).1 j v hv
      rw [Addr.add_mid] at this
      rw [Nat.add_assoc]
      exact this

end Go.Proofs.YtkdmhflcpfekfaaDoor
