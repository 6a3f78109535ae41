/- How an argument that is an item, or a slice of items, is opened. No function of the program. -/
import Derived.Test.YtpgcjljaokopaaaDoorRowWords
import Derived.Test.YtpgcjljaokopaaaDoorTree3
import Derived.Deep.Slices
namespace Go.Proofs.YtpgcjljaokopaaaDoor
set_option linter.unusedVariables false
set_option linter.unusedSimpArgs false
open Go.ChangeShapes Go.WideShapes Go.ChangeAt Go.RowKit

theorem cellsInt : Tryd.prog.cellsOf 3 = 1 := by kernel_rfl
theorem cellsString : Tryd.prog.cellsOf 9 = 1 := by kernel_rfl
theorem cellsItem : Tryd.prog.cellsOf 25 = 22 := by kernel_rfl

/-- Cells that read as an item are an item's. -/
theorem item_of_trod {H : Type} {enc : TypeId × Value → H} {W : World} {base : Nat} {spare : Nat → Bool} {held : Bool} {fuel : Nat} {cs : List Value} {x : DataW H × List MemPlace}
    (h : DataW.trod enc Tryd.prog W base spare held fuel 25 cs = some x) : ∃ i : Itm, cs = i.cells ∧ i.id.length = 20 ∧ i.name.size ≤ 9223372036854775807 ∧ (-9223372036854775808 ≤ i.mode ∧ i.mode ≤ 9223372036854775807) := by
  obtain ⟨xs, m, -, -, hl, hn, hi⟩ := DataW.trod_struct Tryd.underlying25 h
  rw [cellsItem] at hl
  have h0 : DataW.trod enc Tryd.prog W base spare held m 3 ((cs.drop 0).take (Tryd.prog.cellsOf 3)) = xs[0]? := hi 0 _ rfl
  have h1 : DataW.trod enc Tryd.prog W base spare held m 9 ((cs.drop 1).take (Tryd.prog.cellsOf 9)) = xs[1]? := hi 1 _ rfl
  have h2 : DataW.trod enc Tryd.prog W base spare held m 23 ((cs.drop 2).take (Tryd.prog.cellsOf 23)) = xs[2]? := hi 2 _ rfl
  rw [cellsInt] at h0
  rw [cellsString] at h1
  rw [cellsId] at h2
  match cs, hl with
  | c0 :: c1 :: rest, hl =>
    have hr : rest.length = 20 := by simpa using hl
    have hn3 : xs.length = 3 := hn
    rw [List.getElem?_eq_getElem (by omega)] at h0 h1 h2
    simp only [List.drop_zero, List.take_succ_cons, List.take_zero, List.drop_succ_cons] at h0 h1 h2
    obtain ⟨n, e0, -, hw⟩ := DataW.trod_int Tryd.underlying3 h0
    obtain ⟨s, e1, -, hs⟩ := DataW.trod_string Tryd.underlying9 h1
    obtain ⟨l, e2, h20⟩ := id_of_trod h2
    rw [List.take_of_length_le (by omega)] at e2
    refine ⟨⟨n, s, l⟩, ?_, h20, ?_, int_of_wf hw⟩
    · unfold Itm.cells
      rw [e2]
      simp at e0 e1
      rw [e0, e1]
    · unfold maxLen at hs; exact hs

theorem item_of_read {H : Type} {enc : TypeId × Value → H} {W : World} {base : Nat} {v : Value} {d : DataW H} {p : List MemPlace} (hv : Value.okWide Tryd.prog W .any base 25 v)
    (h : DataW.Trod enc Tryd.prog W 0 (fun _ => true) true 25 v d p) : ∃ i : Itm, v = .agg i.cells.toArray ∧ i.id.length = 20 ∧ i.name.size ≤ 9223372036854775807 ∧ (-9223372036854775808 ≤ i.mode ∧ i.mode ≤ 9223372036854775807) := by
  obtain ⟨cs, rfl, -⟩ := okWide_struct Tryd.underlying25 hv
  obtain ⟨fuel, hf⟩ := h
  obtain ⟨i, h1, h2⟩ := item_of_trod hf
  refine ⟨i, ?_, h2⟩
  rw [← h1]
  simp [Value.cells]

theorem list_of {α : Type} {P : Nat → α → Prop} : ∀ n : Nat, (∀ i, i < n → ∃ x, P i x) → ∃ l : List α, l.length = n ∧ ∀ i x, l[i]? = some x → P i x
  | 0, _ => ⟨[], rfl, fun i x h => by simp at h⟩
  | n + 1, h => by
    obtain ⟨l, hl, hp⟩ := list_of n (fun i hi => h i (by omega))
    obtain ⟨x, hx⟩ := h n (by omega)
    refine ⟨l ++ [x], by simp [hl], fun i y hy => ?_⟩
    by_cases hi : i < l.length
    · rw [List.getElem?_append_left hi] at hy
      exact hp i y hy
    · rw [List.getElem?_append_right (by omega)] at hy
      have : i - l.length = 0 := by have := (List.getElem?_eq_some_iff.1 hy).1; simp at this; omega
      rw [this] at hy
      cases hy
      have : i = n := by omega
      subst this
      exact hx

theorem items_of_read {H : Type} {enc : TypeId × Value → H} {W : World} {a : Option Addr} {len cap : Nat} {d : DataW H} {p : List MemPlace}
    (h : DataW.Trod enc Tryd.prog W 0 (fun _ => true) true 31 (.slice a len cap) d p) : ∃ l : List Itm, l.length = len ∧ l.length ≤ 9223372036854775807 ∧ RdI W a l ∧ (∀ x ∈ l, x.id.length = 20 ∧ x.name.size ≤ 9223372036854775807) := by
  obtain ⟨fuel, hf⟩ := h
  rcases Go.Deep.open_slice Tryd.underlying31 hf with ⟨hcs, _⟩ | ⟨x, l, c, m, n, D, Pl, hcs, _, hl, hm, hmm, _, hi⟩
  · simp [Value.cells] at hcs
    obtain ⟨rfl, rfl, rfl⟩ := hcs
    exact ⟨[], rfl, by simp, .inl rfl, by simp⟩
  · simp [Value.cells] at hcs
    obtain ⟨rfl, rfl, rfl⟩ := hcs
    have hmc : m = cap := by simpa using hmm
    obtain ⟨its, hlen, hits⟩ := list_of (P := fun i (it : Itm) => (∀ j v, it.cells[j]? = some v → W.cell? (x.add (i * 22 + j)) = some v) ∧ it.id.length = 20 ∧ it.name.size ≤ 9223372036854775807) len (fun i hil => by
      obtain ⟨cs', hc, ht⟩ := hi i (by omega)
      rw [cellsItem] at hc
      obtain ⟨_, hcl, hat⟩ := World.cells?_some hc
      obtain ⟨it, e, h20, hn, _⟩ := item_of_trod ht
      refine ⟨it, fun j v hv => ?_, h20, hn⟩
      have hj : j < 22 := by have := (List.getElem?_eq_some_iff.1 hv).1; rw [it.len h20] at this; exact this
      have h1 := hat j hj
      rw [e, hv] at h1
      rw [← Go.Deep.add_add]
      exact h1)
    refine ⟨its, hlen, by unfold maxLen at hm; omega, ?_, fun y hy => by obtain ⟨i, hi⟩ := List.mem_iff_getElem?.1 hy; exact (hits i y hi).2⟩
    by_cases h0 : len = 0
    · exact .inl (List.eq_nil_of_length_eq_zero (by omega))
    · obtain ⟨y, hy⟩ : ∃ y, its[0]? = some y := ⟨_, List.getElem?_eq_getElem (by omega)⟩
      have hc := (hits 0 y hy).1 0 _ y.cell0
      obtain ⟨b, o, spot⟩ := x
      have hspot : spot = none := by simpa [Addr.add] using World.cell?_spot hc
      subst hspot
      refine .inr ⟨b, o, rfl, fun k z hz j v hv => ?_⟩
      have := (hits k z hz).1 j v hv
      rw [Addr.add_mid] at this
      rw [Nat.add_assoc]
      exact this

theorem items_of_read' {H : Type} {enc : TypeId × Value → H} {W : World} {a : Option Addr} {len cap : Nat} {d : DataW H} {p : List MemPlace}
    (h : DataW.Trod enc Tryd.prog W 0 (fun _ => true) true 31 (.slice a len cap) d p) : ∃ l : List Itm, l.length = len ∧ l.length ≤ 9223372036854775807 ∧ RdI W a l ∧ (∀ x ∈ l, x.id.length = 20 ∧ x.name.size ≤ 9223372036854775807) ∧ l.length ≤ cap := by
  obtain ⟨l, h1, h2, h3, h4⟩ := items_of_read h
  refine ⟨l, h1, h2, h3, h4, ?_⟩
  obtain ⟨fuel, hf⟩ := h
  rcases Go.Deep.open_slice Tryd.underlying31 hf with ⟨hcs, _⟩ | ⟨x, l', c, m, n, D, Pl, hcs, _, hl, hm, hmm, _, hi⟩
  · simp [Value.cells] at hcs
    obtain ⟨rfl, rfl, rfl⟩ := hcs
    omega
  · simp [Value.cells] at hcs
    obtain ⟨rfl, rfl, rfl⟩ := hcs
    omega

/-- What an argument that is a slice of bytes is told as, its capacity too. -/
theorem bytes_of_read' {H : Type} {enc : TypeId × Value → H} {W : World} {a : Option Addr} {len cap : Nat} {d : DataW H} {p : List MemPlace}
    (h : DataW.Trod enc Tryd.prog W 0 (fun _ => true) true 35 (.slice a len cap) d p) : ∃ l : List UInt8, l.length = len ∧ l.length ≤ 9223372036854775807 ∧ Rd W a l ∧ (a = none → cap = 0) ∧ l.length ≤ cap := by
  obtain ⟨l, h1, h2, h3⟩ := bytes_of_read h
  refine ⟨l, h1, h2, h3, ?_⟩
  obtain ⟨fuel, hf⟩ := h
  rcases open_ints Tryd.underlying35 Tryd.underlying5 (by kernel_rfl) hf with ⟨hcs, _⟩ | ⟨x, l', c, zs, hcs, _, hl, hm, hz, _, hcell, hwz⟩
  · simp [Value.cells] at hcs
    obtain ⟨rfl, rfl, rfl⟩ := hcs
    exact ⟨fun _ => rfl, by omega⟩
  · simp [Value.cells] at hcs
    obtain ⟨rfl, rfl, rfl⟩ := hcs
    exact ⟨fun e => (by cases e), by omega⟩

end Go.Proofs.YtpgcjljaokopaaaDoor
