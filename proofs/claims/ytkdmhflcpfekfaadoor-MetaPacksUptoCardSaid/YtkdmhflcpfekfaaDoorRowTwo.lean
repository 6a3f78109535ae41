/- How an argument that is a slice of extras or of copies is opened, with what it weighs. No function of the program. -/
import Derived.Test.YtkdmhflcpfekfaaDoorM2
import Derived.Test.YtkdmhflcpfekfaaDoorRows
import Derived.Test.YtkdmhflcpfekfaaDoorPure21
import Derived.ChangeSame
namespace Go.Proofs.YtkdmhflcpfekfaaDoor
set_option linter.unusedVariables false
set_option linter.unusedSimpArgs false
set_option maxRecDepth 100000
open Go.ChangeShapes Go.WideShapes Go.ChangeAt Go.RowKit Go.ChangeShapes

theorem bulk_mem {H : Type} : ∀ (l : List (DataW H)) (d : DataW H), d ∈ l → Rows.uptoBulk d ≤ Rows.uptoBulkAll l
  | [], d, h => by cases h
  | e :: r, d, h => by
    rw [Rows.uptoBulkAll]
    rcases List.mem_cons.1 h with rfl | h
    · omega
    · have := bulk_mem r d h; omega

/-- As sliceG_of_read, and each value with the data that it is read as. -/
theorem sliceD_of_read {α : Type} (K : Kd α) {H : Type} (R : α → DataW H → Prop) (hcell : Tryd.prog.cellsOf K.E = K.n) {enc : TypeId × Value → H} {W : World}
    (el : ∀ (base : Nat) (spare : Nat → Bool) (held : Bool) (fuel : Nat) (cs : List Value) (x : DataW H × List MemPlace), DataW.trod enc Tryd.prog W base spare held fuel K.E cs = some x → ∃ y, cs = K.cells y ∧ K.ok y ∧ R y x.1)
    {a : Option Addr} {len cap : Nat} {d : DataW H} {p : List MemPlace}
    (h : DataW.Trod enc Tryd.prog W 0 (fun _ => true) true K.T (.slice a len cap) d p) : ∃ l : List α, l.length = len ∧ l.length ≤ 9223372036854775807 ∧ RdG K W a l ∧ (∀ x ∈ l, ∃ e, R x e ∧ Rows.uptoBulk e ≤ Rows.uptoBulk d) ∧ l.length ≤ cap ∧ (a = none → cap = 0) := by
  obtain ⟨fuel, hf⟩ := h
  rcases Go.Deep.open_slice K.und hf with ⟨hcs, _⟩ | ⟨x, l, c, m, n, D, Pl, hcs, _, hl, hm, hmm, hxd, hi⟩
  · simp [Value.cells] at hcs
    obtain ⟨rfl, rfl, rfl⟩ := hcs
    exact ⟨[], rfl, by simp, .inl rfl, by simp, Nat.le_refl _, fun _ => rfl⟩
  · simp [Value.cells] at hcs
    obtain ⟨rfl, rfl, rfl⟩ := hcs
    have hmc : m = cap := by simpa using hmm
    have hd : d = .slice ((List.range len).map D) ((List.range (m - len)).map fun j => D (len + j)) := congrArg Prod.fst hxd
    have hpos := K.hn
    obtain ⟨its, hlen, hits⟩ := listOf (P := fun i (it : α) => (∀ j v, (K.cells it)[j]? = some v → W.cell? (x.add (i * K.n + j)) = some v) ∧ K.ok it ∧ (R it (D i) ∧ i < len)) len (fun i hil => by
      obtain ⟨cs', hc, ht⟩ := hi i (by omega)
      rw [hcell] at hc
      obtain ⟨_, hcl, hat⟩ := World.cells?_some hc
      obtain ⟨it, e, hok, hR⟩ := el _ _ _ _ _ _ ht
      refine ⟨it, fun j v hv => ?_, hok, hR, hil⟩
      have hj : j < K.n := by have := (List.getElem?_eq_some_iff.1 hv).1; rw [K.hlen it hok] at this; exact this
      have h1 := hat j hj
      rw [e, hv] at h1
      rw [← Go.Deep.add_add]
      exact h1)
    refine ⟨its, hlen, by unfold maxLen at hm; omega, ?_, fun y hy => ?_, by omega, fun e => by cases e⟩
    · by_cases h0 : len = 0
      · exact .inl (List.eq_nil_of_length_eq_zero (by omega))
      · obtain ⟨y, hy⟩ : ∃ y, its[0]? = some y := ⟨_, List.getElem?_eq_getElem (by omega)⟩
        obtain ⟨v0, hv0⟩ : ∃ v0, (K.cells y)[0]? = some v0 := ⟨_, List.getElem?_eq_getElem (by rw [K.hlen y (hits 0 y hy).2.1]; exact hpos)⟩
        have hc := (hits 0 y hy).1 0 _ hv0
        obtain ⟨b, o, spot⟩ := x
        have hspot : spot = none := by simpa [Addr.add] using World.cell?_spot hc
        subst hspot
        refine .inr ⟨b, o, rfl, fun k z hz j v hv => ?_⟩
        have := (hits k z hz).1 j v hv
        rw [Addr.add_mid] at this
        rw [Nat.add_assoc]
        exact this
    · obtain ⟨i, hy2⟩ := List.mem_iff_getElem?.1 hy
      obtain ⟨-, -, hR, hil⟩ := hits i y hy2
      refine ⟨D i, hR, ?_⟩
      rw [hd, Rows.uptoBulk]
      have := bulk_mem ((List.range len).map D) (D i) (List.mem_map.2 ⟨i, by simpa using hil, rfl⟩)
      omega

theorem cellsStringT : Tryd.prog.cellsOf 9 = 1 := by kernel_rfl
theorem cellsExtraT : Tryd.prog.cellsOf 28 = 2 := by kernel_rfl
theorem cellsCopyT : Tryd.prog.cellsOf 31 = 2 := by kernel_rfl

theorem two_of_trod {H : Type} {enc : TypeId × Value → H} {W : World} {base : Nat} {spare : Nat → Bool} {held : Bool} {n : Nat} {c0 c1 : Value} {y0 y1 : DataW H × List MemPlace}
    (h0 : DataW.trod enc Tryd.prog W base spare held n 9 [c0] = some y0) (h1 : DataW.trod enc Tryd.prog W base spare held n 9 [c1] = some y1) : ∃ i : Two, [c0, c1] = i.cells ∧ SizesLe (Rows.uptoBulk (.agg [y0.1, y1.1])) i := by
  obtain ⟨s, e0, d0, -⟩ := DataW.trod_string Tryd.underlying9 h0
  obtain ⟨r, e1, d1, -⟩ := DataW.trod_string Tryd.underlying9 h1
  refine ⟨⟨s, r⟩, ?_, ?_⟩
  · simp at e0 e1
    rw [e0, e1]
    rfl
  · have hs : s.data.toList.length = s.size := Array.length_toList
    have hr : r.data.toList.length = r.size := Array.length_toList
    subst d0
    subst d1
    simp only [SizesLe, Rows.uptoBulk, Rows.uptoBulkAll]
    omega
theorem extra_of_trod {H : Type} {enc : TypeId × Value → H} {W : World} {base : Nat} {spare : Nat → Bool} {held : Bool} {fuel : Nat} {cs : List Value} {x : DataW H × List MemPlace}
    (h : DataW.trod enc Tryd.prog W base spare held fuel 28 cs = some x) : ∃ i : Two, cs = i.cells ∧ SizesLe (Rows.uptoBulk x.1) i := by
  obtain ⟨y0, y1, n, rfl, hl, h0, h1⟩ := trod_struct2 Tryd.underlying28 h
  rw [cellsExtraT] at hl
  dsimp only at h0 h1
  rw [cellsStringT] at h0 h1
  match cs, hl with
  | [c0, c1], _ => exact two_of_trod h0 h1
theorem copy_of_trod {H : Type} {enc : TypeId × Value → H} {W : World} {base : Nat} {spare : Nat → Bool} {held : Bool} {fuel : Nat} {cs : List Value} {x : DataW H × List MemPlace}
    (h : DataW.trod enc Tryd.prog W base spare held fuel 31 cs = some x) : ∃ i : Two, cs = i.cells ∧ SizesLe (Rows.uptoBulk x.1) i := by
  obtain ⟨y0, y1, n, rfl, hl, h0, h1⟩ := trod_struct2 Tryd.underlying31 h
  rw [cellsCopyT] at hl
  dsimp only at h0 h1
  rw [cellsStringT] at h0 h1
  match cs, hl with
  | [c0, c1], _ => exact two_of_trod h0 h1

theorem extras_of_read {H : Type} {enc : TypeId × Value → H} {W : World} {a : Option Addr} {len cap : Nat} {d : DataW H} {p : List MemPlace}
    (h : DataW.Trod enc Tryd.prog W 0 (fun _ => true) true 22 (.slice a len cap) d p) : ∃ l : List Two, l.length = len ∧ l.length ≤ 9223372036854775807 ∧ RdG kExtra W a l ∧ (∀ x ∈ l, SizesLe (Rows.uptoBulk d) x) ∧ l.length ≤ cap ∧ (a = none → cap = 0) := by
  obtain ⟨l, h1, h2, h3, h4, h5, h6⟩ := sliceD_of_read kExtra (fun x e => SizesLe (Rows.uptoBulk e) x) cellsExtraT (fun base spare held fuel cs x h => by obtain ⟨y, h1, h2⟩ := extra_of_trod h; exact ⟨y, h1, trivial, h2⟩) h
  exact ⟨l, h1, h2, h3, fun x hx => by obtain ⟨e, he, hb⟩ := h4 x hx; exact he.mono hb, h5, h6⟩
theorem copies_of_read {H : Type} {enc : TypeId × Value → H} {W : World} {a : Option Addr} {len cap : Nat} {d : DataW H} {p : List MemPlace}
    (h : DataW.Trod enc Tryd.prog W 0 (fun _ => true) true 23 (.slice a len cap) d p) : ∃ l : List Two, l.length = len ∧ l.length ≤ 9223372036854775807 ∧ RdG kCopy W a l ∧ (∀ x ∈ l, SizesLe (Rows.uptoBulk d) x) ∧ l.length ≤ cap ∧ (a = none → cap = 0) := by
  obtain ⟨l, h1, h2, h3, h4, h5, h6⟩ := sliceD_of_read kCopy (fun x e => SizesLe (Rows.uptoBulk e) x) cellsCopyT (fun base spare held fuel cs x h => by obtain ⟨y, h1, h2⟩ := copy_of_trod h; exact ⟨y, h1, trivial, h2⟩) h
  exact ⟨l, h1, h2, h3, fun x hx => by obtain ⟨e, he, hb⟩ := h4 x hx; exact he.mono hb, h5, h6⟩

end Go.Proofs.YtkdmhflcpfekfaaDoor
