/- Several texts in one: RowWords, RowBytesC, RowG, RowIdn, RowErr, RowRec. -/
import Derived.Test.YtemojhcbhljemaaGreatDoorM1
import Derived.ProofKit
import Derived.OpenShut
import Derived.Deep.Slices
import Derived.Test.YtemojhcbhljemaaGreatDoorIdent1
import Derived.Test.YtemojhcbhljemaaGreatDoorM3
import Derived.Stop.LaidErr
import Derived.Test.YtemojhcbhljemaaGreatDoorCom2
import Derived.Lib.SmallJoins

/- Words that the rows of this seat share: how arguments are opened, and the world for a row's witness. No function of the program. -/
namespace Go.Proofs.YtemojhcbhljemaaGreatDoor
set_option linter.unusedVariables false
set_option linter.unusedSimpArgs false
set_option maxRecDepth 100000
open Go.ChangeShapes Go.WideShapes Go.ChangeAt Go.RowKit

/-- A package-level variable set to cells. -/
def setG (w : World) (g : Nat) (cs : List Value) : World := { w with heap := w.heap.modify g fun
  | .cells _ t frozen => .cells cs.toArray t frozen
  | o => o }

theorem own : ownKnob Tryz.prog.godebug = none := by kernel_rfl
theorem laidOut : laidOutB Tryz.prog = true := by kernel_rfl

/-- What an argument that is a slice of bytes is told as. -/
theorem rd_of_ints {W : World} {x : Addr} {l c : Nat} {zs : List Int} (hl : l ≤ c) (hz : zs.length = c) (hcell : ∀ i, i < zs.length → W.cell? (x.add i) = some (.int .u8 (zs.getD i 0))) (hwz : ∀ n ∈ zs, (Lit.int .u8 n).wf = true) :
    ∃ bs : List UInt8, bs.length = l ∧ Rd W (some x) bs := by
  refine ⟨(zs.take l).map fun n => UInt8.ofNat n.toNat, by simp [List.length_take]; omega, ?_⟩
  by_cases h0 : l = 0
  · subst h0; exact .inl rfl
  · obtain ⟨b, o, spot⟩ := x
    have hc := hcell 0 (by omega)
    have hspot : spot = none := by simpa [Addr.add] using World.cell?_spot hc
    subst hspot
    refine .inr ⟨b, o, rfl, block_lt_of_cell hc, fun i hi => ?_⟩
    have hi' : i < l := by simpa [List.length_take, hz, Nat.min_eq_left hl] using hi
    have h1 := hcell i (by omega)
    rw [Addr.add_mid] at h1
    rw [h1]
    have hm : zs.getD i 0 ∈ zs := by rw [List.getD_eq_getElem?_getD, List.getElem?_eq_getElem (by omega)]; exact List.getElem_mem _
    have hb := hwz _ hm
    simp [Lit.wf, IntKind.min, IntKind.max, IntKind.signed, IntKind.bits] at hb
    have e : ((zs.take l).map fun n => UInt8.ofNat n.toNat).getD i 0 = UInt8.ofNat (zs.getD i 0).toNat := by
      simp [List.getD_eq_getElem?_getD, List.getElem?_take, hi', List.getElem?_eq_getElem (show i < zs.length by omega)]
    rw [e]
    congr 2
    simp [UInt8.toNat_ofNat']
    omega

/-- The same, said of the argument's reading. -/
theorem bytes_of_read {H : Type} {enc : TypeId × Value → H} {W : World} {a : Option Addr} {len cap : Nat} {d : DataW H} {p : List MemPlace}
    (h : DataW.Trod enc Tryz.prog W 0 (fun _ => true) true 29 (.slice a len cap) d p) : ∃ l : List UInt8, l.length = len ∧ l.length ≤ 9223372036854775807 ∧ Rd W a l := by
  obtain ⟨fuel, hf⟩ := h
  rcases open_ints Tryz.underlying29 Tryz.underlying5 (by kernel_rfl) hf with ⟨hcs, _⟩ | ⟨x, l, c, zs, hcs, _, hl, hm, hz, _, hcell, hwz⟩
  · simp [Value.cells] at hcs
    obtain ⟨rfl, rfl, rfl⟩ := hcs
    exact ⟨[], rfl, by simp, .inl rfl⟩
  · simp [Value.cells] at hcs
    obtain ⟨rfl, rfl, rfl⟩ := hcs
    obtain ⟨bs, hb1, hb2⟩ := rd_of_ints hl (by simpa using hz) hcell hwz
    exact ⟨bs, hb1, by unfold maxLen at hm; omega, hb2⟩

theorem int_of_wf {x : Int} (h : (Lit.int .i64 x).wf = true) : -9223372036854775808 ≤ x ∧ x ≤ 9223372036854775807 := by
  simp [Lit.wf, IntKind.min, IntKind.max, IntKind.signed, IntKind.bits] at h
  exact ⟨by omega, by omega⟩
theorem byte_of_wf' {x : Int} (h : (Lit.int .u8 x).wf = true) : 0 ≤ x ∧ x ≤ 255 := by
  simp [Lit.wf, IntKind.min, IntKind.max, IntKind.signed, IntKind.bits] at h
  exact ⟨by omega, by omega⟩

theorem cellsId : Tryz.prog.cellsOf 23 = 20 := by kernel_rfl
theorem cellsU8' : Tryz.prog.cellsOf 5 = 1 := by kernel_rfl
/-- Cells that read as an id are twenty bytes. -/
theorem id_of_trod {H : Type} {enc : TypeId × Value → H} {W : World} {base : Nat} {spare : Nat → Bool} {held : Bool} {fuel : Nat} {cs : List Value} {x : DataW H × List MemPlace}
    (h : DataW.trod enc Tryz.prog W base spare held fuel 23 cs = some x) : ∃ l : List UInt8, cs = Lib.byteCells l ∧ l.length = 20 := by
  obtain ⟨xs, m, -, -, hl, hn, hi⟩ := DataW.trod_array Tryz.underlying23 h
  rw [cellsId] at hl
  have key : ∀ i, i < 20 → ∃ b : UInt8, cs[i]? = some (.int .u8 (b.toNat : Int)) := by
    intro i h20
    have h1 := hi i h20
    rw [cellsU8', Nat.mul_one, List.getElem?_eq_getElem (by omega)] at h1
    obtain ⟨n, h2, -, hw⟩ := DataW.trod_int Tryz.underlying5 h1
    have hb := byte_of_wf' hw
    have hlt : i < cs.length := by omega
    refine ⟨UInt8.ofNat n.toNat, ?_⟩
    rw [List.drop_eq_getElem_cons hlt, List.take_succ_cons, List.take_zero] at h2
    have h3 : cs[i] = .int .u8 n := by injection h2
    have h4 : n = ((UInt8.ofNat n.toNat).toNat : Int) := by rw [UInt8.toNat_ofNat']; omega
    rw [List.getElem?_eq_getElem hlt, h3, ← h4]
  refine ⟨(List.range 20).map fun i => match cs[i]? with | some (Value.int IntKind.u8 n) => UInt8.ofNat n.toNat | _ => 0, ?_, by simp⟩
  apply List.ext_getElem?
  intro i
  by_cases h20 : i < 20
  · obtain ⟨b, hb⟩ := key i h20
    rw [hb, byteCells_getElem?]
    simp [h20, hb]
  · rw [List.getElem?_eq_none (by omega), List.getElem?_eq_none (by simp [Lib.byteCells_length]; omega)]

theorem id_of_read {H : Type} {enc : TypeId × Value → H} {W : World} {base : Nat} {v : Value} {d : DataW H} {p : List MemPlace} (hv : Value.okWide Tryz.prog W .any base 23 v)
    (h : DataW.Trod enc Tryz.prog W 0 (fun _ => true) true 23 v d p) : ∃ l : List UInt8, v = .agg (Lib.byteCells l).toArray ∧ l.length = 20 := by
  obtain ⟨cs, rfl⟩ : ∃ cs, v = .agg cs := by
    simp only [Value.okWide, Tryz.underlying23] at hv
    obtain ⟨cs, h1, _⟩ := hv
    exact ⟨cs, h1⟩
  obtain ⟨fuel, hf⟩ := h
  obtain ⟨l, h1, h2⟩ := id_of_trod hf
  refine ⟨l, ?_, h2⟩
  rw [← h1]
  simp [Value.cells]

end Go.Proofs.YtemojhcbhljemaaGreatDoor

/- How an argument that is a slice of bytes is opened, its capacity too. No function of the program. -/
namespace Go.Proofs.YtemojhcbhljemaaGreatDoor
set_option linter.unusedVariables false
set_option linter.unusedSimpArgs false
set_option maxRecDepth 100000
open Go.ChangeShapes Go.WideShapes Go.ChangeAt Go.RowKit

/-- What an argument that is a slice of bytes is told as, its capacity too. -/
theorem bytes_of_read' {H : Type} {enc : TypeId × Value → H} {W : World} {a : Option Addr} {len cap : Nat} {d : DataW H} {p : List MemPlace}
    (h : DataW.Trod enc Tryz.prog W 0 (fun _ => true) true 29 (.slice a len cap) d p) : ∃ l : List UInt8, l.length = len ∧ l.length ≤ 9223372036854775807 ∧ Rd W a l ∧ (a = none → cap = 0) ∧ l.length ≤ cap := by
  obtain ⟨l, h1, h2, h3⟩ := bytes_of_read h
  refine ⟨l, h1, h2, h3, ?_⟩
  obtain ⟨fuel, hf⟩ := h
  rcases open_ints Tryz.underlying29 Tryz.underlying5 (by kernel_rfl) hf with ⟨hcs, _⟩ | ⟨x, l', c, zs, hcs, _, hl, hm, hz, _, hcell, hwz⟩
  · simp [Value.cells] at hcs
    obtain ⟨rfl, rfl, rfl⟩ := hcs
    exact ⟨fun _ => rfl, by omega⟩
  · simp [Value.cells] at hcs
    obtain ⟨rfl, rfl, rfl⟩ := hcs
    exact ⟨fun e => (by cases e), by omega⟩

end Go.Proofs.YtemojhcbhljemaaGreatDoor

/- How an argument that is a slice of a kind of values is opened. No function of the program. -/
namespace Go.Proofs.YtemojhcbhljemaaGreatDoor
set_option linter.unusedVariables false
set_option linter.unusedSimpArgs false
set_option maxRecDepth 100000
open Go.ChangeShapes Go.WideShapes Go.ChangeAt Go.RowKit

theorem listOf {α : Type} {P : Nat → α → Prop} : ∀ n : Nat, (∀ i, i < n → ∃ x, P i x) → ∃ l : List α, l.length = n ∧ ∀ i x, l[i]? = some x → P i x
  | 0, _ => ⟨[], rfl, fun i x h => by simp at h⟩
  | n + 1, h => by
    obtain ⟨l, hl, hp⟩ := listOf n (fun i hi => h i (by omega))
    obtain ⟨x, hx⟩ := h n (by omega)
    refine ⟨l ++ [x], by simp [hl], fun i y hy => ?_⟩
    by_cases hi : i < l.length
    · rw [List.getElem?_append_left hi] at hy
      exact hp i y hy
    · rw [List.getElem?_append_right (by omega)] at hy
      have : i - l.length = 0 := by have := (List.getElem?_eq_some_iff.1 hy).1; simp at this; omega
      rw [this] at hy
      cases hy
      have : i = n := by omega
      subst this
      exact hx

theorem sliceG_of_read {α : Type} (K : Kd α) (R : α → Prop) (hcell : Tryz.prog.cellsOf K.E = K.n) {H : Type} {enc : TypeId × Value → H} {W : World}
    (el : ∀ (base : Nat) (spare : Nat → Bool) (held : Bool) (fuel : Nat) (cs : List Value) (x : DataW H × List MemPlace), DataW.trod enc Tryz.prog W base spare held fuel K.E cs = some x → ∃ y, cs = K.cells y ∧ K.ok y ∧ R y)
    {a : Option Addr} {len cap : Nat} {d : DataW H} {p : List MemPlace}
    (h : DataW.Trod enc Tryz.prog W 0 (fun _ => true) true K.T (.slice a len cap) d p) : ∃ l : List α, l.length = len ∧ l.length ≤ 9223372036854775807 ∧ RdG K W a l ∧ (∀ x ∈ l, K.ok x ∧ R x) ∧ l.length ≤ cap ∧ (a = none → cap = 0) := by
  obtain ⟨fuel, hf⟩ := h
  rcases Go.Deep.open_slice K.und hf with ⟨hcs, _⟩ | ⟨x, l, c, m, n, D, Pl, hcs, _, hl, hm, hmm, _, hi⟩
  · simp [Value.cells] at hcs
    obtain ⟨rfl, rfl, rfl⟩ := hcs
    exact ⟨[], rfl, by simp, .inl rfl, by simp, Nat.le_refl _, fun _ => rfl⟩
  · simp [Value.cells] at hcs
    obtain ⟨rfl, rfl, rfl⟩ := hcs
    have hmc : m = cap := by simpa using hmm
    have hpos := K.hn
    obtain ⟨its, hlen, hits⟩ := listOf (P := fun i (it : α) => (∀ j v, (K.cells it)[j]? = some v → W.cell? (x.add (i * K.n + j)) = some v) ∧ K.ok it ∧ R it) len (fun i hil => by
      obtain ⟨cs', hc, ht⟩ := hi i (by omega)
      rw [hcell] at hc
      obtain ⟨_, hcl, hat⟩ := World.cells?_some hc
      obtain ⟨it, e, hok, hR⟩ := el _ _ _ _ _ _ ht
      refine ⟨it, fun j v hv => ?_, hok, hR⟩
      have hj : j < K.n := by have := (List.getElem?_eq_some_iff.1 hv).1; rw [K.hlen it hok] at this; exact this
      have h1 := hat j hj
      rw [e, hv] at h1
      rw [← Go.Deep.add_add]
      exact h1)
    refine ⟨its, hlen, by unfold maxLen at hm; omega, ?_, fun y hy => by obtain ⟨i, hi⟩ := List.mem_iff_getElem?.1 hy; exact (hits i y hi).2, by omega, fun e => by cases e⟩
    by_cases h0 : len = 0
    · exact .inl (List.eq_nil_of_length_eq_zero (by omega))
    · obtain ⟨y, hy⟩ : ∃ y, its[0]? = some y := ⟨_, List.getElem?_eq_getElem (by omega)⟩
      obtain ⟨v0, hv0⟩ : ∃ v0, (K.cells y)[0]? = some v0 := ⟨_, List.getElem?_eq_getElem (by rw [K.hlen y (hits 0 y hy).2.1]; exact hpos)⟩
      have hc := (hits 0 y hy).1 0 _ hv0
      obtain ⟨b, o, spot⟩ := x
      have hspot : spot = none := by simpa [Addr.add] using World.cell?_spot hc
      subst hspot
      refine .inr ⟨b, o, rfl, fun k z hz j v hv => ?_⟩
      have := (hits k z hz).1 j v hv
      rw [Addr.add_mid] at this
      rw [Nat.add_assoc]
      exact this

end Go.Proofs.YtemojhcbhljemaaGreatDoor

/- How an argument that is an ident is opened. No function of the program. -/
namespace Go.Proofs.YtemojhcbhljemaaGreatDoor
set_option linter.unusedVariables false
set_option linter.unusedSimpArgs false
set_option maxRecDepth 100000
open Go.ChangeShapes Go.WideShapes Go.ChangeAt Go.RowKit

theorem cellsIntN : Tryz.prog.cellsOf 3 = 1 := by kernel_rfl
theorem cellsInt64N : Tryz.prog.cellsOf 2 = 1 := by kernel_rfl
theorem cellsStringN : Tryz.prog.cellsOf 9 = 1 := by kernel_rfl
theorem cellsIdn : Tryz.prog.cellsOf 26 = 4 := by kernel_rfl

theorem idn_of_trod {H : Type} {enc : TypeId × Value → H} {W : World} {base : Nat} {spare : Nat → Bool} {held : Bool} {fuel : Nat} {cs : List Value} {x : DataW H × List MemPlace}
    (h : DataW.trod enc Tryz.prog W base spare held fuel 26 cs = some x) : ∃ i : Idn, cs = i.cells ∧ i.name.size ≤ 9223372036854775807 ∧ i.email.size ≤ 9223372036854775807 := by
  obtain ⟨xs, m, -, -, hl, hn, hi⟩ := DataW.trod_struct Tryz.underlying26 h
  rw [cellsIdn] at hl
  have h0 : DataW.trod enc Tryz.prog W base spare held m 9 ((cs.drop 0).take (Tryz.prog.cellsOf 9)) = xs[0]? := hi 0 _ rfl
  have h1 : DataW.trod enc Tryz.prog W base spare held m 9 ((cs.drop 1).take (Tryz.prog.cellsOf 9)) = xs[1]? := hi 1 _ rfl
  have h2 : DataW.trod enc Tryz.prog W base spare held m 2 ((cs.drop 2).take (Tryz.prog.cellsOf 2)) = xs[2]? := hi 2 _ rfl
  have h3 : DataW.trod enc Tryz.prog W base spare held m 3 ((cs.drop 3).take (Tryz.prog.cellsOf 3)) = xs[3]? := hi 3 _ rfl
  rw [cellsIntN] at h3
  rw [cellsInt64N] at h2
  rw [cellsStringN] at h0 h1
  match cs, hl with
  | [c0, c1, c2, c3], hl =>
    have hn4 : xs.length = 4 := hn
    rw [List.getElem?_eq_getElem (by omega)] at h0 h1 h2 h3
    simp only [List.drop_zero, List.take_succ_cons, List.take_zero, List.drop_succ_cons] at h0 h1 h2 h3
    obtain ⟨s, e0, -, hs⟩ := DataW.trod_string Tryz.underlying9 h0
    obtain ⟨t, e1, -, ht⟩ := DataW.trod_string Tryz.underlying9 h1
    obtain ⟨n, e2, -, hw⟩ := DataW.trod_int Tryz.underlying2 h2
    obtain ⟨z, e3, -, hz⟩ := DataW.trod_int Tryz.underlying3 h3
    refine ⟨⟨s, t, n, z⟩, ?_, ?_, ?_⟩
    · unfold Idn.cells
      simp at e0 e1 e2 e3
      rw [e0, e1, e2, e3]
    · unfold maxLen at hs; exact hs
    · unfold maxLen at ht; exact ht

theorem idn_of_read {H : Type} {enc : TypeId × Value → H} {W : World} {base : Nat} {v : Value} {d : DataW H} {p : List MemPlace} (hv : Value.okWide Tryz.prog W .any base 26 v)
    (h : DataW.Trod enc Tryz.prog W 0 (fun _ => true) true 26 v d p) : ∃ i : Idn, v = .agg i.cells.toArray ∧ i.name.size ≤ 9223372036854775807 ∧ i.email.size ≤ 9223372036854775807 := by
  obtain ⟨cs, rfl, -⟩ := okWide_struct Tryz.underlying26 hv
  obtain ⟨fuel, hf⟩ := h
  obtain ⟨i, h1, h2⟩ := idn_of_trod hf
  refine ⟨i, ?_, h2⟩
  rw [← h1]
  simp [Value.cells]

end Go.Proofs.YtemojhcbhljemaaGreatDoor

/- The facts on which the variables strconv.ErrSyntax, strconv.ErrRange are read off a row's list. No function of the program. -/
namespace Go.Proofs.YtemojhcbhljemaaGreatDoor
set_option linter.unusedVariables false
set_option linter.unusedSimpArgs false
open Go.Shelf Go.RowKit

theorem gSyntaxErr : Tryz.prog.globalNamed "strconv.ErrSyntax" = some 4 := by kernel_rfl
theorem gSyntaxErrType : (Tryz.prog.globals[4]?).map (·.type) = some 48 := by kernel_rfl
theorem gRangeErr : Tryz.prog.globalNamed "strconv.ErrRange" = some 5 := by kernel_rfl
theorem gRangeErrType : (Tryz.prog.globals[5]?).map (·.type) = some 48 := by kernel_rfl
theorem cellsErrS : Tryz.prog.cellsOf 144 = 1 := by kernel_rfl
theorem cellsString : Tryz.prog.cellsOf 9 = 1 := by kernel_rfl
theorem starErr : "*" ++ "errors.errorString" = "*errors.errorString" := by decide
theorem rowErr (u : TypeId) (h : Tryz.prog.typeName? 3 u = some "*errors.errorString") : u = 142 :=
  typeName_ptr_named (nm := "errors.errorString") (by rw [starErr]; kernel_rfl) (by kernel_rfl) (by decide) u (by rw [starErr]; exact h)

theorem errSyntax_laid {W : World} {bs : List UInt8} (h : laidMet Tryz.prog [("strconv.ErrSyntax", .iface "*errors.errorString" (.ptr (.agg [.lit (.string bs)])))] W) : IfaceAt 4 W := by
  obtain ⟨a0, s0, hv0, -, -, -⟩ := laid_sentinel h gSyntaxErr gSyntaxErrType Tryz.underlying48 rowErr Tryz.underlying142 Tryz.underlying144 rfl rfl Tryz.underlying9 cellsErrS cellsString
  exact ⟨_, by have h0 := World.var?_cell gSyntaxErr hv0 0; simpa using h0, .inr ⟨_, _, rfl⟩⟩
theorem errRange_laid {W : World} {bs : List UInt8} (h : laidMet Tryz.prog [("strconv.ErrRange", .iface "*errors.errorString" (.ptr (.agg [.lit (.string bs)])))] W) : IfaceAt 5 W := by
  obtain ⟨a0, s0, hv0, -, -, -⟩ := laid_sentinel h gRangeErr gRangeErrType Tryz.underlying48 rowErr Tryz.underlying142 Tryz.underlying144 rfl rfl Tryz.underlying9 cellsErrS cellsString
  exact ⟨_, by have h0 := World.var?_cell gRangeErr hv0 0; simpa using h0, .inr ⟨_, _, rfl⟩⟩

end Go.Proofs.YtemojhcbhljemaaGreatDoor

/- How an argument that is a record is opened. No function of the program. -/
namespace Go.Proofs.YtemojhcbhljemaaGreatDoor
set_option linter.unusedVariables false
set_option linter.unusedSimpArgs false
set_option maxRecDepth 100000
open Go.ChangeShapes Go.WideShapes Go.ChangeAt Go.RowKit

theorem cellsRec : Tryz.prog.cellsOf 28 = 30 := by kernel_rfl
theorem cellsIdR : Tryz.prog.cellsOf 23 = 20 := by kernel_rfl
theorem cellsIdsR : Tryz.prog.cellsOf 24 = 1 := by kernel_rfl
theorem cut30 (cs : List Value) (h : cs.length = 30) : cs = (cs.drop 0).take 20 ++ ((cs.drop 20).take 1 ++ ((cs.drop 21).take 4 ++ ((cs.drop 25).take 4 ++ (cs.drop 29).take 1))) := by
  have e1 : cs.drop 20 = (cs.drop 20).take 1 ++ cs.drop 21 := by have := (List.take_append_drop 1 (cs.drop 20)).symm; rwa [List.drop_drop] at this
  have e2 : cs.drop 21 = (cs.drop 21).take 4 ++ cs.drop 25 := by have := (List.take_append_drop 4 (cs.drop 21)).symm; rwa [List.drop_drop] at this
  have e3 : cs.drop 25 = (cs.drop 25).take 4 ++ cs.drop 29 := by have := (List.take_append_drop 4 (cs.drop 25)).symm; rwa [List.drop_drop] at this
  have e4 : cs.drop 29 = (cs.drop 29).take 1 := by rw [List.take_of_length_le]; rw [List.length_drop, h]; decide
  have e0 := (List.take_append_drop 20 cs).symm
  rw [← e4, ← e3, ← e2, ← e1, List.drop_zero]
  exact e0
theorem rec_of_read {H : Type} {enc : TypeId × Value → H} {W : World} {base : Nat} {v : Value} {d : DataW H} {p : List MemPlace} (hv : Value.okWide Tryz.prog W .any base 28 v)
    (h : DataW.Trod enc Tryz.prog W 0 (fun _ => true) true 28 v d p) : ∃ (a : Option Addr) (r : Rec) (cap : Nat), v = .agg (r.cells (.slice a r.par.length cap)).toArray ∧ RdG kId W a r.par ∧ r.par.length ≤ cap ∧ r.par.length ≤ 9223372036854775807 ∧ r.tree.length = 20 ∧ (∀ x ∈ r.par, x.length = 20) ∧
      (r.au.name.size ≤ 9223372036854775807 ∧ r.au.email.size ≤ 9223372036854775807 ∧ r.co.name.size ≤ 9223372036854775807 ∧ r.co.email.size ≤ 9223372036854775807 ∧ r.text.size ≤ 9223372036854775807) ∧ (a = none → cap = 0) := by
  obtain ⟨cs0, rfl, -⟩ := okWide_struct Tryz.underlying28 hv
  obtain ⟨fuel, hf⟩ := h
  obtain ⟨xs, m, -, -, hl, hn, hi⟩ := DataW.trod_struct Tryz.underlying28 hf
  rw [cellsRec] at hl
  obtain ⟨cs, hcs⟩ : ∃ cs, (Value.agg cs0).cells.toList = cs := ⟨_, rfl⟩
  rw [hcs] at hl hi
  have h0 : DataW.trod enc Tryz.prog W 0 (fun _ => true) true m 23 ((cs.drop 0).take (Tryz.prog.cellsOf 23)) = xs[0]? := hi 0 _ rfl
  have h1 : DataW.trod enc Tryz.prog W 0 (fun _ => true) true m 24 ((cs.drop 20).take (Tryz.prog.cellsOf 24)) = xs[1]? := hi 1 _ rfl
  have h2 : DataW.trod enc Tryz.prog W 0 (fun _ => true) true m 26 ((cs.drop 21).take (Tryz.prog.cellsOf 26)) = xs[2]? := hi 2 _ rfl
  have h3 : DataW.trod enc Tryz.prog W 0 (fun _ => true) true m 26 ((cs.drop 25).take (Tryz.prog.cellsOf 26)) = xs[3]? := hi 3 _ rfl
  have h4 : DataW.trod enc Tryz.prog W 0 (fun _ => true) true m 9 ((cs.drop 29).take (Tryz.prog.cellsOf 9)) = xs[4]? := hi 4 _ rfl
  rw [cellsIdR] at h0
  rw [cellsIdsR] at h1
  rw [cellsIdn] at h2 h3
  rw [cellsStringN] at h4
  have hn5 : xs.length = 5 := hn
  rw [List.getElem?_eq_getElem (by omega)] at h0 h1 h2 h3 h4
  have hcut := cut30 cs hl
  obtain ⟨t, e0, h20⟩ := id_of_trod h0
  obtain ⟨a, ln, c, e1⟩ := Go.Joins.slice_form Tryz.underlying24 h1
  obtain ⟨i, e2, hi1, hi2⟩ := idn_of_trod h2
  obtain ⟨j, e3, hj1, hj2⟩ := idn_of_trod h3
  obtain ⟨s, e4, -, hs⟩ := DataW.trod_string Tryz.underlying9 h4
  rw [e1] at h1
  obtain ⟨l, hl1, hl2, hl3, hl4, hl5, hl6⟩ := sliceG_of_read kId (fun _ => True) cellsIdR (fun base spare held fuel cs x h => by obtain ⟨y, h1, h2⟩ := id_of_trod h; exact ⟨y, h1, h2, trivial⟩) (a := a) (len := ln) (cap := c) (d := xs[1].1) (p := xs[1].2) ⟨m, h1⟩
  subst hl1
  refine ⟨a, ⟨t, l, i, j, s⟩, c, ?_, hl3, hl5, hl2, h20, fun x hx => (hl4 x hx).1, ⟨hi1, hi2, hj1, hj2, by unfold maxLen at hs; exact hs⟩, hl6⟩
  rw [e0, e1, e2, e3, e4] at hcut
  have hc2 : cs = (⟨t, l, i, j, s⟩ : Rec).cells (.slice a l.length c) := by rw [hcut]; unfold Rec.cells; simp
  rw [← hc2, ← hcs]
  simp [Value.cells]

end Go.Proofs.YtemojhcbhljemaaGreatDoor
