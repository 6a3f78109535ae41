/- A place of a slice that the call made itself is written anew. No function of the program. -/
import Derived.Test.YtemojhcbhljemaaDoorGen
namespace Go.Proofs.YtemojhcbhljemaaDoor
set_option linter.unusedVariables false
set_option linter.unusedSimpArgs false
open Go.RowKit

variable {α : Type} {K : Kd α}
theorem row_set (l : List α) (hl : ∀ x ∈ l, K.ok x) (k : Nat) (hk : k < l.length) (x : α) (hx : K.ok x) : (K.row l).take (k * K.n) ++ K.cells x ++ (K.row l).drop (k * K.n + (K.cells x).length) = K.row (l.set k x) := by
  have hc := K.hlen x hx
  obtain ⟨y, hy⟩ : ∃ y, l[k]? = some y := ⟨_, List.getElem?_eq_getElem hk⟩
  have hsp : l = l.take k ++ y :: l.drop (k + 1) := by
    conv => lhs; rw [← List.take_append_drop k l, List.drop_eq_getElem_cons hk]
    rw [(List.getElem?_eq_some_iff.1 hy).2]
  have h1 : (K.row (l.take k)).length = k * K.n := by
    rw [row_len K _ (fun z hz => hl z (List.mem_of_mem_take hz)), List.length_take]
    congr 1
    omega
  have hyc := K.hlen y (hl y (List.mem_of_getElem? hy))
  have h2 : K.row l = K.row (l.take k) ++ (K.cells y ++ K.row (l.drop (k + 1))) := by
    conv => lhs; rw [hsp]
    rw [row_app]
    rfl
  have h3 : l.set k x = l.take k ++ x :: l.drop (k + 1) := by
    rw [List.set_eq_take_append_cons_drop, if_pos hk]
  rw [h2, h3, row_app, hc, List.take_left' h1, List.drop_append, List.drop_of_length_le (by omega), List.nil_append, h1, show k * K.n + K.n - k * K.n = K.n by omega, List.drop_left' hyc, List.append_assoc]
  rfl
theorem OwnG.store {w : World} {base g cap : Nat} {l : List α} (h : OwnG K w base (.slice (some ⟨g, 0, none⟩) l.length cap) l) (k : Nat) (hk : k < l.length) (x : α) (hx : K.ok x) :
    ∃ cur, w.heap[g]? = some (.cells cur K.E (0, 0)) ∧ k * K.n + (K.cells x).length ≤ cur.size ∧ OwnG K (w.setRow g (cur.toList.take (k * K.n) ++ K.cells x ++ cur.toList.drop (k * K.n + (K.cells x).length)).toArray) base (.slice (some ⟨g, 0, none⟩) l.length cap) (l.set k x) := by
  obtain ⟨h1, h2, h3⟩ := h
  rcases h3 with ⟨hv, _⟩ | ⟨g', cap', cur, hv, hb, hg, hnc, hcm, hcs, ht⟩
  · cases hv
  simp only [Value.slice.injEq, Option.some.injEq, Addr.mk.injEq, and_true, true_and] at hv
  obtain ⟨rfl, rfl⟩ := hv
  have hc := K.hlen x hx
  have hle : k * K.n + K.n ≤ l.length * K.n := by
    have := Nat.mul_le_mul_right K.n (show k + 1 ≤ l.length from hk)
    rw [Nat.add_mul, Nat.one_mul] at this
    exact this
  have hle2 : l.length * K.n ≤ cap * K.n := Nat.mul_le_mul_right _ hnc
  have hsz : k * K.n + (K.cells x).length ≤ cur.size := by rw [hc, hcs]; omega
  refine ⟨cur, hg, hsz, fun y hy => ?_, ?_, .inr ⟨g, cap, _, by rw [List.length_set], hb, setRow_heap w g cur _ _ _ hg, by rw [List.length_set]; exact hnc, hcm, ?_, ?_⟩⟩
  · rcases List.mem_or_eq_of_mem_set hy with h | h
    · exact h1 y h
    · subst h; exact hx
  · rw [List.length_set, row_len K]
    · rw [List.length_set]
    · intro y hy
      rcases List.mem_or_eq_of_mem_set hy with h | h
      · exact h1 y h
      · subst h; exact hx
  · have hcl : cur.toList.length = cur.size := Array.length_toList
    rw [List.size_toArray, List.length_append, List.length_append, List.length_take, List.length_drop, hc, hcl, hcs]
    omega
  · rw [List.length_set, ← row_set l h1 k hk x hx, ← ht, hc]
    have hcl : cur.toList.length = cur.size := Array.length_toList
    rw [List.toList_toArray, List.take_take, Nat.min_eq_left (by omega), List.drop_take]
    have e1 : (cur.toList.take (k * K.n) ++ K.cells x).length = k * K.n + K.n := by rw [List.length_append, List.length_take, hc, hcl]; omega
    rw [List.take_append, List.take_of_length_le (by omega), e1]

theorem OwnG.form {w : World} {base : Nat} {v : Value} {l : List α} (h : OwnG K w base v l) (hn : 0 < l.length) : ∃ g cap, v = .slice (some ⟨g, 0, none⟩) l.length cap ∧ base ≤ g ∧ g < w.heap.size ∧ l.length ≤ cap := by
  have hlt := h.lt
  obtain ⟨h1, h2, h3⟩ := h
  rcases h3 with ⟨rfl, h0⟩ | ⟨g, cap, cur, rfl, hb, hg, hnc, hcm, hcs, ht⟩
  · omega
  · exact ⟨g, cap, rfl, hb, (hlt g rfl).2, hnc⟩
theorem OwnG.range {w : World} {base g cap : Nat} {l : List α} (h : OwnG K w base (.slice (some ⟨g, 0, none⟩) l.length cap) l) {k : Nat} {x : α} (hx : l[k]? = some x) : w.rangeAt g (k * K.n) (K.cells x) := by
  obtain ⟨p, c, hv, hr, hc, -⟩ := h.val
  cases hv
  rcases hr with rfl | ⟨b, o, e, hr⟩
  · simp at hx
  · cases e
    have := hr k x hx
    rwa [Nat.zero_add] at this

end Go.Proofs.YtemojhcbhljemaaDoor
