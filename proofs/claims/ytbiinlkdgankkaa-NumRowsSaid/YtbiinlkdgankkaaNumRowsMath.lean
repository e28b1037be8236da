/- Rows of numbers, in plain words. -/
import Derived.Test.YtbiinlkdgankkaaNumIter
namespace Go.Proofs.Ytbiinlkdgankkaa.Num
set_option linter.unusedVariables false

def rows (l : List Nat) : List UInt8 := l.flatMap uv
theorem rows_append (a b : List Nat) : rows (a ++ b) = rows a ++ rows b := by simp [rows]
theorem rows_split (l : List Nat) (i : Nat) : rows l = rows (l.take i) ++ rows (l.drop i) := by rw [← rows_append, List.take_append_drop]
theorem rows_drop (l : List Nat) (i : Nat) : (rows l).drop (rows (l.take i)).length = rows (l.drop i) := by
  rw [rows_split l i, List.drop_left]
theorem rows_cons (n : Nat) (l : List Nat) : rows (n :: l) = uv n ++ rows l := by simp [rows]
theorem rows_succ (l : List Nat) {i : Nat} (hi : i < l.length) : rows (l.take (i + 1)) = rows (l.take i) ++ uv l[i] := by
  rw [List.take_add_one, List.getElem?_eq_getElem hi, rows_append]
  simp [rows]
theorem take_rows {l : List Nat} (hl : ∀ n ∈ l, n < 18446744073709551616) {i : Nat} (hi : i < l.length) : take ((rows l).drop (rows (l.take i)).length) = (l[i], (uv l[i]).length, 0) := by
  rw [rows_drop, List.drop_eq_getElem_cons hi, rows_cons]
  exact take_uv (hl _ (List.getElem_mem _)) _
theorem rows_len : ∀ (l : List Nat), (∀ n ∈ l, n < 18446744073709551616) → (rows l).length ≤ 10 * l.length
  | [], _ => by simp [rows]
  | n :: l, h => by
    rw [rows_cons, List.length_append, List.length_cons]
    have h1 := uv_len64 (h n (by simp))
    have h2 := rows_len l (fun m hm => h m (by simp [hm]))
    omega
/-- what has come of a row of written numbers is a beginning of them -/
theorem reach_rows {l : List Nat} (hl : ∀ n ∈ l, n < 18446744073709551616) {pre : List (Nat × Nat)} {p : Nat} (h : Reach (rows l) pre p) :
    pre.length ≤ l.length ∧ p = (rows (l.take pre.length)).length ∧ pre.map (·.2) = l.take pre.length := by
  induction h with
  | nil => simp [rows]
  | @more pre p n k h1 h2 h3 ih =>
    obtain ⟨i1, rfl, i3⟩ := ih
    by_cases hi : pre.length < l.length
    · rw [take_rows hl hi] at h3
      simp only [Prod.mk.injEq, and_true] at h3
      obtain ⟨rfl, rfl⟩ := h3
      refine ⟨by simp; omega, ?_, ?_⟩
      · rw [List.length_append, List.length_singleton, rows_succ l hi, List.length_append]
      · rw [List.map_append, i3, List.length_append, List.length_singleton, List.take_add_one, List.getElem?_eq_getElem hi]
        rfl
    · exfalso
      have e : l.take pre.length = l := List.take_of_length_le (by omega)
      rw [e] at h2
      omega
theorem stops_rows {l : List Nat} (hl : ∀ n ∈ l, n < 18446744073709551616) {pre : List (Nat × Nat)} {p : Nat} (h : Reach (rows l) pre p) (hs : Stops (rows l) p) : pre.length = l.length := by
  obtain ⟨h1, rfl, _⟩ := reach_rows hl h
  apply Classical.byContradiction
  intro hne
  have hi : pre.length < l.length := by omega
  rcases hs with hs | hs
  · have := congrArg List.length (rows_split l pre.length)
    rw [List.length_append, List.drop_eq_getElem_cons hi, rows_cons, List.length_append] at this
    have := uv_ne l[pre.length]
    omega
  · rw [take_rows hl hi] at hs
    exact hs rfl
end Go.Proofs.Ytbiinlkdgankkaa.Num
