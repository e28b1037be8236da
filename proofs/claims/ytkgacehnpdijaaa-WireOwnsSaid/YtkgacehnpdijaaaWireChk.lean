/- What Check answers; the program's version and numbers. -/
import Derived.Test.YtkgacehnpdijaaaWireOpen
namespace Go.Proofs.Ytkgacehnpdijaaa.Wire
set_option linter.unusedVariables false

def chkV (v : Vr) : Int :=
  if 16 < v.key.data.toList.length ∨ 64 < v.val.data.toList.length then 6 else if v.dc < 0 ∨ 4 ≤ v.dc ∨ v.tx < 0 ∨ 1073741824 < v.tx then 1 else 0
def chkL : List Vr → Int
  | [] => 0
  | v :: r => if chkV v = 0 then chkL r else chkV v
def badN (n : Int) : Bool := decide (n < 0) || decide (255 < n)
def Cm.nums (c : Cm) : List Int := [c.kind, c.dc, c.shard, c.node, c.mode]
def chkOf (m : Ms) : Int :=
  if m.kind < 1 ∨ 26 < m.kind then 5
  else if 16 < m.lo.data.toList.length ∨ 16 < m.hi.data.toList.length ∨ 4096 < m.vers.length then 6
  else if chkL m.vers ≠ 0 then chkL m.vers
  else if 32 < m.vec.length then 6
  else if m.cmd.nums.any badN = true then 1
  else if 16 < m.cmd.key.data.toList.length then 6
  else 0
theorem chkV_iff (v : Vr) : chkV v = 0 ↔ GoodV v := by
  unfold chkV
  constructor
  · intro h
    by_cases h1 : 16 < v.key.data.toList.length ∨ 64 < v.val.data.toList.length
    · rw [if_pos h1] at h; cases h
    · rw [if_neg h1] at h
      by_cases h2 : v.dc < 0 ∨ 4 ≤ v.dc ∨ v.tx < 0 ∨ 1073741824 < v.tx
      · rw [if_pos h2] at h; cases h
      · exact ⟨by omega, by omega, by omega, by omega, by omega, by omega⟩
  · intro g
    have := g.key; have := g.val; have := g.d0; have := g.d1; have := g.t0; have := g.t1
    rw [if_neg (by omega), if_neg (by omega)]
theorem chkL_iff : ∀ (l : List Vr), chkL l = 0 ↔ ∀ v ∈ l, GoodV v
  | [] => ⟨fun _ v hv => by simp at hv, fun _ => rfl⟩
  | v :: r => by
    have ih := chkL_iff r
    unfold chkL
    by_cases h : chkV v = 0
    · rw [if_pos h]
      have hg := (chkV_iff v).1 h
      constructor
      · intro hr x hx
        rcases List.mem_cons.1 hx with rfl | hx
        · exact hg
        · exact ih.1 hr x hx
      · exact fun hx => ih.2 fun x hm => hx x (by simp [hm])
    · rw [if_neg h]
      exact ⟨fun h2 => absurd h2 h, fun hx => absurd ((chkV_iff v).2 (hx v (by simp))) h⟩
theorem badN_iff (n : Int) : badN n = false ↔ In8 n := by
  unfold badN In8
  simp
theorem nums_iff (c : Cm) : c.nums.any badN = false ↔ In8 c.kind ∧ In8 c.dc ∧ In8 c.shard ∧ In8 c.node ∧ In8 c.mode := by
  unfold Cm.nums
  simp only [List.any_cons, List.any_nil, Bool.or_false, Bool.or_eq_false_iff, badN_iff]
theorem chk_iff (m : Ms) : chkOf m = 0 ↔ Good m := by
  unfold chkOf
  constructor
  · intro h
    by_cases h1 : m.kind < 1 ∨ 26 < m.kind
    · rw [if_pos h1] at h; cases h
    rw [if_neg h1] at h
    by_cases h2 : 16 < m.lo.data.toList.length ∨ 16 < m.hi.data.toList.length ∨ 4096 < m.vers.length
    · rw [if_pos h2] at h; cases h
    rw [if_neg h2] at h
    by_cases h3 : chkL m.vers ≠ 0
    · rw [if_pos h3] at h; exact absurd h h3
    rw [if_neg h3] at h
    by_cases h4 : 32 < m.vec.length
    · rw [if_pos h4] at h; cases h
    rw [if_neg h4] at h
    by_cases h5 : m.cmd.nums.any badN = true
    · rw [if_pos h5] at h; cases h
    rw [if_neg h5] at h
    by_cases h6 : 16 < m.cmd.key.data.toList.length
    · rw [if_pos h6] at h; cases h
    obtain ⟨a, b, c, d, e⟩ := (nums_iff m.cmd).1 (by simpa using h5)
    exact ⟨by omega, by omega, by omega, by omega, by omega, (chkL_iff _).1 (by omega), by omega, ⟨a, b, c, d, e, by omega⟩⟩
  · intro g
    have h5 := (nums_iff m.cmd).2 ⟨g.cmd.kind, g.cmd.dc, g.cmd.shard, g.cmd.node, g.cmd.mode⟩
    rw [if_neg (by have := g.k0; have := g.k1; omega), if_neg (by have := g.lo; have := g.hi; have := g.nv; omega), if_neg (by have := (chkL_iff _).2 g.vers; omega), if_neg (by have := g.nc; omega), if_neg (by rw [h5]; decide), if_neg (by have := g.cmd.key; omega)]
end Go.Proofs.Ytkgacehnpdijaaa.Wire
