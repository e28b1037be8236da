/- The document's end of a link in memory; last, kept. -/
import Derived.Test.YtmmkjphkfhgcpaaLinkCalls
namespace Go.Proofs.Ytmmkjphkfhgcpaa
set_option linter.unusedVariables false
open Go.RowKit

/-- the document's end: incarnation, all that was sent (and where), how much was acknowledged, what came by its number (and where), how much went on -/
structure RS where
  ep : Int
  sA : Option Addr
  sc : Nat
  S : Bodies
  ak : Int
  cA : Option Addr
  cc : Nat
  C : List (Int × Body)
  got : Int
def cameCells (C : List (Int × Body)) : List Value := C.flatMap fun x => [.int .i64 x.1, bv x.2]
theorem cameCells_len : ∀ (C : List (Int × Body)), (cameCells C).length = C.length * 2
  | [] => rfl
  | x :: r => by
    have := cameCells_len r
    simp only [cameCells, List.flatMap_cons, List.length_append, List.length_cons, List.length_nil] at this ⊢
    omega
theorem cameCells_at : ∀ (C : List (Int × Body)) (i : Nat) (x : Int × Body), C[i]? = some x → (cameCells C)[i * 2]? = some (.int .i64 x.1) ∧ (cameCells C)[i * 2 + 1]? = some (bv x.2)
  | [], _, _, h => by simp at h
  | y :: r, 0, x, h => by
    simp at h
    subst h
    simp [cameCells]
  | y :: r, i + 1, x, h => by
    have ih := cameCells_at r i x (by simpa using h)
    rw [show (i + 1) * 2 = i * 2 + 2 by omega]
    simpa [cameCells] using ih
def refCells (s : RS) : Array Value := #[.int .i64 s.ep, .slice s.sA s.S.length s.sc, .int .i64 s.ak, .slice s.cA s.C.length s.cc, .int .i64 s.got]
theorem refAt {w : World} {g : Nat} {t : TypeId} {s : RS} (h : Blk w g t (refCells s)) :
    w.cell? ⟨g, 0, none⟩ = some (.int .i64 s.ep) ∧ w.cell? ⟨g, 1, none⟩ = some (.slice s.sA s.S.length s.sc) ∧ w.cell? ⟨g, 2, none⟩ = some (.int .i64 s.ak) ∧ w.cell? ⟨g, 3, none⟩ = some (.slice s.cA s.C.length s.cc) ∧ w.cell? ⟨g, 4, none⟩ = some (.int .i64 s.got) :=
  ⟨h.cell 0, h.cell 1, h.cell 2, h.cell 3, h.cell 4⟩
structure RefAt (w : World) (B p : Nat) (s : RS) : Prop where
  blk : Blk w p 57 (refCells s)
  sent : w.ownsRow B 22 1 (.slice s.sA s.S.length s.sc) s.S.length (rowOf s.S)
  came : w.ownsRow B 71 2 (.slice s.cA s.C.length s.cc) s.C.length (cameCells s.C)
  lieS : ∀ x ∈ s.S, Okb w x
  lieC : ∀ x ∈ s.C, Okb w x.2
  ge : B ≤ p
def RFoot (p : Nat) (s : RS) (k : Nat) : Prop := k = p ∨ (Value.slice s.sA s.S.length s.sc).ownBlock = some k ∨ (Value.slice s.cA s.C.length s.cc).ownBlock = some k
theorem RefAt.only {S : Nat → Prop} {w w' : World} {B p : Nat} {s : RS} (h : RefAt w B p s) (ho : Only S w w') (hb : By w w') (hs : ∀ k, RFoot p s k → ¬ S k) : RefAt w' B p s :=
  ⟨h.blk.only ho (hs _ (.inl rfl)), own_only h.sent ho (fun k hk => hs k (.inr (.inl hk))), own_only h.came ho (fun k hk => hs k (.inr (.inr hk))), fun x hx => (h.lieS x hx).by hb, fun x hx => (h.lieC x hx).by hb, h.ge⟩
theorem RefAt.new {w w' : World} {B p : Nat} {s : RS} (h : RefAt w B p s) (hb : Below w.heap.size w w') : RefAt w' B p s :=
  h.only (S := fun _ => False) (Only.of_new hb) (By.of_new hb) (fun _ _ h => h)
theorem RefAt.mem {w : World} {B p : Nat} {s : RS} (h : RefAt w B p s) {k : Nat} (hk : RFoot p s k) : B ≤ k ∧ k < w.heap.size := by
  rcases hk with rfl | hk | hk
  · exact ⟨h.ge, h.blk.lt⟩
  · exact h.sent.lt k hk
  · exact h.came.lt k hk
theorem RefAt.drewN {w : World} {B p : Nat} {s : RS} (h : RefAt w B p s) (n : Nat) : RefAt (w.drewN n) B p s := ⟨h.blk, h.sent, h.came, h.lieS, h.lieC, h.ge⟩

def lastOf (s : RS) : Int := if (s.S.length : Int) - s.ak > 16 then s.ak + 16 else s.S.length
set_option maxHeartbeats 1000000 in
set_option maxRecDepth 20000 in
theorem last_any (B p : Nat) (s : RS) (w : World) (h : RefAt w B p s) (h1 : 0 ≤ s.ak) (h2 : s.ak ≤ 1099511627776) (h3 : s.S.length ≤ 1099511627776) :
    Calls Try.prog 28 #[.pointer (some ⟨p, 0, none⟩)] w fun e w' => e = .returned (.int .i64 (lastOf s)) ∧ ∃ n, w' = w.drewN n := by
  have fc := refAt h.blk
  have hw1 : IntKind.i64.wrap ((s.S.length : Int) - s.ak) = (s.S.length : Int) - s.ak := by rw [IntKind.wrap_i64]; omega
  have hw2 : IntKind.i64.wrap (s.ak + 16) = s.ak + 16 := by rw [IntKind.wrap_i64]; omega
  unfold lastOf
  by_cases hg : (s.S.length : Int) - s.ak > 16
  · rw [if_pos hg]
    have f1 : decide (16 < (s.S.length : Int) - s.ak) = true := decide_eq_true hg
    go_enter Try.func28, Try.ntmps28
    go_wp2_with fail
    go_quiet (fail)
    go_wp2_with fail
    go_ret
    exact ⟨rfl, _, rfl⟩
  · rw [if_neg hg]
    have f1 : decide (16 < (s.S.length : Int) - s.ak) = false := decide_eq_false hg
    go_enter Try.func28, Try.ntmps28
    go_wp2_with fail
    go_quiet (fail)
    go_wp2_with fail
    go_ret
    exact ⟨rfl, _, rfl⟩

/-- the body of a number that came -/
def keptOf (C : List (Int × Body)) (a : Int) : Option Body := (C.find? fun x => x.1 == a).map (·.2)
def keptFrom (C : List (Int × Body)) (a : Int) (k : Nat) : Option Body := keptOf (C.drop k) a
set_option maxHeartbeats 2000000 in
set_option maxRecDepth 20000 in
theorem kept_any (B p : Nat) (s : RS) (a : Int) (w : World) (h : RefAt w B p s) (h3 : s.C.length ≤ 1099511627776) :
    Calls Try.prog 29 #[.pointer (some ⟨p, 0, none⟩), .int .i64 a] w fun e w' => e = .returned (.tuple #[((keptOf s.C a).map bv).getD (.slice none 0 0), .bool (keptOf s.C a).isSome]) ∧ w = w' := by
  have fc := refAt h.blk
  have HC := hide h.came
  go_enter Try.func29, Try.ntmps29
  go_wp2_with fail
  go_loopw [6] (fun i wr => ∃ k : Nat, k ≤ s.C.length ∧ i = .int .i64 k ∧ wr = w ∧ keptOf s.C a = keptOf (s.C.drop k) a) (fun i _ => s.C.length - (intOf i).toNat)
  case atStart => exact ⟨0, by omega, rfl, rfl, rfl⟩
  case round =>
    obtain ⟨k, hk, rfl, rfl, hkp⟩ := hrel
    have HK := hide hkp
    clear hkp
    by_cases hlt : k < s.C.length
    · obtain ⟨x, hx⟩ : ∃ x, s.C[k]? = some x := ⟨s.C[k], List.getElem?_eq_getElem hlt⟩
      obtain ⟨g, cap, hv, _, _⟩ := (unhide HC).form (by omega)
      have hA : s.cA = some ⟨g, 0, none⟩ := by injection hv
      obtain ⟨a1, a2⟩ := cameCells_at s.C k x hx
      have HC2 := unhide HC
      rw [hA] at fc HC2
      have c1 : wr.cell? ⟨g, k * 2, none⟩ = some (.int .i64 x.1) := (HC2.cellAt (k * 2) (by omega)).trans a1
      have c2 : wr.cell? ⟨g, k * 2 + 1, none⟩ = some (.slice x.2.2.1 x.2.1.length x.2.2.2) := (HC2.cellAt (k * 2 + 1) (by omega)).trans a2
      have hdrop : s.C.drop k = x :: s.C.drop (k + 1) := by
        rw [List.drop_eq_getElem_cons hlt]
        congr 1
        rw [List.getElem?_eq_getElem hlt] at hx
        injection hx
      have HD := hide hdrop
      clear hx a1 a2 HC2 hv hdrop
      by_cases he : x.1 = a
      · have f1 : (x.1 == a) = true := beq_iff_eq.2 he
        have hres : keptOf s.C a = some x.2 := by rw [unhide HK, unhide HD, keptOf, List.find?_cons, f1]; rfl
        have HR := hide hres
        clear hres he
        go_wp2_with fail
        go_ret2
        exact ⟨by rw [unhide HR]; rfl, rfl⟩
      · have f1 : (x.1 == a) = false := beq_eq_false_iff_ne.2 he
        have hres : keptOf s.C a = keptOf (s.C.drop (k + 1)) a := by rw [unhide HK, unhide HD, keptOf, List.find?_cons, f1]; rfl
        have HR := hide hres
        clear hres he
        go_wp2_with fail
        exact ⟨⟨k + 1, by omega, by go_num, trivial, unhide HR⟩, by simp [intOf]; omega⟩
    · obtain rfl : k = s.C.length := by omega
      have hres : keptOf s.C a = none := by rw [unhide HK, List.drop_length]; rfl
      have HR := hide hres
      clear hres
      go_wp2_with fail
      go_ret2
      exact ⟨by rw [unhide HR]; rfl, rfl⟩
end Go.Proofs.Ytmmkjphkfhgcpaa
