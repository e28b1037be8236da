/- The document's end: In. -/
import Derived.Test.YtmmkjphkfhgcpaaLinkRefOut
import Derived.Deep.Cut
import Derived.Deep.CutRange
namespace Go.Proofs.Ytmmkjphkfhgcpaa
set_option linter.unusedVariables false
open Go.RowKit

/-- what the document's In answers, told of its end -/
def RefSays (s : RS) (e sq a : Int) (b : List UInt8) (s' : RS) (q : Bodies) (er : Int) : Prop :=
  s'.ep = s.ep ∧ s'.S = s.S ∧
  ((e ≠ s.ep ∧ er = 5 ∧ q = [] ∧ s' = s) ∨
  (e = s.ep ∧ (sq < 0 ∨ a < 0 ∨ lastOf s < a) ∧ er = 1 ∧ q = [] ∧ s' = s) ∨
  (e = s.ep ∧ 0 ≤ sq ∧ 0 ≤ a ∧ a ≤ lastOf s ∧ s'.ak = max s.ak a ∧
    ((sq ≤ s.got ∧ er = 0 ∧ q = [] ∧ s'.got = s.got ∧ s'.C = s.C) ∨ (s.got + 16 < sq ∧ er = 9 ∧ q = [] ∧ s'.got = s.got ∧ s'.C = s.C) ∨
      (s.got < sq ∧ sq ≤ s.got + 16 ∧ er = 0 ∧ s'.got = s.got + q.length ∧ (((keptOf s.C sq).isSome = true ∧ s'.C = s.C) ∨ (keptOf s.C sq = none ∧ ∃ x : Body, x.1 = b ∧ s'.C = s.C ++ [(sq, x)])) ∧
        (∀ (i : Nat) (x : Body), q[i]? = some x → keptOf s'.C (s.got + 1 + i) = some x) ∧ keptOf s'.C (s.got + 1 + q.length) = none))))
/-- what In leaves and answers -/
def RefIn (w : World) (B p : Nat) (s : RS) (e sq a : Int) (b : List UInt8) (en : Ending) (w' : World) : Prop :=
  ∃ (s' : RS) (q : Bodies) (Ao : Option Addr) (co : Nat) (er : Int), en = .returned (.tuple #[.slice Ao q.length co, .int .i64 er]) ∧ w'.ownsRow w.heap.size 22 1 (.slice Ao q.length co) q.length (rowOf q) ∧
    (∀ x ∈ q, Okb w' x) ∧ RefAt w' B p s' ∧ Only (RFoot p s) w w' ∧ By w w' ∧ RefSays s e sq a b s' q er ∧ s'.sA = s.sA ∧ s'.sc = s.sc ∧ s'.C.length ≤ s.C.length + 1
theorem refIn_same {w w' : World} {B p : Nat} {s : RS} {e sq a er : Int} {b : List UInt8} (h : RefAt w B p s) (hb : Below w.heap.size w w') (hs : RefSays s e sq a b s [] er) : RefIn w B p s e sq a b (.returned (.tuple #[.slice none 0 0, .int .i64 er])) w' :=
  ⟨s, [], none, 0, er, rfl, own_nil _ _ _ _, fun x hx => by simp at hx, h.new hb, Only.of_new hb, By.of_new hb, hs, rfl, rfl, Nat.le_succ _⟩

theorem quiet_off {P : Program} {f : FuncId} {args : Array Value} {w : World} {n x : Nat} {v : Value}
    (h : Calls P f args (w.drewN (n + x)) fun e w' => e = .returned v ∧ ∃ m, w' = (w.drewN (n + x)).drewN m) : Calls P f args (w.drewN (n + x)) fun e w'' => e = .returned v ∧ ∃ m, w'' = w.drewN (n + m) :=
  h.mono fun _ _ ⟨he, m, hm⟩ => ⟨he, x + m, by rw [hm, World.drewN_drewN, Nat.add_assoc]⟩
set_option maxHeartbeats 4000000 in
set_option maxRecDepth 20000 in
theorem refIn_bad (B p : Nat) (s : RS) (v e sq a : Int) (A : Option Addr) (b : List UInt8) (c : Nat) (w : World) (h : RefAt w B p s) (h1 : 0 ≤ s.ak) (h2 : s.ak ≤ 1000000) (h3 : s.S.length ≤ 1000000) (hbad : e ≠ s.ep ∨ sq < 0 ∨ a < 0 ∨ lastOf s < a) :
    Calls Try.prog 24 #[.pointer (some ⟨p, 0, none⟩), .agg #[.int .i64 v, .int .i64 e, .int .i64 sq, .int .i64 a, .slice A b.length c]] w (RefIn w B p s e sq a b) := by
  have HM0 := hide ((Mem.start w).new (t := 31) (cs := #[.int .i64 v, .int .i64 e, .int .i64 sq, .int .i64 a, .slice A b.length c]) w.heap.size rfl)
  have HA := hide (h.new (unhide HM0).below)
  have fc := refAt (unhide HA).blk
  have fd := Lnk.cellsAt (unhide HM0).blk0
  have HH := hide h
  have HL := hide (fun (u : World) (hu : RefAt u B p s) => last_any B p s u hu (by omega) (by omega) (by omega))
  clear h
  by_cases he : e = s.ep
  · have f0 : (e == s.ep) = true := beq_iff_eq.2 he
    have f0' : (e != s.ep) = false := by simp [he]
    have hb3 : sq < 0 ∨ a < 0 ∨ lastOf s < a := by
      rcases hbad with h | h
      · exact absurd he h
      · exact h
    have HSAYS := hide (show RefSays s e sq a b s [] 1 from ⟨rfl, rfl, .inr (.inl ⟨he, hb3, rfl, rfl, rfl⟩)⟩)
    clear hbad he
    obtain ⟨L, hL⟩ : ∃ L, lastOf s = L := ⟨_, rfl⟩
    rw [hL] at HL hb3
    clear hL
    by_cases c1 : sq < 0
    · go_enter Try.func24, Try.ntmps24
      go_wp2_with fail
      go_quiet (fail)
      go_wp2_with fail
      go_quiet (fail)
      go_wp2_with fail
      go_ret2
      exact refIn_same (unhide HH) (below_drewN' (below_drewN' (unhide HM0).below _) _) (unhide HSAYS)
    by_cases c2 : a < 0
    · go_enter Try.func24, Try.ntmps24
      go_wp2_with fail
      go_quiet (fail)
      go_wp2_with fail
      go_quiet (fail)
      go_wp2_with fail
      go_ret2
      exact refIn_same (unhide HH) (below_drewN' (below_drewN' (unhide HM0).below _) _) (unhide HSAYS)
    have c3 : L < a := by omega
    have f1 : decide (sq < 0) = false := decide_eq_false (by omega)
    have f2 : decide (a < 0) = false := decide_eq_false (by omega)
    have f3 : decide (L < a) = true := decide_eq_true c3
    go_enter Try.func24, Try.ntmps24
    go_wp2_with fail
    go_quiet (fail)
    go_wp2_with fail
    go_quiet (exact quiet_off (unhide HL _ ((unhide HA).drewN _)))
    go_wp2_with fail
    go_ret2
    exact refIn_same (unhide HH) (below_drewN' (below_drewN' (unhide HM0).below _) _) (unhide HSAYS)
  · have f0' : (e != s.ep) = true := by simp [he]
    have HSAYS := hide (show RefSays s e sq a b s [] 5 from ⟨rfl, rfl, .inl ⟨he, rfl, rfl, rfl⟩⟩)
    clear hbad he
    go_enter Try.func24, Try.ntmps24
    go_wp2_with fail
    go_quiet (fail)
    go_wp2_with fail
    go_ret2
    exact refIn_same (unhide HH) (below_drewN' (unhide HM0).below _) (unhide HSAYS)
end Go.Proofs.Ytmmkjphkfhgcpaa
