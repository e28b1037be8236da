/- The frame of every law of this seat: from a contract of the law's call, over arguments that came in, to the given statement. -/
import Derived.Test.YtbiinlkdgankkaaBase
import Derived.JoinedCond
import Derived.SizedLaws
import Derived.Deep.CondSized
import Derived.ChangeOld
import Derived.ShutString
namespace Go.Proofs.Ytbiinlkdgankkaa
set_option linter.unusedVariables false
open Go.ChangeShapes Go.WideShapes Go.ChangeAt Go.RowKit

theorem Try.own_ : ownKnob Try.prog.godebug = none := by kernel_rfl
theorem Try.laidOut_ : laidOutB Try.prog = true := by kernel_rfl

/-- A value that came in as an argument of type t: it reads as a datum that takes no more memory than there is, and 'k' holds of the datum. -/
def Came {H : Type} (enc : TypeId × Value → H) (P : Program) (W : World) (k : DataW H → Prop) (t : TypeId) (v : Value) : Prop :=
  ∃ d p base, DataW.Trod enc P W 0 (fun _ => true) true t v d p ∧ Value.okWide P W .any base t v ∧ (∀ n ∈ d.weights P t, n ≤ reachBytes) ∧ k d

theorem trodAll_below {H : Type} {enc : TypeId × Value → H} {P : Program} (hl : laidOutB P = true) {W W' : World} (hb : Below W.heap.size W W') :
    ∀ {ts : List TypeId} {vs : List Value} {ds : List (DataW H)} {ps : List MemPlace}, (∀ t ∈ ts, P.readableRec t = true ∧ t < P.types.size) → (∀ x ∈ ps, x.block < W.heap.size) →
      DataW.TrodAll enc P W 0 (fun _ => true) true ts vs ds ps → DataW.TrodAll enc P W' 0 (fun b => decide (b < W.heap.size)) true ts vs ds ps
  | [], vs, ds, ps, _, _, h => by
    obtain ⟨rfl, rfl, rfl⟩ := trodAll_nil h
    exact trodAll_mk0
  | t :: ts, vs, ds, ps, ht, hp, h => by
    obtain ⟨v, vs', d, ds', p, q, rfl, rfl, rfl, h1, h2⟩ := trodAll_cons h
    obtain ⟨hr, hs⟩ := ht t (by simp)
    exact trodAll_cons_mk (Below.trod hl hr hs h1 hb fun x hx => hp x (by simp [hx]))
      (trodAll_below hl hb (fun u hu => ht u (by simp [hu])) (fun x hx => hp x (by simp [hx])) h2)

theorem trodAll_len {H : Type} {enc : TypeId × Value → H} {P : Program} {W : World} {base : Nat} {sp : Nat → Bool} {hd : Bool} :
    ∀ {ts : List TypeId} {vs : List Value} {ds : List (DataW H)} {ps : List MemPlace}, DataW.TrodAll enc P W base sp hd ts vs ds ps → vs.length = ts.length ∧ ds.length = ts.length
  | [], vs, ds, ps, h => by obtain ⟨rfl, rfl, rfl⟩ := trodAll_nil h; exact ⟨rfl, rfl⟩
  | t :: ts, vs, ds, ps, h => by
    obtain ⟨v, vs', d, ds', p, q, rfl, rfl, rfl, _, h2⟩ := trodAll_cons h
    have := trodAll_len h2
    simp [this]

theorem trodAll_get {H : Type} {enc : TypeId × Value → H} {P : Program} {W : World} {base : Nat} {sp : Nat → Bool} {hd : Bool} :
    ∀ {ts : List TypeId} {vs : List Value} {ds : List (DataW H)} {ps : List MemPlace}, DataW.TrodAll enc P W base sp hd ts vs ds ps → ∀ (j : Nat) (t : TypeId) (v : Value), ts[j]? = some t → vs[j]? = some v →
      ∃ d p, ds[j]? = some d ∧ DataW.Trod enc P W base sp hd t v d p
  | [], vs, ds, ps, _, j, t, v, ht, _ => by simp at ht
  | t :: ts, vs, ds, ps, h, j, u, x, ht, hv => by
    obtain ⟨v, vs', d, ds', p, q, rfl, rfl, rfl, h1, h2⟩ := trodAll_cons h
    cases j with
    | zero => simp at ht hv; subst ht hv; exact ⟨d, p, by simp, h1⟩
    | succ j => simp at ht hv; simpa using trodAll_get h2 j u x ht hv

theorem bulk_mem {H : Type} {d : DataW H} {l : List (DataW H)} (h : d ∈ l) : Rows.uptoBulk d ≤ Rows.uptoBulkAll l := by
  induction l with
  | nil => cases h
  | cons x r ih =>
    simp only [Rows.uptoBulkAll]
    cases List.mem_cons.1 h with
    | inl e => subst e; omega
    | inr e => have := ih e; omega

section
variable {H : Type} {enc : TypeId × Value → H} {f : FuncId} {fn : Func} {s : ChangeSpec} {tb : TypeId}

/-- What the four facts on a law's specification say: it answers true, and hands the arguments back. -/
structure IsLaw (fn : Func) (s : ChangeSpec) (tb : TypeId) : Prop where
  vars : s.vars = []
  fn_ : ∀ (H : Type) (ds : List (DataW H)), ds.length = fn.params.size → (s.fn H ds).results = [.lit (.bool true)] ∧ (s.fn H ds).args = ds ∧ (s.fn H ds).vars = []
  res : fn.resultTypes = #[tb]
  bool_ : Try.prog.underlying tb = some .bool
  read : ∀ t ∈ fn.params.toList, Try.prog.readableRec t = true ∧ t < Try.prog.types.size

theorem law_post (hL : IsLaw fn s tb) {W W' : World} {args : Array Value} {ds gs : List (DataW H)} {before : List MemPlace}
    (hW : DataW.Whole enc Try.prog fn.params.toList s.vars false W args.toList ds gs before) (hb : Below W.heap.size W W') :
    s.post enc Try.prog fn false true false false W args (.bool true) W' := by
  have hW' := hW
  obtain ⟨p, q, hA, hV, rfl, hfz, hnd⟩ := hW
  rw [hL.vars] at hV
  obtain ⟨rfl, rfl⟩ := trodVars_none hV
  have hlen := trodAll_len hA
  have hlt : ∀ x ∈ p, x.block < W.heap.size := fun x hx => hW'.lt x (by simp [hx])
  obtain ⟨e1, e2, e3⟩ := hL.fn_ H ds (by simpa using hlen.2)
  refine ⟨ds, [], _, [], p, [], hW', ?_, ?_, ?_, hb.frame _, fun h => by cases h⟩
  · rw [List.append_nil, e1, hL.res]
    exact trodAll_mk1 (shut_bool hL.bool_ _)
  · rw [List.append_nil, e2]
    exact trodAll_below Try.laidOut_ hb hL.read hlt hA
  · rw [List.append_nil, e3, hL.vars]
    rfl

/-- THE FIRST FORM. -/
theorem law_lifted (hL : IsLaw fn s tb) (hfn : Try.prog.funcs[f]? = some fn) (noInit : Try.prog.inits.idxOf? f = none) {os : Os} (started : os.Started)
    (witness : ∃ (w : World) (tape : Tape) (i : Input), w.os = os ∧ (w.forCall tape i).Shaped Try.prog ∧ i.vars = [] ∧ Input.okWide Try.prog (w.forCall tape i) .any w.heap.size f i ∧
      s.pre6 enc Try.prog fn [] false (w.forCall tape i).memory i.args ∧ ({} : Assume).holds Try.prog (lone (Frame.enter Try.prog f i.args .normal) [] (w.forCall tape i)))
    (contract : ∀ (W : World) (args : Array Value), args.size = fn.params.size → (∀ (j : Nat) (t : TypeId) (v : Value), fn.params[j]? = some t → args[j]? = some v → Came enc Try.prog W (fun _ => True) t v) →
      Calls Try.prog f args W fun e W' => e = .returned (.bool true) ∧ Below W.heap.size W W') :
    ReturnsInHanded {} Try.checked os f .any (s.pre6 enc Try.prog fn [] false) (s.post enc Try.prog fn false true false false) := by
  refine returnsInHanded_of_change_sized (C := Try.checked) Try.own_ started noInit hfn witness ?_
  intro W base args ds gs before hval hW _ hsz _
  have hW' := hW
  obtain ⟨p, q, hA, hV, rfl, hfz, hnd⟩ := hW
  have hlen := trodAll_len hA
  refine (contract W args (by simpa using hlen.1) ?_).mono fun e W' ⟨he, hb⟩ => ⟨_, he, law_post hL hW' hb⟩
  intro j t v ht hv
  obtain ⟨d, p, hd, h1⟩ := trodAll_get hA j t v (by simpa using ht) (by simpa using hv)
  refine ⟨d, p, base, h1, hval j t v ht hv, fun n hn => ?_, trivial⟩
  have hj : j < fn.params.toList.length := by
    rcases Nat.lt_or_ge j fn.params.toList.length with h | h
    · exact h
    · rw [← Array.getElem?_toList, List.getElem?_eq_none h] at ht; cases ht
  have := List.all_eq_true.1 hsz _ (DataW.weights_mem_each (j := j) (t := t) (d := d) (by rw [List.getElem?_append_left hj]; simpa using ht) (by rw [List.getElem?_append_left (by rw [hlen.2]; exact hj)]; exact hd) n hn)
  simpa using this

/-- THE SECOND FORM: each argument is of bulk at most 1048576. -/
theorem law_lifted_upto (hL : IsLaw fn s tb) (hfn : Try.prog.funcs[f]? = some fn) (noInit : Try.prog.inits.idxOf? f = none) {os : Os} (started : os.Started) (F : Stop.Interp)
    (witness : ∃ (w : World) (tape : Tape) (i : Input), w.os = os ∧ (w.forCall tape i).Shaped Try.prog ∧ i.vars = [] ∧ Input.okWide Try.prog (w.forCall tape i) .any w.heap.size f i ∧
      (Rows.OpenSpec.upto s).pre6 enc Try.prog fn [] false (w.forCall tape i).memory i.args ∧ ({} : Assume).holds Try.prog (lone (Frame.enter Try.prog f i.args .normal) [] (w.forCall tape i)))
    (contract : ∀ (W : World) (args : Array Value), args.size = fn.params.size → (∀ (j : Nat) (t : TypeId) (v : Value), fn.params[j]? = some t → args[j]? = some v → Came enc Try.prog W (fun d => Rows.uptoBulk d ≤ 1048576) t v) →
      Calls Try.prog f args W fun e W' => e = .returned (.bool true) ∧ Below W.heap.size W W') :
    ReturnsInHanded {} Try.checked os f .any ((Rows.OpenSpec.upto s).pre6 enc Try.prog fn [] false) (((Rows.OpenSpec.upto s).at F).post enc Try.prog fn false true false false) := by
  refine returnsInHanded_of_cond_sized (C := Try.checked) (s := Rows.OpenSpec.upto s) (k := Rows.uptoSmall) rfl Try.own_ started noInit hfn witness ?_
  intro W base args ds gs before hval hW _ hk hsz _
  have hW' := hW
  obtain ⟨p, q, hA, hV, rfl, hfz, hnd⟩ := hW
  have hlen := trodAll_len hA
  refine (contract W args (by simpa using hlen.1) ?_).mono fun e W' ⟨he, hb⟩ => ⟨_, he, law_post hL hW' hb⟩
  intro j t v ht hv
  obtain ⟨d, p, hd, h1⟩ := trodAll_get hA j t v (by simpa using ht) (by simpa using hv)
  refine ⟨d, p, base, h1, hval j t v ht hv, fun n hn => ?_, ?_⟩
  · have hj : j < fn.params.toList.length := by
      rcases Nat.lt_or_ge j fn.params.toList.length with h | h
      · exact h
      · rw [← Array.getElem?_toList, List.getElem?_eq_none h] at ht; cases ht
    have := List.all_eq_true.1 hsz _ (DataW.weights_mem_each (j := j) (t := t) (d := d) (by rw [List.getElem?_append_left hj]; simpa using ht) (by rw [List.getElem?_append_left (by rw [hlen.2]; exact hj)]; exact hd) n hn)
    simpa using this
  · have h : Rows.uptoBulkAll (ds ++ gs) ≤ 1048576 := of_decide_eq_true hk
    have := bulk_mem (d := d) (l := ds ++ gs) (by simp [List.mem_of_getElem? hd])
    show Rows.uptoBulk d ≤ 1048576
    omega
end

/-! ### Arguments opened -/
section
variable {H : Type} {enc : TypeId × Value → H} {P : Program} {W : World} {k : DataW H → Prop} {t e : TypeId} {v : Value}

theorem Came.int {kd : IntKind} (ht : P.underlying t = some (.int kd)) (h : Came enc P W k t v) : ∃ n : Int, v = .int kd n ∧ (Lit.int kd n).wf = true := by
  obtain ⟨d, p, base, h1, h2, _, _⟩ := h
  obtain ⟨n, rfl, _, _, wn⟩ := open_int ht h2 h1
  exact ⟨n, rfl, wn⟩
theorem Came.u32 (ht : P.underlying t = some (.int .u32)) (h : Came enc P W k t v) : ∃ s : BitVec 32, v = .int .u32 (s.toNat : Int) := by
  obtain ⟨n, rfl, w⟩ := h.int ht
  simp [Lit.wf, IntKind.min, IntKind.max, IntKind.signed, IntKind.bits] at w
  refine ⟨BitVec.ofNat 32 n.toNat, ?_⟩
  rw [BitVec.toNat_ofNat]
  congr 1
  omega
theorem Came.u64 (ht : P.underlying t = some (.int .u64)) (h : Came enc P W k t v) : ∃ s : BitVec 64, v = .int .u64 (s.toNat : Int) := by
  obtain ⟨n, rfl, w⟩ := h.int ht
  simp [Lit.wf, IntKind.min, IntKind.max, IntKind.signed, IntKind.bits] at w
  refine ⟨BitVec.ofNat 64 n.toNat, ?_⟩
  rw [BitVec.toNat_ofNat]
  congr 1
  omega
theorem Came.i64 (ht : P.underlying t = some (.int .i64)) (h : Came enc P W k t v) : ∃ n : Int, v = .int .i64 n ∧ -9223372036854775808 ≤ n ∧ n ≤ 9223372036854775807 := by
  obtain ⟨n, rfl, w⟩ := h.int ht
  simp [Lit.wf, IntKind.min, IntKind.max, IntKind.signed, IntKind.bits] at w
  exact ⟨n, rfl, w.1, w.2⟩
theorem Came.bool (ht : P.underlying t = some .bool) (h : Came enc P W k t v) : ∃ b : Bool, v = .bool b := by
  obtain ⟨d, p, base, h1, h2, _, _⟩ := h
  obtain ⟨b, rfl, _, _⟩ := open_bool ht h2 h1
  exact ⟨b, rfl⟩
theorem Came.string (ht : P.underlying t = some .string) (h : Came enc P W k t v) : ∃ s : ByteArray, v = .string s ∧ s.size ≤ 140737488351232 := by
  obtain ⟨d, p, base, h1, h2, h3, _⟩ := h
  obtain ⟨s, rfl, rfl, _, hs⟩ := ChangeMaps.open_string ht h2 h1
  refine ⟨s, rfl, ?_⟩
  have := h3 s.data.toList.length (by simp [DataW.weights])
  simpa [reachBytes] using this
/-- a slice of integers: A, the numbers, the capacity -/
def RdI (kd : IntKind) (w : World) (B : Nat) (A : Option Addr) (l : List Int) : Prop :=
  (∀ n ∈ l, (Lit.int kd n).wf = true) ∧ (0 < l.length → ∃ ad, A = some ad ∧ ad.block < B ∧ ∀ j n, l[j]? = some n → w.cell? (ad.add j) = some (.int kd n))
theorem bulk_one_le {H : Type} (d : DataW H) : 1 ≤ Rows.uptoBulk d := by
  cases d with
  | lit l => cases l <;> simp [Rows.uptoBulk]
  | nil => simp [Rows.uptoBulk]
  | ptr d => simp [Rows.uptoBulk]
  | slice elems spare => simp [Rows.uptoBulk]
  | agg parts => simp [Rows.uptoBulk]
  | iface t d => simp [Rows.uptoBulk]
  | map entries => simp [Rows.uptoBulk]
  | held h => simp [Rows.uptoBulk]
theorem bulk_len {H : Type} (l : List (DataW H)) : l.length ≤ Rows.uptoBulkAll l := by
  induction l with
  | nil => simp [Rows.uptoBulkAll]
  | cons x r ih => have := bulk_one_le x; simp only [Rows.uptoBulkAll, List.length_cons]; omega
theorem bulk_slice {H : Type} (elems spare : List (DataW H)) : elems.length + spare.length + 1 ≤ Rows.uptoBulk (.slice elems spare) := by
  have h1 := bulk_len elems
  have h2 := bulk_len spare
  simp only [Rows.uptoBulk]
  omega
theorem Came.intsK {kd : IntKind} (ht : P.underlying t = some (.slice e)) (he : P.underlying e = some (.int kd)) (hc : P.cellsOf e = 1) (h : Came enc P W k t v) :
    ∃ (A : Option Addr) (l : List Int) (c : Nat), v = .slice A l.length c ∧ l.length ≤ c ∧ c * P.bytesOf e ≤ 140737488351232 ∧ c ≤ maxLen ∧ RdI kd W W.heap.size A l ∧ (l = [] ∨ ∃ el sp, el.length = l.length ∧ k (.slice el sp)) := by
  obtain ⟨d, p, base, h1, h2, h3, hk⟩ := h
  obtain ⟨A, len, cap, rfl⟩ := okWide_slice ht h2
  have lt0 : ∀ x ∈ p, x.block < W.heap.size := by obtain ⟨m, hm⟩ := h1; exact DataW.trod_lt m _ _ _ hm
  obtain ⟨fuel, hf⟩ := h1
  rcases open_ints ht he hc hf with ⟨hcs, _⟩ | ⟨x, l, c, zs, hcs, _, hl, hm, hz, hx, hcell, hwz⟩
  · simp [Value.cells] at hcs
    obtain ⟨rfl, rfl, rfl⟩ := hcs
    exact ⟨none, [], 0, rfl, by simp, by simp, by simp, ⟨by simp, fun h => absurd h (by simp)⟩, .inl rfl⟩
  · simp [Value.cells] at hcs
    obtain ⟨rfl, rfl, rfl⟩ := hcs
    simp at hz
    have hlen : (zs.take len).length = len := by simp; omega
    simp only [Prod.mk.injEq] at hx
    obtain ⟨rfl, rfl⟩ := hx
    refine ⟨some x, zs.take len, cap, by rw [hlen], by omega, ?_, hm, ⟨fun n hn => hwz n (List.mem_of_mem_take hn), fun hpos => ⟨x, rfl, ?_, fun j n hj => ?_⟩⟩, .inr ⟨lits kd (zs.take len), _, by simp [lits], hk⟩⟩
    · have := h3 (cap * P.bytesOf e) (by
        have e0 : ∀ (xs ys : List (DataW H)), xs.length + ys.length = cap → cap * P.bytesOf e ∈ (DataW.slice xs ys).weights P t := fun xs ys h => by
          simp [DataW.weights, ht, h]
        exact e0 (lits kd (zs.take len)) (lits kd (zs.drop len)) (by simp [lits]; omega))
      simpa [reachBytes] using this
    · exact lt0 (.cell x.block x.off) (by
        have h0 : 0 < cap := by omega
        simp [MemPlace.row]
        first | exact ⟨0, by omega, by simp⟩ | (left; exact ⟨0, by omega, by simp⟩) | omega)
    · have hjl : j < len := by
        rcases Nat.lt_or_ge j len with h | h
        · exact h
        · rw [List.getElem?_eq_none (by omega)] at hj; cases hj
      rw [List.getElem?_take_of_lt hjl] at hj
      rw [hcell j (by omega), List.getD_eq_getElem?_getD, hj]
      rfl
theorem Came.ints {kd : IntKind} (ht : P.underlying t = some (.slice e)) (he : P.underlying e = some (.int kd)) (hc : P.cellsOf e = 1) (h : Came enc P W k t v) :
    ∃ (A : Option Addr) (l : List Int) (c : Nat), v = .slice A l.length c ∧ l.length ≤ c ∧ c * P.bytesOf e ≤ 140737488351232 ∧ c ≤ maxLen ∧ RdI kd W W.heap.size A l := by
  obtain ⟨A, l, c, h1, h2, h3, h4, h5, _⟩ := h.intsK ht he hc
  exact ⟨A, l, c, h1, h2, h3, h4, h5⟩
theorem Came.bytesK (ht : P.underlying t = some (.slice e)) (he : P.underlying e = some (.int .u8)) (hc : P.cellsOf e = 1) (hby : P.bytesOf e = 1) (h : Came enc P W k t v) :
    ∃ (A : Option Addr) (l : List UInt8) (c : Nat), v = .slice A l.length c ∧ l.length ≤ c ∧ c ≤ 140737488351232 ∧ RdB W W.heap.size A l ∧ (l = [] ∨ ∃ el sp, el.length = l.length ∧ k (.slice el sp)) := by
  obtain ⟨A, l, c, rfl, h1, h2, _, ⟨hw, h3⟩, h6⟩ := h.intsK ht he hc
  refine ⟨A, l.map fun n => UInt8.ofNat n.toNat, c, by simp, by simpa using h1, by rw [hby] at h2; omega, fun hpos => ?_, ?_⟩
  · obtain ⟨ad, e1, e2, e3⟩ := h3 (by simpa using hpos)
    refine ⟨ad, e1, e2, fun j b hj => ?_⟩
    rw [List.getElem?_map, Option.map_eq_some_iff] at hj
    obtain ⟨n, hn, rfl⟩ := hj
    rw [e3 j n hn]
    have w := hw n (List.mem_of_getElem? hn)
    simp [Lit.wf, IntKind.min, IntKind.max, IntKind.signed, IntKind.bits] at w
    simp only [Bv, UInt8.toNat_ofNat']
    congr 2
    omega
  · rcases h6 with rfl | ⟨el, sp, he, hk⟩
    · exact .inl rfl
    · exact .inr ⟨el, sp, by simpa using he, hk⟩
theorem Came.bytesU {v : Value} (ht : P.underlying t = some (.slice e)) (he : P.underlying e = some (.int .u8)) (hc : P.cellsOf e = 1) (hby : P.bytesOf e = 1) (h : Came enc P W (fun d => Rows.uptoBulk d ≤ 1048576) t v) :
    ∃ (A : Option Addr) (l : List UInt8) (c : Nat), v = .slice A l.length c ∧ l.length ≤ c ∧ c ≤ 140737488351232 ∧ RdB W W.heap.size A l ∧ l.length ≤ 1048576 := by
  obtain ⟨A, l, c, h1, h2, h3, h4, h5⟩ := h.bytesK ht he hc hby
  refine ⟨A, l, c, h1, h2, h3, h4, ?_⟩
  rcases h5 with rfl | ⟨el, sp, he, hk⟩
  · simp
  · have := bulk_slice el sp
    omega
theorem Came.stringU {v : Value} (ht : P.underlying t = some .string) (h : Came enc P W (fun d => Rows.uptoBulk d ≤ 1048576) t v) : ∃ s : ByteArray, v = .string s ∧ s.size ≤ 1048576 := by
  obtain ⟨d, p, base, h1, h2, h3, hk⟩ := h
  obtain ⟨s, rfl, rfl, _, hs⟩ := ChangeMaps.open_string ht h2 h1
  refine ⟨s, rfl, ?_⟩
  simp [Rows.uptoBulk] at hk
  have : s.data.toList.length = s.size := by rw [Array.length_toList]; rfl
  simp at this
  omega
theorem Came.bytes (ht : P.underlying t = some (.slice e)) (he : P.underlying e = some (.int .u8)) (hc : P.cellsOf e = 1) (hby : P.bytesOf e = 1) (h : Came enc P W k t v) :
    ∃ (A : Option Addr) (l : List UInt8) (c : Nat), v = .slice A l.length c ∧ l.length ≤ c ∧ c ≤ 140737488351232 ∧ RdB W W.heap.size A l := by
  obtain ⟨A, l, c, h1, h2, h3, h4, _⟩ := h.bytesK ht he hc hby
  exact ⟨A, l, c, h1, h2, h3, h4⟩
end
end Go.Proofs.Ytbiinlkdgankkaa
