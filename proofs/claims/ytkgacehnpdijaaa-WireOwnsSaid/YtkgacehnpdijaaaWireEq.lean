/- '==' of commands and of versions. -/
import Derived.Test.YtkgacehnpdijaaaWireBody
import Derived.Test.YtkgacehnpdijaaaEqual
namespace Go.Proofs.Ytkgacehnpdijaaa
set_option linter.unusedVariables false
open Go.RowKit Wire

theorem run_part_str {P : Program} {w : World} (e : TypeId) (he : P.underlying e = some .string) (i : Nat) (cs : Array Value) (v : Value) (h : cs[i]? = some v) : (part e cs i).run P w = .ok v w := by
  simp [part, isAgg, run_underlying he, h]
/-- fields held against each other one by one -/
theorem eqFields_all {P : Program} (d : Nat) (xs ys : Array Value) (w : World) (bs : Nat → Bool) : ∀ (fs : List Field), (∀ f ∈ fs, f.name ≠ "_" ∧ ∃ x y, (part f.type xs f.offset).run P w = .ok x w ∧ (part f.type ys f.offset).run P w = .ok y w ∧ (Op.equalIn d f.type x y).run P w = .ok (bs f.offset) w) → (Op.eqFields d xs ys fs).run P w = .ok ((fs.map (·.offset)).all bs) w
  | [], _ => by simp [Op.eqFields]
  | f :: fs, h => by
    obtain ⟨hn, x, y, h1, h2, h3⟩ := h f (List.mem_cons_self ..)
    have ih := eqFields_all d xs ys w bs fs fun g hg => h g (List.mem_cons_of_mem _ hg)
    unfold Op.eqFields
    rw [if_pos hn]
    simp only [Sem.run_bind, h1, h2, h3, Result.andThen_ok, List.map_cons, List.all_cons]
    cases hb : bs f.offset
    · simp
    · simp only [Bool.not_true, Bool.false_eq_true, if_false, Bool.true_and]
      exact ih
theorem str_eq (a b : ByteArray) : a.toList = b.toList ↔ a = b := by
  rw [ByteArray.toList_eq, ByteArray.toList_eq]
  obtain ⟨⟨x⟩⟩ := a
  obtain ⟨⟨y⟩⟩ := b
  simp
theorem cmdFields : (Try.prog.fieldsOf 26).toList.map (fun f => (f.name, f.type, f.offset)) = [("Kind", 3, 0), ("DC", 3, 1), ("Shard", 3, 2), ("Node", 3, 3), ("Mode", 3, 4), ("Key", 9, 5)] := by kernel_rfl
theorem verFields : (Try.prog.fieldsOf 49).toList.map (fun f => (f.name, f.type, f.offset)) = [("Key", 9, 0), ("Val", 9, 1), ("Gone", 4, 2), ("TS", 22, 3), ("DC", 3, 4), ("Tx", 3, 5)] := by kernel_rfl
theorem offs_of {fs : List Field} {l : List (String × TypeId × Nat)} (h : fs.map (fun f => (f.name, f.type, f.offset)) = l) : fs.map (·.offset) = l.map (fun x => x.2.2) := by
  rw [← h, List.map_map]
  rfl
/-- two commands are the same, or not -/
theorem eql_cmd (a b : Cm) : ∃ r : Bool, (r = true ↔ a = b) ∧ ∀ w : World, (Op.equalIn 10000 26 (.agg (cmdCells a)) (.agg (cmdCells b))).run Try.prog w = .ok r w := by
  refine ⟨([0, 1, 2, 3, 4, 5] : List Nat).all (fun i => match i with | 0 => a.kind == b.kind | 1 => a.dc == b.dc | 2 => a.shard == b.shard | 3 => a.node == b.node | 4 => a.mode == b.mode | _ => a.key.toList == b.key.toList), ?_, fun w => ?_⟩
  · simp only [List.all_cons, List.all_nil, Bool.and_true, Bool.and_eq_true, beq_iff_eq]
    obtain ⟨a0, a1, a2, a3, a4, a5⟩ := a
    obtain ⟨b0, b1, b2, b3, b4, b5⟩ := b
    have hs : a5.toList = b5.toList ↔ a5 = b5 := str_eq _ _
    simp only [hs, Cm.mk.injEq]
  · rw [run_equalIn_struct w 9999 26 _ _ Try.underlying26 (by kernel_rfl)]
    have ho := offs_of cmdFields
    refine (eqFields_all 9999 _ _ w _ _ fun f hf => ?_).trans (by rw [ho]; rfl)
    have hm : (f.name, f.type, f.offset) ∈ [("Kind", 3, 0), ("DC", 3, 1), ("Shard", 3, 2), ("Node", 3, 3), ("Mode", 3, 4), ("Key", 9, 5)] := by
      rw [← cmdFields]
      exact List.mem_map.2 ⟨f, hf, rfl⟩
    simp only [List.mem_cons, List.not_mem_nil, or_false, Prod.mk.injEq] at hm
    rcases hm with ⟨hn, ht, ho⟩ | ⟨hn, ht, ho⟩ | ⟨hn, ht, ho⟩ | ⟨hn, ht, ho⟩ | ⟨hn, ht, ho⟩ | ⟨hn, ht, ho⟩ <;> rw [hn, ht, ho]
    · exact ⟨by decide, .int .i64 a.kind, .int .i64 b.kind, run_part_int _ .i64 Try.underlying3 _ _ _ rfl, run_part_int _ .i64 Try.underlying3 _ _ _ rfl, run_equalIn_int w 9998 _ _ _ _ _ Try.underlying3⟩
    · exact ⟨by decide, .int .i64 a.dc, .int .i64 b.dc, run_part_int _ .i64 Try.underlying3 _ _ _ rfl, run_part_int _ .i64 Try.underlying3 _ _ _ rfl, run_equalIn_int w 9998 _ _ _ _ _ Try.underlying3⟩
    · exact ⟨by decide, .int .i64 a.shard, .int .i64 b.shard, run_part_int _ .i64 Try.underlying3 _ _ _ rfl, run_part_int _ .i64 Try.underlying3 _ _ _ rfl, run_equalIn_int w 9998 _ _ _ _ _ Try.underlying3⟩
    · exact ⟨by decide, .int .i64 a.node, .int .i64 b.node, run_part_int _ .i64 Try.underlying3 _ _ _ rfl, run_part_int _ .i64 Try.underlying3 _ _ _ rfl, run_equalIn_int w 9998 _ _ _ _ _ Try.underlying3⟩
    · exact ⟨by decide, .int .i64 a.mode, .int .i64 b.mode, run_part_int _ .i64 Try.underlying3 _ _ _ rfl, run_part_int _ .i64 Try.underlying3 _ _ _ rfl, run_equalIn_int w 9998 _ _ _ _ _ Try.underlying3⟩
    · exact ⟨by decide, .string a.key, .string b.key, run_part_str _ Try.underlying9 _ _ _ rfl, run_part_str _ Try.underlying9 _ _ _ rfl, run_equalIn_string w 9998 _ _ _ Try.underlying9⟩
/-- two versions are the same, or not -/
theorem eql_vr (a b : Vr) : ∃ r : Bool, (r = true ↔ a = b) ∧ ∀ w : World, (Op.equalIn 10000 49 (.agg (vc6 a)) (.agg (vc6 b))).run Try.prog w = .ok r w := by
  refine ⟨([0, 1, 2, 3, 4, 5] : List Nat).all (fun i => match i with | 0 => a.key.toList == b.key.toList | 1 => a.val.toList == b.val.toList | 2 => a.gone == b.gone | 3 => a.ts == b.ts | 4 => a.dc == b.dc | _ => a.tx == b.tx), ?_, fun w => ?_⟩
  · simp only [List.all_cons, List.all_nil, Bool.and_true, Bool.and_eq_true, beq_iff_eq]
    obtain ⟨a0, a1, a2, a3, a4, a5⟩ := a
    obtain ⟨b0, b1, b2, b3, b4, b5⟩ := b
    have hs : a0.toList = b0.toList ↔ a0 = b0 := str_eq _ _
    have hs1 : a1.toList = b1.toList ↔ a1 = b1 := str_eq _ _
    simp only [hs, hs1, Vr.mk.injEq]
  · rw [run_equalIn_struct w 9999 49 _ _ Try.underlying49 (by kernel_rfl)]
    have ho := offs_of verFields
    refine (eqFields_all 9999 _ _ w _ _ fun f hf => ?_).trans (by rw [ho]; rfl)
    have hm : (f.name, f.type, f.offset) ∈ [("Key", 9, 0), ("Val", 9, 1), ("Gone", 4, 2), ("TS", 22, 3), ("DC", 3, 4), ("Tx", 3, 5)] := by
      rw [← verFields]
      exact List.mem_map.2 ⟨f, hf, rfl⟩
    simp only [List.mem_cons, List.not_mem_nil, or_false, Prod.mk.injEq] at hm
    rcases hm with ⟨hn, ht, ho⟩ | ⟨hn, ht, ho⟩ | ⟨hn, ht, ho⟩ | ⟨hn, ht, ho⟩ | ⟨hn, ht, ho⟩ | ⟨hn, ht, ho⟩ <;> rw [hn, ht, ho]
    · exact ⟨by decide, .string a.key, .string b.key, run_part_str _ Try.underlying9 _ _ _ rfl, run_part_str _ Try.underlying9 _ _ _ rfl, run_equalIn_string w 9998 _ _ _ Try.underlying9⟩
    · exact ⟨by decide, .string a.val, .string b.val, run_part_str _ Try.underlying9 _ _ _ rfl, run_part_str _ Try.underlying9 _ _ _ rfl, run_equalIn_string w 9998 _ _ _ Try.underlying9⟩
    · exact ⟨by decide, .bool a.gone, .bool b.gone, run_part_bool _ Try.underlying4 _ _ _ rfl, run_part_bool _ Try.underlying4 _ _ _ rfl, run_equalIn_bool' w 9998 _ _ _ Try.underlying4⟩
    · exact ⟨by decide, .int .u64 a.ts, .int .u64 b.ts, run_part_int _ .u64 Try.underlying22 _ _ _ rfl, run_part_int _ .u64 Try.underlying22 _ _ _ rfl, run_equalIn_int w 9998 _ _ _ _ _ Try.underlying22⟩
    · exact ⟨by decide, .int .i64 a.dc, .int .i64 b.dc, run_part_int _ .i64 Try.underlying3 _ _ _ rfl, run_part_int _ .i64 Try.underlying3 _ _ _ rfl, run_equalIn_int w 9998 _ _ _ _ _ Try.underlying3⟩
    · exact ⟨by decide, .int .i64 a.tx, .int .i64 b.tx, run_part_int _ .i64 Try.underlying3 _ _ _ rfl, run_part_int _ .i64 Try.underlying3 _ _ _ rfl, run_equalIn_int w 9998 _ _ _ _ _ Try.underlying3⟩
theorem wrapI {n : Int} (h0 : 0 ≤ n) (h1 : n < 1000000) : IntKind.i64.wrap n = n := by simp [IntKind.wrap, IntKind.signed, IntKind.bits]; omega
theorem b2t {b : Bool} (h : b = true) : b2 b = 1 := by subst h; rfl
theorem b2f {b : Bool} (h : b = false) : b2 b = 0 := by subst h; rfl
theorem str0f {s : ByteArray} (h : nzS s = false) : s = ⟨#[]⟩ := nzS_no s h
theorem strE {s : ByteArray} (h : nzS s = false) : s.toList.isEmpty = true := by
  rw [nzS_no s h, ByteArray.toList_eq]
  rfl
theorem strN {s : ByteArray} (h : nzS s = true) : s.toList.isEmpty = false := by
  rw [ByteArray.toList_eq]
  cases he : s.data.toList with
  | nil => simp [nzS, he] at h
  | cons x r => rfl
theorem lenF {α : Type} {l : List α} (h : nzL l = false) : decide (0 < l.length) = false := by rw [nzL_no l h]; rfl
theorem lenT {α : Type} {l : List α} (h : nzL l = true) : decide (0 < l.length) = true := by
  cases l with
  | nil => cases h
  | cons x r => exact decide_eq_true (by rw [List.length_cons]; omega)
theorem nums_len {c : Cm} (h : GoodC c) : (c.nums.flatMap fun x => Num.uv x.toNat).length ≤ 50 := by
  refine flat_le _ 10 c.nums fun x hx => ?_
  simp only [Cm.nums, List.mem_cons, List.not_mem_nil, or_false] at hx
  rcases hx with rfl | rfl | rfl | rfl | rfl
  · exact uvl _ h.kind.1 (by have := h.kind.2; omega)
  · exact uvl _ h.dc.1 (by have := h.dc.2; omega)
  · exact uvl _ h.shard.1 (by have := h.shard.2; omega)
  · exact uvl _ h.node.1 (by have := h.node.2; omega)
  · exact uvl _ h.mode.1 (by have := h.mode.2; omega)
theorem new8_len {m : Ms} (g : Wire.Good m) (r : Rng m) : (newT m 8).length ≤ 821000 := by
  have a := new7_len g r 7 (by omega)
  have b := nums_len g.cmd
  have hk := g.cmd.key
  rw [size_list'] at hk
  have c := txU_len (s := m.cmd.key) (by omega)
  have d : (nK m.cmd).length ≤ 200 := Nat.le_trans (if_len _ _) (by rw [List.length_append]; omega)
  have e : newT m 8 = newT m 7 ++ nK m.cmd := rfl
  rw [e, List.length_append]
  omega
/-- the body put behind kind and mask (the document's way) -/
theorem rtail_put {w u : World} {g : Nat} {cs : Array Value} {l : List UInt8} {A : Option Addr} {n c : Nat} {x y : Value} {bx : UInt8} {by_ : UInt8} (hg : w.heap.size ≤ g) (h : Bld w u g cs l (.slice A n c)) (hx : Bv bx = x) (hy : Bv by_ = y) (hl : l.length ≤ 100000000) :
    Calls Try.prog 51 #[.slice (some ⟨u.heap.size, 0, none⟩) 2 2, .slice (some ⟨u.heap.size + 1, 0, none⟩) 1 1] ((u.alloc (.cells #[x, y] 5)).alloc (.cells #[.slice A n c] 31)) fun e w' => ∃ b, e = .returned b ∧ Bld w w' g cs ([bx, by_] ++ l) b := by
  obtain ⟨hn, ho⟩ := h.own
  have hgl := h.mem.blk0.lt
  have hk : (u.alloc (.cells #[x, y] 5)).ownsRow (g + 1) 5 1 (.slice (some ⟨u.heap.size, 0, none⟩) 2 2) 2 ([bx, by_].map Bv) := own_new u (g + 1) #[x, y] 5 2 _ hgl (by simp [maxLen]) rfl (by subst hx hy; rfl)
  have hp : (⟨l, A, n, c⟩ : Pt).At (u.alloc (.cells #[x, y] 5)) (some u.heap.size) := ⟨hn, fun h0 => by
    obtain ⟨g2, cap, hv, h1, h2⟩ := ho.form (by show 0 < n; rw [← hn]; exact h0)
    have hA : A = some ⟨g2, 0, none⟩ := by injection hv
    subst hA
    refine ⟨_, rfl, by rw [szA]; show g2 < _; omega, fun e => ?_, fun j b hj => ?_⟩
    · injection e with e
      have : g2 = u.heap.size := e
      omega
    · exact (World.cell?_alloc_lt u _ _ (by rw [block_of_add]; exact h2)).trans ((ho.cells (g := g2) rfl) j _ (by rw [List.getElem?_map, hj]; rfl))⟩
  refine (rput_newg [bx, by_] (some ⟨u.heap.size, 0, none⟩) 2 2 [⟨l, A, n, c⟩] (g + 1) (u.alloc (.cells #[x, y] 5)) (u.heap.size + 1) (szA _ _) rfl hk (allC hp all0) (by rw [szA]; omega) (by simp [cat]; omega) (by simp)).mono fun e w' hr => ?_
  have hr2 : PutRes (u.alloc (.cells #[x, y] 5)) (g + 1) (Value.slice (some ⟨u.heap.size, 0, none⟩) 2 2).ownBlock ([bx, by_] ++ l) e w' := by simpa [cat] using hr
  exact putBld hg (h.mem.other _) hk hr2
end Go.Proofs.Ytkgacehnpdijaaa
