/- The two bodies in pieces, as the walks make them, are encOf. No program in sight. -/
import Derived.Test.YtkgacehnpdijaaaWirePart
namespace Go.Proofs.Ytkgacehnpdijaaa
set_option linter.unusedVariables false
open Wire

/-! ### the elder one -/
theorem fx1 (n : Nat) : Num.fx 1 n = [UInt8.ofNat n] := by simp [Num.fx]
theorem txt_enc (c : Cd Int) (l : Int) (s : ByteArray) : (textC c l).enc s = c.enc (s.data.toList.length : Int) ++ s.data.toList := rfl
theorem gone_enc (b : Bool) : goneC.enc b = Num.fx 1 (if b then 1 else 0) := by cases b <;> rfl
theorem ver_enc (num : Nat → Cd Int) (ahead : Bool) (s : Int) (v : Vr) : (verC num ahead s).enc v = (textC (num 1) 16).enc v.key ++ ((textC (num 1) 64).enc v.val ++ (goneC.enc v.gone ++ ((num 8).enc ((v.ts - (if ahead then s else 0)) % 18446744073709551616) ++ ((num 1).enc v.dc ++ (num 4).enc v.tx)))) := rfl
theorem verE_enc (s : Int) (v : Vr) (h : In64 v.ts) : (verC fixC false s).enc v = verE v := by
  rw [ver_enc, gone_enc, txt_enc, txt_enc]
  have e : (v.ts - (if false then s else 0)) % 18446744073709551616 = v.ts := by
    have h0 := h.1
    have h1 := h.2
    show (v.ts - 0) % 18446744073709551616 = v.ts
    omega
  rw [e]
  rfl
theorem versE_enc : ∀ (l : List Vr) (s : Int), (∀ v ∈ l, In64 v.ts) → encL (verC fixC false) (fun v => v.ts) s l = l.flatMap verE
  | [], _, _ => rfl
  | v :: r, s, h => by
    rw [List.flatMap_cons, ← versE_enc r v.ts (fun x hx => h x (by simp [hx])), ← verE_enc s v (h v (by simp))]
    rfl
theorem flatL_enc {α : Type} (c : Cd α) : ∀ (l : List α), encL (fun _ : Unit => c) (fun _ => ()) () l = l.flatMap c.enc
  | [] => rfl
  | v :: r => by
    rw [List.flatMap_cons, ← flatL_enc c r]
    rfl
theorem row_enc {α σ : Type} (n : Cd Int) (l : Int) (c : σ → Cd α) (next : α → σ) (s : σ) (r : List α) : (rowC n l c next s).enc r = n.enc (r.length : Int) ++ encL c next s r := rfl
theorem cmd_enc (num : Nat → Cd Int) (c : Cm) : (cmdC num).enc c = c.nums.flatMap (num 1).enc ++ (textC (num 1) 16).enc c.key := by
  show (num 1).enc c.kind ++ ((num 1).enc c.dc ++ ((num 1).enc c.shard ++ ((num 1).enc c.node ++ ((num 1).enc c.mode ++ (textC (num 1) 16).enc c.key)))) = _
  simp [Cm.nums]
theorem enc1 (m : Ms) (hr : Rng m) : encOf 1 m = eldOf m := by
  show (fixC 1).enc m.kind ++ (eldC.enc m.parts) = _
  have h : eldC.enc m.parts = (fixC 8).enc m.id ++ ((fixC 8).enc m.n ++ ((fixC 8).enc m.ts ++ ((textC (fixC 1) 16).enc m.lo ++ ((textC (fixC 1) 16).enc m.hi ++ ((verRow fixC false).enc m.vers ++ ((vecRow fixC).enc m.vec ++ (cmdC fixC).enc m.cmd)))))) := rfl
  have h5 : (verRow fixC false).enc m.vers = Num.fx 2 m.vers.length ++ m.vers.flatMap verE := by
    unfold verRow
    rw [row_enc, versE_enc m.vers 0 hr.vers]
    rfl
  have h6 : (vecRow fixC).enc m.vec = Num.fx 1 m.vec.length ++ m.vec.flatMap fun x => Num.fx 8 x.toNat := by
    unfold vecRow
    rw [row_enc, flatL_enc]
    rfl
  rw [h, h5, h6, cmd_enc, txt_enc, txt_enc, txt_enc]
  unfold eldOf eldN eldW eldC1 eldV eldHead tx1
  rw [List.take_length, List.take_length, show m.cmd.nums.take 5 = m.cmd.nums from rfl]
  show Num.fx 1 m.kind.toNat ++ (Num.fx 8 m.id.toNat ++ (Num.fx 8 m.n.toNat ++ (Num.fx 8 m.ts.toNat ++ ((Num.fx 1 m.lo.data.toList.length ++ m.lo.data.toList) ++ ((Num.fx 1 m.hi.data.toList.length ++ m.hi.data.toList) ++ ((Num.fx 2 m.vers.length ++ m.vers.flatMap verE) ++ ((Num.fx 1 m.vec.length ++ m.vec.flatMap fun x => Num.fx 8 x.toNat) ++ (m.cmd.nums.flatMap (fun x => Num.fx 1 x.toNat) ++ (Num.fx 1 m.cmd.key.data.toList.length ++ m.cmd.key.data.toList))))))))) = _
  rw [fx1 m.kind.toNat]
  simp only [List.append_assoc]
/-! ### the newer one -/
def verN (s : Int) (v : Vr) : List UInt8 := txU v.key ++ (txU v.val ++ (Num.fx 1 (if v.gone then 1 else 0) ++ (Num.uv ((v.ts - s) % 18446744073709551616).toNat ++ (Num.uv v.dc.toNat ++ Num.uv v.tx.toNat))))
def encN : Int → List Vr → List UInt8
  | _, [] => []
  | s, v :: r => verN s v ++ encN v.ts r
def lastOr (s : Int) (l : List Vr) : Int := (l.getLast?.map (·.ts)).getD s
theorem encN_snoc : ∀ (l : List Vr) (s : Int) (v : Vr), encN s (l ++ [v]) = encN s l ++ verN (lastOr s l) v
  | [], s, v => by simp [encN, lastOr]
  | x :: r, s, v => by
    have h : lastOr x.ts r = lastOr s (x :: r) := by
      cases r with
      | nil => rfl
      | cons y t =>
        have hz : (y :: t).getLast? = some ((y :: t).getLast (by simp)) := List.getLast?_eq_some_getLast (by simp)
        unfold lastOr
        rw [List.getLast?_cons_cons, hz]
        rfl
    show verN s x ++ encN x.ts (r ++ [v]) = _
    rw [encN_snoc r x.ts v, h, ← List.append_assoc]
    rfl
theorem encN_succ {l : List Vr} {k : Nat} {v : Vr} (h : l[k]? = some v) : encN 0 (l.take (k + 1)) = encN 0 (l.take k) ++ verN (lastOr 0 (l.take k)) v ∧ lastOr 0 (l.take (k + 1)) = v.ts := by
  have e : l.take (k + 1) = l.take k ++ [v] := by rw [List.take_add_one, h]; rfl
  rw [e, encN_snoc]
  exact ⟨rfl, by simp [lastOr]⟩
theorem versN_enc : ∀ (l : List Vr) (s : Int), encL (verC (fun _ => uvC) true) (fun v => v.ts) s l = encN s l
  | [], _ => rfl
  | v :: r, s => by
    show (verC (fun _ => uvC) true s).enc v ++ encL (verC (fun _ => uvC) true) (fun v => v.ts) v.ts r = verN s v ++ encN v.ts r
    rw [versN_enc r v.ts, ver_enc, gone_enc]
    rfl
def nI (n : Int) : List UInt8 := if nzI n then Num.uv n.toNat else []
def nS (s : ByteArray) : List UInt8 := if nzS s then txU s else []
def nV (l : List Vr) : List UInt8 := if nzL l then Num.uv l.length ++ encN 0 l else []
def nC (l : List Int) : List UInt8 := if nzL l then Num.uv l.length ++ l.flatMap (fun x => Num.uv x.toNat) else []
def nK (c : Cm) : List UInt8 := if nzC c then c.nums.flatMap (fun x => Num.uv x.toNat) ++ txU c.key else []
/-- what stands behind kind and mask, up to the k-th part -/
def newT (m : Ms) : Nat → List UInt8
  | 0 => []
  | 1 => nI m.id
  | 2 => nI m.id ++ nI m.n
  | 3 => nI m.id ++ nI m.n ++ nI m.ts
  | 4 => nI m.id ++ nI m.n ++ nI m.ts ++ nS m.lo
  | 5 => nI m.id ++ nI m.n ++ nI m.ts ++ nS m.lo ++ nS m.hi
  | 6 => nI m.id ++ nI m.n ++ nI m.ts ++ nS m.lo ++ nS m.hi ++ nV m.vers
  | 7 => nI m.id ++ nI m.n ++ nI m.ts ++ nS m.lo ++ nS m.hi ++ nV m.vers ++ nC m.vec
  | _ => nI m.id ++ nI m.n ++ nI m.ts ++ nS m.lo ++ nS m.hi ++ nV m.vers ++ nC m.vec ++ nK m.cmd
/-- the mask of the first k parts -/
def newM (m : Ms) : Nat → Int
  | 0 => 0
  | 1 => b2 (nzI m.id)
  | 2 => b2 (nzI m.id) + 2 * b2 (nzI m.n)
  | 3 => b2 (nzI m.id) + 2 * b2 (nzI m.n) + 4 * b2 (nzI m.ts)
  | 4 => b2 (nzI m.id) + 2 * b2 (nzI m.n) + 4 * b2 (nzI m.ts) + 8 * b2 (nzS m.lo)
  | 5 => b2 (nzI m.id) + 2 * b2 (nzI m.n) + 4 * b2 (nzI m.ts) + 8 * b2 (nzS m.lo) + 16 * b2 (nzS m.hi)
  | 6 => b2 (nzI m.id) + 2 * b2 (nzI m.n) + 4 * b2 (nzI m.ts) + 8 * b2 (nzS m.lo) + 16 * b2 (nzS m.hi) + 32 * b2 (nzL m.vers)
  | 7 => b2 (nzI m.id) + 2 * b2 (nzI m.n) + 4 * b2 (nzI m.ts) + 8 * b2 (nzS m.lo) + 16 * b2 (nzS m.hi) + 32 * b2 (nzL m.vers) + 64 * b2 (nzL m.vec)
  | _ => b2 (nzI m.id) + 2 * b2 (nzI m.n) + 4 * b2 (nzI m.ts) + 8 * b2 (nzS m.lo) + 16 * b2 (nzS m.hi) + 32 * b2 (nzL m.vers) + 64 * b2 (nzL m.vec) + 128 * b2 (nzC m.cmd)
theorem newM_lt (m : Ms) (k : Nat) (hk : k ≤ 8) : 0 ≤ newM m k ∧ newM m k < 2 ^ k := by
  have h0 := b2_le (nzI m.id); have h1 := b2_le (nzI m.n); have h2 := b2_le (nzI m.ts); have h3 := b2_le (nzS m.lo)
  have h4 := b2_le (nzS m.hi); have h5 := b2_le (nzL m.vers); have h6 := b2_le (nzL m.vec); have h7 := b2_le (nzC m.cmd)
  obtain rfl | rfl | rfl | rfl | rfl | rfl | rfl | rfl | rfl : k = 0 ∨ k = 1 ∨ k = 2 ∨ k = 3 ∨ k = 4 ∨ k = 5 ∨ k = 6 ∨ k = 7 ∨ k = 8 := by omega
  all_goals
    unfold newM
    simp only [Int.reducePow]
    omega
def newHead (m : Ms) : List UInt8 := [UInt8.ofNat m.kind.toNat, UInt8.ofNat (newM m 8).toNat]
def newOf (m : Ms) : List UInt8 := newHead m ++ newT m 8
theorem opt_enc {α : Type} {c : Cd α} {there : Bool} {zero : α} {nz : α → Bool} (a : α) : (optC there zero nz c).enc a = if there then c.enc a else [] := by
  unfold optC
  cases there <;> rfl
theorem enc2 (v : Int) (hv : v ≠ 1) (m : Ms) : encOf v m = newOf m := by
  have hm : msgC v = isoC (seqC kindC fun _ => seqC (fixC 1) newC) (fun p => mkMs p.1 p.2.2) (fun m => (m.kind, maskOf m.parts, m.parts)) := by unfold msgC; rw [if_neg hv]
  unfold encOf
  rw [hm]
  show (fixC 1).enc m.kind ++ ((fixC 1).enc (maskOf m.parts) ++ (newC (maskOf m.parts)).enc m.parts) = _
  obtain ⟨b0, b1, b2', b3, b4, b5, b6, b7⟩ := mask_bits m.parts
  have h : (newC (maskOf m.parts)).enc m.parts = (optC (bit (maskOf m.parts) 0) 0 nzI uvC).enc m.id ++ ((optC (bit (maskOf m.parts) 1) 0 nzI uvC).enc m.n ++ ((optC (bit (maskOf m.parts) 2) 0 nzI uvC).enc m.ts ++ ((optC (bit (maskOf m.parts) 3) ByteArray.empty nzS (textC uvC 16)).enc m.lo ++ ((optC (bit (maskOf m.parts) 4) ByteArray.empty nzS (textC uvC 16)).enc m.hi ++
    ((optC (bit (maskOf m.parts) 5) [] nzL (verRow (fun _ => uvC) true)).enc m.vers ++ ((optC (bit (maskOf m.parts) 6) [] nzL (vecRow fun _ => uvC)).enc m.vec ++ (optC (bit (maskOf m.parts) 7) cmd0 nzC (cmdC fun _ => uvC)).enc m.cmd)))))) := rfl
  have h5 : (verRow (fun _ => uvC) true).enc m.vers = Num.uv m.vers.length ++ encN 0 m.vers := by
    unfold verRow
    rw [row_enc, versN_enc]
    rfl
  have h6 : (vecRow fun _ => uvC).enc m.vec = Num.uv m.vec.length ++ m.vec.flatMap fun x => Num.uv x.toNat := by
    unfold vecRow
    rw [row_enc, flatL_enc]
    rfl
  rw [h, b0, b1, b2', b3, b4, b5, b6, b7]
  simp only [opt_enc]
  rw [h5, h6, cmd_enc]
  unfold newOf newHead newT nI nS nV nC nK
  have e1 : (fixC 1).enc m.kind = [UInt8.ofNat m.kind.toNat] := fx1 _
  have e2 : (fixC 1).enc (maskOf m.parts) = [UInt8.ofNat (newM m 8).toNat] := fx1 _
  rw [e1, e2]
  simp only [List.append_assoc]
  rfl
/-! ### how long -/
theorem txU_len {s : ByteArray} (h : s.size ≤ 64) : (txU s).length ≤ 74 := by
  have := Num.uv_len64 (n := s.data.toList.length) (by rw [size_list']; omega)
  unfold txU
  rw [List.length_append]
  rw [size_list'] at this ⊢
  omega
theorem uvl (n : Int) (h0 : 0 ≤ n) (h1 : n < 18446744073709551616) : (Num.uv n.toNat).length ≤ 10 := Num.uv_len64 (by omega)
theorem verN_len {v : Vr} (g : GoodV v) (s : Int) : (verN s v).length ≤ 200 := by
  have h1 := g.key
  have h2 := g.val
  rw [size_list'] at h1 h2
  have a := txU_len (s := v.key) (by omega)
  have b := txU_len (s := v.val) (by omega)
  have c := uvl ((v.ts - s) % 18446744073709551616) (by omega) (by omega)
  have d := uvl v.dc g.d0 (by have := g.d1; omega)
  have e := uvl v.tx g.t0 (by have := g.t1; omega)
  unfold verN
  simp only [List.length_append, Num.fx_length]
  omega
theorem encN_len : ∀ (l : List Vr) (s : Int), (∀ v ∈ l, GoodV v) → (encN s l).length ≤ l.length * 200
  | [], _, _ => by simp [encN]
  | v :: r, s, h => by
    have a := verN_len (h v (by simp)) s
    have b := encN_len r v.ts fun x hx => h x (by simp [hx])
    show (verN s v ++ encN v.ts r).length ≤ _
    rw [List.length_append, List.length_cons, Nat.succ_mul]
    omega
theorem if_len (b : Bool) (l : List UInt8) : (if b then l else []).length ≤ l.length := by cases b <;> simp
theorem nI_len {n : Int} (h : In64 n) : (nI n).length ≤ 10 := Nat.le_trans (if_len _ _) (uvl n h.1 h.2)
theorem nS_len {s : ByteArray} (h : s.size ≤ 64) : (nS s).length ≤ 74 := Nat.le_trans (if_len _ _) (txU_len h)
theorem nV_len {l : List Vr} (h : ∀ v ∈ l, GoodV v) (hn : l.length ≤ 4096) : (nV l).length ≤ 819300 := by
  have a := encN_len l 0 h
  have b := Num.uv_len64 (n := l.length) (by omega)
  refine Nat.le_trans (if_len _ _) ?_
  rw [List.length_append]
  omega
theorem vecs_len {l : List Int} (h : ∀ x ∈ l, In64 x) : (l.flatMap fun x => Num.uv x.toNat).length ≤ l.length * 10 := flat_le _ 10 l fun x hx => uvl x (h x hx).1 (h x hx).2
theorem nC_len {l : List Int} (h : ∀ x ∈ l, In64 x) (hn : l.length ≤ 32) : (nC l).length ≤ 400 := by
  have a := vecs_len h
  have b := Num.uv_len64 (n := l.length) (by omega)
  refine Nat.le_trans (if_len _ _) ?_
  rw [List.length_append]
  omega
theorem new7_len {m : Ms} (g : Wire.Good m) (r : Rng m) (k : Nat) (hk : k ≤ 7) : (newT m k).length ≤ 820000 := by
  have h1 := g.lo; have h2 := g.hi
  rw [size_list'] at h1 h2
  have a := nI_len r.id; have b := nI_len r.n; have c := nI_len r.ts
  have d := nS_len (s := m.lo) (by omega); have e := nS_len (s := m.hi) (by omega)
  have f := nV_len g.vers g.nv; have i := nC_len r.vec g.nc
  obtain rfl | rfl | rfl | rfl | rfl | rfl | rfl | rfl : k = 0 ∨ k = 1 ∨ k = 2 ∨ k = 3 ∨ k = 4 ∨ k = 5 ∨ k = 6 ∨ k = 7 := by omega
  all_goals
    unfold newT
    simp only [List.length_append, List.length_nil]
    omega
end Go.Proofs.Ytkgacehnpdijaaa
