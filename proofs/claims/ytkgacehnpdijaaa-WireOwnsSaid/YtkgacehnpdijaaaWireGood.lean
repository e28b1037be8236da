/- Which messages have bodies: those with which nothing is wrong. No program in sight. -/
import Derived.Test.YtkgacehnpdijaaaWireMsg
namespace Go.Proofs.Ytkgacehnpdijaaa.Wire
set_option linter.unusedVariables false
open Num

def In64 (n : Int) : Prop := 0 ≤ n ∧ n < 18446744073709551616
structure GoodV (v : Vr) : Prop where
  key : v.key.data.toList.length ≤ 16
  val : v.val.data.toList.length ≤ 64
  d0 : 0 ≤ v.dc
  d1 : v.dc ≤ 3
  t0 : 0 ≤ v.tx
  t1 : v.tx ≤ 1073741824
def In8 (n : Int) : Prop := 0 ≤ n ∧ n ≤ 255
structure GoodC (c : Cm) : Prop where
  kind : In8 c.kind
  dc : In8 c.dc
  shard : In8 c.shard
  node : In8 c.node
  mode : In8 c.mode
  key : c.key.data.toList.length ≤ 16
structure Good (m : Ms) : Prop where
  k0 : 1 ≤ m.kind
  k1 : m.kind ≤ 26
  lo : m.lo.data.toList.length ≤ 16
  hi : m.hi.data.toList.length ≤ 16
  nv : m.vers.length ≤ 4096
  vers : ∀ v ∈ m.vers, GoodV v
  nc : m.vec.length ≤ 32
  cmd : GoodC m.cmd
/-- what the types say -/
structure Rng (m : Ms) : Prop where
  id : In64 m.id
  n : In64 m.n
  ts : In64 m.ts
  vers : ∀ v ∈ m.vers, In64 v.ts
  vec : ∀ x ∈ m.vec, In64 x
/-- numbers that a writer of so many bytes takes -/
structure NumOk (num : Nat → Cd Int) : Prop where
  small : ∀ w n, 1 ≤ w → 0 ≤ n → n < ((256 ^ w : Nat) : Int) → w ≤ 8 → (num w).ok n
  big : ∀ n, (num 8).ok n → In64 n
theorem fix_ok : NumOk fixC := ⟨fun w n _ h0 h1 _ => ⟨h0, h1⟩, fun n h => ⟨h.1, by have h2 : n < ((256 ^ 8 : Nat) : Int) := h.2; exact h2⟩⟩
theorem uv_ok : NumOk fun _ => uvC := ⟨fun w n _ h0 h1 h8 => ⟨h0, by
  have : (256 : Nat) ^ w ≤ 256 ^ 8 := Nat.pow_le_pow_right (by decide) h8
  have e : (256 : Nat) ^ 8 = 18446744073709551616 := by decide
  omega⟩, fun n h => h⟩
theorem most_iff {c : Cd Int} {l e : Int} (hc : ∀ n, 0 ≤ n → n ≤ l → c.ok n) (n : Int) : (most c l e).ok n ↔ 0 ≤ n ∧ n ≤ l :=
  ⟨fun h => most_ok h, fun h => ⟨hc n h.1 h.2, decide_eq_true h⟩⟩
theorem text_iff {c : Cd Int} {l : Int} {L : Nat} (hl : l = L) (hc : ∀ n, 0 ≤ n → n ≤ l → c.ok n) (s : ByteArray) : (textC c l).ok s ↔ s.data.toList.length ≤ L := by
  refine ⟨fun h => ?_, fun h => ⟨⟨(most_iff hc _).2 ⟨Int.natCast_nonneg _, by show (s.data.toList.length : Int) ≤ l; omega⟩, ?_⟩, rfl⟩⟩
  · have h2 : (s.data.toList.length : Int) ≤ l := (most_ok h.1.1).2
    omega
  · show s.data.toList.length = ((s.data.toList.length : Int)).toNat
    rw [Int.toNat_natCast]
theorem gone_ok (b : Bool) : goneC.ok b := by
  cases b
  · exact ⟨⟨⟨by decide, by decide⟩, by decide⟩, rfl⟩
  · exact ⟨⟨⟨by decide, by decide⟩, by decide⟩, rfl⟩
theorem stamp_iff {c : Cd Int} (hc : ∀ n, In64 n → c.ok n) (s t : Int) : (stampC c s).ok t ↔ In64 t := by
  refine ⟨fun h => ?_, fun h => ?_⟩
  · have h2 : ((t - s) % 18446744073709551616 + s) % 18446744073709551616 = t := h.2
    unfold In64
    omega
  · unfold In64 at h
    have h1 : 0 ≤ (t - s) % 18446744073709551616 ∧ (t - s) % 18446744073709551616 < 18446744073709551616 := by omega
    refine ⟨⟨hc _ h1, decide_eq_true h1⟩, ?_⟩
    show ((t - s) % 18446744073709551616 + s) % 18446744073709551616 = t
    omega
theorem NumOk.to {num : Nat → Cd Int} (h : NumOk num) {w : Nat} (hw : 1 ≤ w) (h8 : w ≤ 8) {l : Int} (hl : l < ((256 ^ w : Nat) : Int)) : ∀ n, 0 ≤ n → n ≤ l → (num w).ok n := fun n h0 h1 => h.small w n hw h0 (by omega) h8
theorem pow8 : ((256 ^ 8 : Nat) : Int) = 18446744073709551616 := by decide
theorem NumOk.all {num : Nat → Cd Int} (h : NumOk num) (n : Int) : (num 8).ok n ↔ In64 n := ⟨h.big n, fun hn => h.small 8 n (by decide) hn.1 (by rw [pow8]; exact hn.2) (by decide)⟩
theorem ver_iff {num : Nat → Cd Int} (h : NumOk num) (ahead : Bool) (s : Int) (v : Vr) : (verC num ahead s).ok v ↔ GoodV v ∧ In64 v.ts := by
  have t16 := text_iff (L := 16) rfl (h.to (w := 1) (by decide) (by decide) (l := 16) (by decide))
  have t64 := text_iff (L := 64) rfl (h.to (w := 1) (by decide) (by decide) (l := 64) (by decide))
  have m3 := most_iff (e := 1) (h.to (w := 1) (by decide) (by decide) (l := 3) (by decide))
  have m4 := most_iff (e := 1) (h.to (w := 4) (by decide) (by decide) (l := 1073741824) (by decide))
  have st := stamp_iff (fun n hn => (h.all n).2 hn) (if ahead then s else 0)
  constructor
  · rintro ⟨⟨h1, h2, h3, h4, h5, h6⟩, _⟩
    have k1 := (t16 _).1 h1
    have k2 := (t64 _).1 h2
    have k5 := (m3 _).1 h5
    have k6 := (m4 _).1 h6
    exact ⟨⟨k1, k2, k5.1, k5.2, k6.1, k6.2⟩, (st _).1 h4⟩
  · rintro ⟨hg, ht⟩
    exact ⟨⟨(t16 _).2 hg.key, (t64 _).2 hg.val, gone_ok _, (st _).2 ht, (m3 _).2 ⟨hg.d0, hg.d1⟩, (m4 _).2 ⟨hg.t0, hg.t1⟩⟩, rfl⟩
theorem okL_iff {α σ : Type} {c : σ → Cd α} {next : α → σ} {P : α → Prop} (h : ∀ s a, (c s).ok a ↔ P a) : ∀ (l : List α) (s : σ), okL c next s l ↔ ∀ a ∈ l, P a
  | [], s => ⟨fun _ a ha => by simp at ha, fun _ => trivial⟩
  | a :: r, s => by
    have ih := okL_iff (next := next) h r (next a)
    constructor
    · rintro ⟨h1, h2⟩ x hx
      rcases List.mem_cons.1 hx with rfl | hx
      · exact (h s x).1 h1
      · exact ih.1 h2 x hx
    · intro hx
      exact ⟨(h s a).2 (hx a (by simp)), ih.2 fun x hm => hx x (by simp [hm])⟩
theorem row_iff {α σ : Type} {n : Cd Int} {l : Int} {c : σ → Cd α} {next : α → σ} {s : σ} {P : α → Prop} (hn : ∀ k, 0 ≤ k → k ≤ l → n.ok k) (h : ∀ s a, (c s).ok a ↔ P a) (r : List α) : (rowC n l c next s).ok r ↔ (r.length : Int) ≤ l ∧ ∀ a ∈ r, P a := by
  constructor
  · rintro ⟨⟨h1, h2⟩, _⟩
    exact ⟨(most_ok h1).2, (okL_iff h r s).1 h2.2⟩
  · rintro ⟨h1, h2⟩
    refine ⟨⟨(most_iff hn _).2 ⟨Int.natCast_nonneg _, h1⟩, ?_, (okL_iff h r s).2 h2⟩, rfl⟩
    show r.length = ((r.length : Int)).toNat
    rw [Int.toNat_natCast]
theorem verRow_iff {num : Nat → Cd Int} (h : NumOk num) (ahead : Bool) (l : List Vr) : (verRow num ahead).ok l ↔ l.length ≤ 4096 ∧ ∀ v ∈ l, GoodV v ∧ In64 v.ts := by
  rw [show ((verRow num ahead).ok l ↔ _) from row_iff (h.to (w := 2) (by decide) (by decide) (l := 4096) (by decide)) (fun s v => ver_iff h ahead s v) l]
  constructor <;> rintro ⟨h1, h2⟩ <;> exact ⟨by omega, h2⟩
theorem vecRow_iff {num : Nat → Cd Int} (h : NumOk num) (l : List Int) : (vecRow num).ok l ↔ l.length ≤ 32 ∧ ∀ x ∈ l, In64 x := by
  rw [show ((vecRow num).ok l ↔ _) from row_iff (h.to (w := 1) (by decide) (by decide) (l := 32) (by decide)) (fun s v => h.all v) l]
  constructor <;> rintro ⟨h1, h2⟩ <;> exact ⟨by omega, h2⟩
theorem cmd_iff {num : Nat → Cd Int} (h : NumOk num) (c : Cm) : (cmdC num).ok c ↔ GoodC c := by
  have t16 := text_iff (L := 16) rfl (h.to (w := 1) (by decide) (by decide) (l := 16) (by decide))
  have m := most_iff (e := 1) (h.to (w := 1) (by decide) (by decide) (l := 255) (by decide))
  constructor
  · rintro ⟨⟨h1, h2, h3, h4, h5, h6⟩, _⟩
    have k6 := (t16 _).1 h6
    exact ⟨(m _).1 h1, (m _).1 h2, (m _).1 h3, (m _).1 h4, (m _).1 h5, k6⟩
  · intro g
    exact ⟨⟨(m _).2 g.kind, (m _).2 g.dc, (m _).2 g.shard, (m _).2 g.node, (m _).2 g.mode, (t16 _).2 g.key⟩, rfl⟩
theorem opt_iff {α : Type} {c : Cd α} {zero : α} {nz : α → Bool} (hz : c.ok zero) (h : ∀ a, nz a = false → a = zero) (a : α) : (optC (nz a) zero nz c).ok a ↔ c.ok a := by
  unfold optC
  cases hn : nz a with
  | true => exact ⟨fun h => h.1, fun h => ⟨h, hn⟩⟩
  | false =>
    have e := h a hn
    subst e
    exact ⟨fun _ => hz, fun _ => rfl⟩
theorem nzI_no (n : Int) (h : nzI n = false) : n = 0 := by simpa [nzI] using h
theorem nzS_no (s : ByteArray) (h : nzS s = false) : s = ByteArray.empty := by
  have h1 : s.data.toList.length = 0 := by simpa [nzS] using h
  have h2 : s.data.toList = [] := List.eq_nil_of_length_eq_zero h1
  obtain ⟨⟨l⟩⟩ := s
  have : l = [] := h2
  subst this
  rfl
theorem nzL_no {α : Type} (l : List α) (h : nzL l = false) : l = [] := by
  have h1 : l.length = 0 := by simpa [nzL] using h
  exact List.eq_nil_of_length_eq_zero h1
theorem nzC_no (c : Cm) (h : nzC c = false) : c = cmd0 := by simpa [nzC] using h
theorem b2_bit (b : Bool) : b2 b = 0 ∨ b2 b = 1 := by cases b <;> simp [b2]
theorem b2_inj {a b : Bool} (h : b2 a = b2 b) : a = b := by cases a <;> cases b <;> simp [b2] at h <;> rfl
theorem b2_le (b : Bool) : 0 ≤ b2 b ∧ b2 b ≤ 1 := by cases b <;> simp [b2]
theorem bits8 {x0 x1 x2 x3 x4 x5 x6 x7 M : Int} (h0 : 0 ≤ x0 ∧ x0 ≤ 1) (h1 : 0 ≤ x1 ∧ x1 ≤ 1) (h2 : 0 ≤ x2 ∧ x2 ≤ 1) (h3 : 0 ≤ x3 ∧ x3 ≤ 1) (h4 : 0 ≤ x4 ∧ x4 ≤ 1) (h5 : 0 ≤ x5 ∧ x5 ≤ 1) (h6 : 0 ≤ x6 ∧ x6 ≤ 1) (h7 : 0 ≤ x7 ∧ x7 ≤ 1) (hM : M = x0 + 2 * x1 + 4 * x2 + 8 * x3 + 16 * x4 + 32 * x5 + 64 * x6 + 128 * x7) :
    (M / 1) % 2 = x0 ∧ (M / 2) % 2 = x1 ∧ (M / 4) % 2 = x2 ∧ (M / 8) % 2 = x3 ∧ (M / 16) % 2 = x4 ∧ (M / 32) % 2 = x5 ∧ (M / 64) % 2 = x6 ∧ (M / 128) % 2 = x7 := by
  refine ⟨by omega, by omega, by omega, by omega, by omega, by omega, by omega, by omega⟩
theorem mask_bits (p : Parts) : bit (maskOf p) 0 = nzI p.1 ∧ bit (maskOf p) 1 = nzI p.2.1 ∧ bit (maskOf p) 2 = nzI p.2.2.1 ∧ bit (maskOf p) 3 = nzS p.2.2.2.1 ∧ bit (maskOf p) 4 = nzS p.2.2.2.2.1 ∧ bit (maskOf p) 5 = nzL p.2.2.2.2.2.1 ∧ bit (maskOf p) 6 = nzL p.2.2.2.2.2.2.1 ∧ bit (maskOf p) 7 = nzC p.2.2.2.2.2.2.2 := by
  obtain ⟨k0, k1, k2, k3, k4, k5, k6, k7⟩ := bits8 (b2_le (nzI p.1)) (b2_le (nzI p.2.1)) (b2_le (nzI p.2.2.1)) (b2_le (nzS p.2.2.2.1)) (b2_le (nzS p.2.2.2.2.1)) (b2_le (nzL p.2.2.2.2.2.1)) (b2_le (nzL p.2.2.2.2.2.2.1)) (b2_le (nzC p.2.2.2.2.2.2.2)) (M := maskOf p) rfl
  exact ⟨b2_inj ((bit_b2 _ _).trans k0), b2_inj ((bit_b2 _ _).trans k1), b2_inj ((bit_b2 _ _).trans k2), b2_inj ((bit_b2 _ _).trans k3), b2_inj ((bit_b2 _ _).trans k4), b2_inj ((bit_b2 _ _).trans k5), b2_inj ((bit_b2 _ _).trans k6), b2_inj ((bit_b2 _ _).trans k7)⟩
theorem mask_lt (p : Parts) : 0 ≤ maskOf p ∧ maskOf p < 256 := by
  have h0 := b2_le (nzI p.1); have h1 := b2_le (nzI p.2.1); have h2 := b2_le (nzI p.2.2.1); have h3 := b2_le (nzS p.2.2.2.1)
  have h4 := b2_le (nzS p.2.2.2.2.1); have h5 := b2_le (nzL p.2.2.2.2.2.1); have h6 := b2_le (nzL p.2.2.2.2.2.2.1); have h7 := b2_le (nzC p.2.2.2.2.2.2.2)
  unfold maskOf
  omega
theorem kind_iff (n : Int) : kindC.ok n ↔ 1 ≤ n ∧ n ≤ 26 :=
  ⟨fun h => of_decide_eq_true h.2, fun h => ⟨⟨by omega, by show n < ((256 ^ 1 : Nat) : Int); omega⟩, decide_eq_true h⟩⟩
theorem eld_iff (m : Ms) : eldC.ok m.parts ↔ (In64 m.id ∧ In64 m.n ∧ In64 m.ts ∧ m.lo.data.toList.length ≤ 16 ∧ m.hi.data.toList.length ≤ 16 ∧ (m.vers.length ≤ 4096 ∧ ∀ v ∈ m.vers, GoodV v ∧ In64 v.ts) ∧ (m.vec.length ≤ 32 ∧ ∀ x ∈ m.vec, In64 x) ∧ GoodC m.cmd) := by
  have t16 := text_iff (L := 16) rfl (fix_ok.to (w := 1) (by decide) (by decide) (l := 16) (by decide))
  constructor
  · rintro ⟨h1, h2, h3, h4, h5, h6, h7, h8⟩
    have k4 := (t16 _).1 h4
    have k5 := (t16 _).1 h5
    exact ⟨(fix_ok.all _).1 h1, (fix_ok.all _).1 h2, (fix_ok.all _).1 h3, k4, k5, (verRow_iff fix_ok false _).1 h6, (vecRow_iff fix_ok _).1 h7, (cmd_iff fix_ok _).1 h8⟩
  · rintro ⟨h1, h2, h3, h4, h5, h6, h7, h8⟩
    exact ⟨(fix_ok.all _).2 h1, (fix_ok.all _).2 h2, (fix_ok.all _).2 h3, (t16 _).2 h4, (t16 _).2 h5, (verRow_iff fix_ok false _).2 h6, (vecRow_iff fix_ok _).2 h7, (cmd_iff fix_ok _).2 h8⟩
theorem new_iff (m : Ms) : (newC (maskOf m.parts)).ok m.parts ↔ (In64 m.id ∧ In64 m.n ∧ In64 m.ts ∧ m.lo.data.toList.length ≤ 16 ∧ m.hi.data.toList.length ≤ 16 ∧ (m.vers.length ≤ 4096 ∧ ∀ v ∈ m.vers, GoodV v ∧ In64 v.ts) ∧ (m.vec.length ≤ 32 ∧ ∀ x ∈ m.vec, In64 x) ∧ GoodC m.cmd) := by
  have t16 := text_iff (L := 16) rfl (uv_ok.to (w := 1) (by decide) (by decide) (l := 16) (by decide))
  obtain ⟨b0, b1, b2', b3, b4, b5, b6, b7⟩ := mask_bits m.parts
  have z : uvC.ok 0 := ⟨by decide, by decide⟩
  have o0 := opt_iff z nzI_no
  have o3 := opt_iff (c := textC uvC 16) ((t16 ByteArray.empty).2 (by decide)) nzS_no
  have o5 := opt_iff (c := verRow (fun _ => uvC) true) ((verRow_iff uv_ok true []).2 ⟨by simp, by simp⟩) nzL_no
  have o6 := opt_iff (c := vecRow fun _ => uvC) ((vecRow_iff uv_ok []).2 ⟨by simp, by simp⟩) nzL_no
  have o7 := opt_iff (c := cmdC fun _ => uvC) ((cmd_iff uv_ok cmd0).2 ⟨⟨by decide, by decide⟩, ⟨by decide, by decide⟩, ⟨by decide, by decide⟩, ⟨by decide, by decide⟩, ⟨by decide, by decide⟩, by decide⟩) nzC_no
  unfold newC
  rw [b0, b1, b2', b3, b4, b5, b6, b7]
  constructor
  · rintro ⟨h1, h2, h3, h4, h5, h6, h7, h8⟩
    have k4 := (t16 _).1 ((o3 _).1 h4)
    have k5 := (t16 _).1 ((o3 _).1 h5)
    exact ⟨(uv_ok.all _).1 ((o0 _).1 h1), (uv_ok.all _).1 ((o0 _).1 h2), (uv_ok.all _).1 ((o0 _).1 h3), k4, k5, (verRow_iff uv_ok true _).1 ((o5 _).1 h6), (vecRow_iff uv_ok _).1 ((o6 _).1 h7), (cmd_iff uv_ok _).1 ((o7 _).1 h8)⟩
  · rintro ⟨h1, h2, h3, h4, h5, h6, h7, h8⟩
    exact ⟨(o0 _).2 ((uv_ok.all _).2 h1), (o0 _).2 ((uv_ok.all _).2 h2), (o0 _).2 ((uv_ok.all _).2 h3), (o3 _).2 ((t16 _).2 h4), (o3 _).2 ((t16 _).2 h5), (o5 _).2 ((verRow_iff uv_ok true _).2 h6), (o6 _).2 ((vecRow_iff uv_ok _).2 h7), (o7 _).2 ((cmd_iff uv_ok _).2 h8)⟩
theorem ok_iff (v : Int) (m : Ms) : (msgC v).ok m ↔ Good m ∧ Rng m := by
  have key : (1 ≤ m.kind ∧ m.kind ≤ 26) ∧ (In64 m.id ∧ In64 m.n ∧ In64 m.ts ∧ m.lo.data.toList.length ≤ 16 ∧ m.hi.data.toList.length ≤ 16 ∧ (m.vers.length ≤ 4096 ∧ ∀ v ∈ m.vers, GoodV v ∧ In64 v.ts) ∧ (m.vec.length ≤ 32 ∧ ∀ x ∈ m.vec, In64 x) ∧ GoodC m.cmd) ↔ Good m ∧ Rng m :=
    ⟨fun ⟨⟨a, b⟩, c, d, e, f, g, ⟨h, i⟩, ⟨j, k⟩, l⟩ => ⟨⟨a, b, f, g, h, fun v hv => (i v hv).1, j, l⟩, ⟨c, d, e, fun v hv => (i v hv).2, k⟩⟩,
     fun ⟨g, r⟩ => ⟨⟨g.k0, g.k1⟩, r.id, r.n, r.ts, g.lo, g.hi, ⟨g.nv, fun v hv => ⟨g.vers v hv, r.vers v hv⟩⟩, ⟨g.nc, r.vec⟩, g.cmd⟩⟩
  rw [← key]
  unfold msgC
  split
  · constructor
    · rintro ⟨⟨h1, h2⟩, _⟩
      exact ⟨(kind_iff _).1 h1, (eld_iff m).1 h2⟩
    · rintro ⟨h1, h2⟩
      exact ⟨⟨(kind_iff _).2 h1, (eld_iff m).2 h2⟩, rfl⟩
  · constructor
    · rintro ⟨⟨h1, _, h2⟩, _⟩
      exact ⟨(kind_iff _).1 h1, (new_iff m).1 h2⟩
    · rintro ⟨h1, h2⟩
      exact ⟨⟨(kind_iff _).2 h1, ⟨(mask_lt _).1, by have h3 := (mask_lt m.parts).2; show maskOf m.parts < ((256 ^ 1 : Nat) : Int); omega⟩, (new_iff m).2 h2⟩, rfl⟩
end Go.Proofs.Ytkgacehnpdijaaa.Wire
