/- fixed, short, text of the program; wide, one, text, gone of the document. -/
import Derived.Test.YtkgacehnpdijaaaWirePut
import Derived.Lib.AppendStr
import Derived.Lib.Strings
import Derived.Lib.ConvBytes
import Derived.Test.YtkgacehnpdijaaaWireChkR
namespace Go.Proofs.Ytkgacehnpdijaaa
set_option linter.unusedVariables false
open Go.RowKit

/-- the call answers new bytes -/
def NewB (w : World) (l : List UInt8) (e : Ending) (w' : World) : Prop :=
  ∃ A n c, e = .returned (.slice A n c) ∧ l.length = n ∧ w'.ownsRow w.heap.size 5 1 (.slice A n c) n (l.map Bv) ∧ Below w.heap.size w w' ∧ n ≤ c
theorem FreshB.new {w w' : World} {l : List UInt8} {e : Ending} (h : FreshB w l e w') : NewB w l e w' := by
  obtain ⟨A, c, e1, h1, h2, h3⟩ := h
  exact ⟨A, _, c, e1, rfl, h1, h2, h3⟩
theorem PutRes.fresh {w w2 w' : World} {row : Option Nat} {l : List UInt8} {e : Ending} (h : PutRes w2 w.heap.size row l e w') (hb : Below w.heap.size w w2) (hr : ∀ k, row = some k → w.heap.size ≤ k) : NewB w l e w' := by
  obtain ⟨A, n, c, e1, hn, h1, h2, h3, _⟩ := h
  exact ⟨A, n, c, e1, hn, h1, hb.grown h2 hb.size hr, h3⟩
theorem PutRes.alloc {w w' : World} {o : Obj} {base : Nat} {row : Option Nat} {l : List UInt8} {e : Ending} (h : PutRes (w.alloc o) base row l e w') : PutRes w base row l e w' := by
  obtain ⟨A, n, c, e1, hn, h1, h2, h3, h4⟩ := h
  refine ⟨A, n, c, e1, hn, h1, (World.grownBy_alloc w o row).trans h2, h3, ?_⟩
  rcases h4 with h4 | h4
  · exact .inl h4
  · exact .inr fun j hj => by have := h4 j hj; simp at this; omega
theorem Pt.At.alloc {p : Pt} {w : World} {row : Option Nat} (h : p.At w row) (o : Obj) : p.At (w.alloc o) row := ⟨h.1, fun hn => by
  obtain ⟨ad, e, h1, h2, h3⟩ := h.2 hn
  exact ⟨ad, e, by simp; omega, h2, fun j b hj => (World.cell?_alloc_lt w o _ (by rw [block_of_add]; exact h1)).trans (h3 j b hj)⟩⟩
/-- put behind the row of parts that was just made -/
theorem put_new (xs : List UInt8) (A : Option Addr) (nx c : Nat) (L : List Pt) (base : Nat) (w : World) (hnx : xs.length = nx) (ho : w.ownsRow base 5 1 (.slice A nx c) nx (xs.map Bv)) (hr : ∀ p ∈ L, p.At w (Value.slice A nx c).ownBlock) (hb : base ≤ w.heap.size) (hx : nx + (cat L).length ≤ 140737488351232) (hn : L.length ≤ 1000) :
    Calls Try.prog 45 #[.slice A nx c, .slice (some ⟨w.heap.size, 0, none⟩) L.length L.length] (w.alloc (.cells (L.map Pt.v).toArray 31)) (PutRes w base (Value.slice A nx c).ownBlock (xs ++ cat L)) := by
  refine (put_any xs A nx c L w.heap.size base _ hnx (ho.alloc _) (by simp) (fun e => ?_) (fun i p hp => ?_) (fun p hp => (hr p hp).alloc _) (by simp; omega) hx hn).mono fun e w' h => h.alloc
  · have := (ho.lt _ e.symm).2
    omega
  · rw [cell_new]
    simp [hp]
theorem rput_new (xs : List UInt8) (A : Option Addr) (nx c : Nat) (L : List Pt) (base : Nat) (w : World) (hnx : xs.length = nx) (ho : w.ownsRow base 5 1 (.slice A nx c) nx (xs.map Bv)) (hr : ∀ p ∈ L, p.At w (Value.slice A nx c).ownBlock) (hb : base ≤ w.heap.size) (hx : nx + (cat L).length ≤ 140737488351232) (hn : L.length ≤ 1000) :
    Calls Try.prog 51 #[.slice A nx c, .slice (some ⟨w.heap.size, 0, none⟩) L.length L.length] (w.alloc (.cells (L.map Pt.v).toArray 31)) (PutRes w base (Value.slice A nx c).ownBlock (xs ++ cat L)) := by
  refine (rput_any xs A nx c L w.heap.size base _ hnx (ho.alloc _) (by simp) (fun e => ?_) (fun i p hp => ?_) (fun p hp => (hr p hp).alloc _) (by simp; omega) hx hn).mono fun e w' h => h.alloc
  · have := (ho.lt _ e.symm).2
    omega
  · rw [cell_new]
    simp [hp]
/-- '[]byte(s)' -/
theorem conv_str (w : World) (s : ByteArray) : ∃ cap w', (convert 9 31 (.string s)).run Try.prog w = .ok (.slice (some ⟨w.heap.size, 0, none⟩) s.data.toList.length cap) w' ∧ (∀ j b, s.data.toList[j]? = some b → w'.cell? ⟨w.heap.size, j, none⟩ = some (Bv b)) ∧ Below w.heap.size w w' ∧ w'.heap.size = w.heap.size + 1 := by
  refine ⟨_, Lib.bytesWorld w 5 s, by rw [size_list' s]; exact Lib.run_convert_string_bytes (P := Try.prog) w _ _ _ s Try.underlying9 Try.underlying31 Try.underlying5, fun j b hj => ?_, ⟨rfl, rfl, rfl, ?_, fun k hk => Lib.bytesWorld_at_old w _ s k hk⟩, Lib.bytesWorld_size w _ s⟩
  · have hlt := (List.getElem?_eq_some_iff.1 hj).1
    rw [Lib.bytesWorld_cell w _ s j (by rw [← size_list' s]; exact hlt)]
    rw [List.getD_eq_getElem?_getD, hj]
    rfl
  · rw [Lib.bytesWorld_size]; omega
theorem fix_ok {n : Int} {k : Nat} (h0 : 0 ≤ n) (h1 : n < ((256 ^ k : Nat) : Int)) : n.toNat / 256 ^ k = 0 := Nat.div_eq_of_lt (by omega)
theorem pow_le {k : Nat} (h8 : k ≤ 8) : 256 ^ k ≤ 18446744073709551616 := by
  have := Nat.pow_le_pow_right (show 0 < 256 by omega) h8
  omega
set_option maxHeartbeats 1000000 in
set_option maxRecDepth 20000 in
theorem wfixed_any (n : Int) (k : Nat) (w : World) (h0 : 0 ≤ n) (h1 : n < ((256 ^ k : Nat) : Int)) (k1 : 1 ≤ k) (k8 : k ≤ 8) : Calls Try.prog 46 #[.int .u64 n, .int .i64 (k : Int)] w (NewB w (Num.fx k n.toNat)) := by
  obtain ⟨m, rfl⟩ := Int.eq_ofNat_of_zero_le h0
  have HF := hide (fixed_any m (k : Int) w (by have := pow_le k8; omega) (by omega) (by omega))
  have HK := hide (Num.fixed_ok k1 k8 (fix_ok h0 h1))
  rw [Int.toNat_natCast] at HK
  rw [unhide HK] at HF
  show Calls _ _ _ _ (NewB w (Num.fx k m))
  clear h0 h1
  go_enter Try.func46, Try.ntmps46
  go_wp2_with (go_at_call 67; refine (unhide HF).mono ?_; rintro _ w1 ⟨A1, c1, rfl, hown, hbel, hcc⟩; have HO := hide hown; have HB := hide hbel; have HC := hide hcc; clear hown hbel hcc)
  go_ret
  exact ⟨A1, _, c1, rfl, rfl, unhide HO, unhide HB, unhide HC⟩
set_option maxHeartbeats 1000000 in
set_option maxRecDepth 20000 in
theorem rwide_any (n : Int) (k : Nat) (w : World) (h0 : 0 ≤ n) (h1 : n < ((256 ^ k : Nat) : Int)) (k1 : 1 ≤ k) (k8 : k ≤ 8) : Calls Try.prog 52 #[.int .u64 n, .int .i64 (k : Int)] w (NewB w (Num.fx k n.toNat)) := by
  obtain ⟨m, rfl⟩ := Int.eq_ofNat_of_zero_le h0
  have HF := hide (refFixed_any m (k : Int) w (by have := pow_le k8; omega) (by omega) (by omega))
  have HK := hide (Num.fixed_ok k1 k8 (fix_ok h0 h1))
  rw [Int.toNat_natCast] at HK
  rw [unhide HK] at HF
  show Calls _ _ _ _ (NewB w (Num.fx k m))
  clear h0 h1
  go_enter Try.func52, Try.ntmps52
  go_wp2_with (go_at_call 68; refine (unhide HF).mono ?_; rintro _ w1 ⟨A1, c1, rfl, hown, hbel, hcc⟩; have HO := hide hown; have HB := hide hbel; have HC := hide hcc; clear hown hbel hcc)
  go_ret
  exact ⟨A1, _, c1, rfl, rfl, unhide HO, unhide HB, unhide HC⟩
theorem wuvar_any (n : Int) (w : World) (h0 : 0 ≤ n) (h1 : n < 18446744073709551616) : Calls Try.prog 49 #[.int .u64 n] w (NewB w (Num.uv n.toNat)) := by
  obtain ⟨m, rfl⟩ := Int.eq_ofNat_of_zero_le h0
  exact (uvar_any m w (by omega)).mono fun _ _ h => h.new
theorem ruvar_any (n : Int) (w : World) (h0 : 0 ≤ n) (h1 : n < 18446744073709551616) : Calls Try.prog 55 #[.int .u64 n] w (NewB w (Num.uv n.toNat)) := by
  obtain ⟨m, rfl⟩ := Int.eq_ofNat_of_zero_le h0
  exact (refUvar_any m m w (Nat.le_refl _) (by omega)).mono fun _ _ h => h.new
/-- a text behind its count in one byte, behind its short count -/
def tx1 (s : ByteArray) : List UInt8 := Num.fx 1 s.data.toList.length ++ s.data.toList
def txU (s : ByteArray) : List UInt8 := Num.uv s.data.toList.length ++ s.data.toList
theorem own_part {w w' : World} {l : List UInt8} {A : Option Addr} {n c : Nat} (hn : l.length = n) (ho : w'.ownsRow w.heap.size 5 1 (.slice A n c) n (l.map Bv)) {row : Option Nat} (hr : ∀ k, row = some k → k < w.heap.size) : (⟨l, A, n, c⟩ : Pt).At w' row := ⟨hn, fun h0 => by
  obtain ⟨g, cap, hv, h1, h2⟩ := ho.form (by show 0 < n; rw [← hn]; exact h0)
  have hA : A = some ⟨g, 0, none⟩ := by injection hv
  subst hA
  refine ⟨_, rfl, h2, fun e => ?_, fun j b hj => (ho.cells (g := g) rfl) j _ (by rw [List.getElem?_map, hj]; rfl)⟩
  have := hr g e.symm
  have h1 : w.heap.size ≤ g := h1
  omega⟩
set_option maxHeartbeats 1000000 in
set_option maxRecDepth 20000 in
theorem wtext_any (s : ByteArray) (w : World) (hs : s.size < 1000000) : Calls Try.prog 50 #[.string s] w (NewB w (Num.uv s.data.toList.length ++ s.data.toList)) := by
  have hlen : (Num.uv s.size).length ≤ 10 := Num.uv_len64 (by omega)
  have HS := hide (size_list' s)
  have HU : Hid (Calls Try.prog 49 #[.int .u64 (s.size : Int)] w (NewB w (Num.uv s.size))) := hide (by have h := wuvar_any (s.size : Int) w (by omega) (by omega); rw [Int.toNat_natCast] at h; exact h)
  rw [size_list' s]
  obtain ⟨pre, hpre⟩ : ∃ pre, Num.uv s.size = pre := ⟨_, rfl⟩
  rw [hpre] at hlen HU ⊢
  clear hpre
  go_enter Try.func50, Try.ntmps50
  go_wp2_with (first
    | (go_at_call 49; go_loud (
       refine (unhide HU).mono ?_
       rintro _ w1 ⟨A1, n1, c1, rfl, hn1, hown, hbel, hcc⟩
       obtain ⟨cap, w2, hcv, hc2, hb2, hsz2⟩ := conv_str w1 s
       rw [size_list' s] at hcv
       have hown2 := own_below hown hb2 (fun k hk => (hown.lt k hk).2)
       have HP := hide (put_new pre A1 n1 c1 [⟨s.data.toList, some ⟨w1.heap.size, 0, none⟩, s.size, cap⟩] w.heap.size w2 hn1 hown2 (fun p hp => by
         rw [List.mem_singleton] at hp
         subst hp
         exact ⟨unhide HS, fun hn => ⟨_, rfl, by show w1.heap.size < _; omega, fun e => by have h7 : w1.heap.size < w1.heap.size := (hown.lt _ e.symm).2; omega, fun j b hj => by rw [add_zero_off]; exact hc2 j b hj⟩⟩) (Nat.le_trans hbel.size hb2.size) (by simp [cat]; omega) (by simp))
       have HP2 : Hid (Calls Try.prog 45 #[.slice A1 n1 c1, .slice (some ⟨w2.heap.size, 0, none⟩) 1 1] (w2.alloc (.cells #[.slice (some ⟨w1.heap.size, 0, none⟩) s.size cap] 31)) (PutRes w2 w.heap.size (Value.slice A1 n1 c1).ownBlock (pre ++ s.data.toList))) := by
         have h := unhide HP
         simp only [cat, Pt.v, List.map_cons, List.map_nil, List.flatMap_cons, List.flatMap_nil, List.append_nil] at h
         exact h
       have HB := hide (hbel.trans (hb2.mono hbel.size))
       have HL := hide (fun k hk => (hown.lt k hk).1)
       clear hown hbel hcc hc2 hb2 hsz2 hown2 HP hn1))
    | (go_at_call 45; refine (unhide HP2).mono ?_; rintro _ w4 hres; have HR := hide hres; obtain ⟨A4, n4, c4, rfl, _, _, _, _, _⟩ := hres))
  go_ret
  exact (unhide HR).fresh (unhide HB) (unhide HL)
set_option maxHeartbeats 1000000 in
set_option maxRecDepth 20000 in
theorem rtext_any (s : ByteArray) (w : World) (hs : s.size < 1000000) : Calls Try.prog 56 #[.string s] w (NewB w (Num.uv s.data.toList.length ++ s.data.toList)) := by
  have hlen : (Num.uv s.size).length ≤ 10 := Num.uv_len64 (by omega)
  have HS := hide (size_list' s)
  have HU : Hid (Calls Try.prog 55 #[.int .u64 (s.size : Int)] w (NewB w (Num.uv s.size))) := hide (by have h := ruvar_any (s.size : Int) w (by omega) (by omega); rw [Int.toNat_natCast] at h; exact h)
  rw [size_list' s]
  obtain ⟨pre, hpre⟩ : ∃ pre, Num.uv s.size = pre := ⟨_, rfl⟩
  rw [hpre] at hlen HU ⊢
  clear hpre
  go_enter Try.func56, Try.ntmps56
  go_wp2_with (first
    | (go_at_call 55; go_loud (
       refine (unhide HU).mono ?_
       rintro _ w1 ⟨A1, n1, c1, rfl, hn1, hown, hbel, hcc⟩
       obtain ⟨cap, w2, hcv, hc2, hb2, hsz2⟩ := conv_str w1 s
       rw [size_list' s] at hcv
       have hown2 := own_below hown hb2 (fun k hk => (hown.lt k hk).2)
       have HP := hide (rput_new pre A1 n1 c1 [⟨s.data.toList, some ⟨w1.heap.size, 0, none⟩, s.size, cap⟩] w.heap.size w2 hn1 hown2 (fun p hp => by
         rw [List.mem_singleton] at hp
         subst hp
         exact ⟨unhide HS, fun hn => ⟨_, rfl, by show w1.heap.size < _; omega, fun e => by have h7 : w1.heap.size < w1.heap.size := (hown.lt _ e.symm).2; omega, fun j b hj => by rw [add_zero_off]; exact hc2 j b hj⟩⟩) (Nat.le_trans hbel.size hb2.size) (by simp [cat]; omega) (by simp))
       have HP2 : Hid (Calls Try.prog 51 #[.slice A1 n1 c1, .slice (some ⟨w2.heap.size, 0, none⟩) 1 1] (w2.alloc (.cells #[.slice (some ⟨w1.heap.size, 0, none⟩) s.size cap] 31)) (PutRes w2 w.heap.size (Value.slice A1 n1 c1).ownBlock (pre ++ s.data.toList))) := by
         have h := unhide HP
         simp only [cat, Pt.v, List.map_cons, List.map_nil, List.flatMap_cons, List.flatMap_nil, List.append_nil] at h
         exact h
       have HB := hide (hbel.trans (hb2.mono hbel.size))
       have HL := hide (fun k hk => (hown.lt k hk).1)
       clear hown hbel hcc hc2 hb2 hsz2 hown2 HP hn1))
    | (go_at_call 51; refine (unhide HP2).mono ?_; rintro _ w4 hres; have HR := hide hres; obtain ⟨A4, n4, c4, rfl, _, _, _, _, _⟩ := hres))
  go_ret
  exact (unhide HR).fresh (unhide HB) (unhide HL)
set_option maxHeartbeats 1000000 in
set_option maxRecDepth 20000 in
theorem rone_any (s : ByteArray) (w : World) (hs : s.size < 256) : Calls Try.prog 53 #[.string s] w (NewB w (Num.fx 1 s.data.toList.length ++ s.data.toList)) := by
  have hlen : (Num.fx 1 s.size).length ≤ 10 := by rw [Num.fx_length]; omega
  have HS := hide (size_list' s)
  have HU : Hid (Calls Try.prog 52 #[.int .u64 (s.size : Int), .int .i64 1] w (NewB w (Num.fx 1 s.size))) := hide (by have h := rwide_any (s.size : Int) 1 w (by omega) (by omega) (by omega) (by omega); rw [Int.toNat_natCast] at h; exact h)
  rw [size_list' s]
  obtain ⟨pre, hpre⟩ : ∃ pre, Num.fx 1 s.size = pre := ⟨_, rfl⟩
  rw [hpre] at hlen HU ⊢
  clear hpre
  go_enter Try.func53, Try.ntmps53
  go_wp2_with (first
    | (go_at_call 52; go_loud (
       refine (unhide HU).mono ?_
       rintro _ w1 ⟨A1, n1, c1, rfl, hn1, hown, hbel, hcc⟩
       obtain ⟨cap, w2, hcv, hc2, hb2, hsz2⟩ := conv_str w1 s
       rw [size_list' s] at hcv
       have hown2 := own_below hown hb2 (fun k hk => (hown.lt k hk).2)
       have HP := hide (rput_new pre A1 n1 c1 [⟨s.data.toList, some ⟨w1.heap.size, 0, none⟩, s.size, cap⟩] w.heap.size w2 hn1 hown2 (fun p hp => by
         rw [List.mem_singleton] at hp
         subst hp
         exact ⟨unhide HS, fun hn => ⟨_, rfl, by show w1.heap.size < _; omega, fun e => by have h7 : w1.heap.size < w1.heap.size := (hown.lt _ e.symm).2; omega, fun j b hj => by rw [add_zero_off]; exact hc2 j b hj⟩⟩) (Nat.le_trans hbel.size hb2.size) (by simp [cat]; omega) (by simp))
       have HP2 : Hid (Calls Try.prog 51 #[.slice A1 n1 c1, .slice (some ⟨w2.heap.size, 0, none⟩) 1 1] (w2.alloc (.cells #[.slice (some ⟨w1.heap.size, 0, none⟩) s.size cap] 31)) (PutRes w2 w.heap.size (Value.slice A1 n1 c1).ownBlock (pre ++ s.data.toList))) := by
         have h := unhide HP
         simp only [cat, Pt.v, List.map_cons, List.map_nil, List.flatMap_cons, List.flatMap_nil, List.append_nil] at h
         exact h
       have HB := hide (hbel.trans (hb2.mono hbel.size))
       have HL := hide (fun k hk => (hown.lt k hk).1)
       clear hown hbel hcc hc2 hb2 hsz2 hown2 HP hn1))
    | (go_at_call 51; refine (unhide HP2).mono ?_; rintro _ w4 hres; have HR := hide hres; obtain ⟨A4, n4, c4, rfl, _, _, _, _, _⟩ := hres))
  go_ret
  exact (unhide HR).fresh (unhide HB) (unhide HL)
set_option maxHeartbeats 1000000 in
set_option maxRecDepth 20000 in
theorem wshort_any (s : ByteArray) (w : World) (hs : s.size < 256) : Calls Try.prog 47 #[.string s] w (NewB w (tx1 s)) := by
  obtain ⟨i0, hi, hz0, hz1, hz2⟩ := info_parts u8info
  have HS := hide (size_list' s)
  have e1 : IntKind.u8.wrap (s.size : Int) = (s.size : Int) := by simp [IntKind.wrap, IntKind.signed, IntKind.bits]; omega
  have e2 : Num.fx 1 s.data.toList.length = [UInt8.ofNat s.size] := by rw [size_list' s]; simp [Num.fx]
  have e3 : Bv (UInt8.ofNat s.size) = .int .u8 (s.size : Int) := by unfold Bv; rw [Num.toNat_ofNat_small (by omega)]
  have E2 := hide e2; have E3 := hide e3
  clear e2 e3
  have HO := hide (own_new w w.heap.size #[.int .u8 (s.size : Int)] 5 1 _ (Nat.le_refl _) (by simp [maxLen]) rfl rfl)
  go_enter Try.func47, Try.ntmps47
  go_wp2_with (at_builtin
               refine Lib.wpList_append_own_string _ rfl (.tmp 6) (.tmp 7) 31 9 rfl w.heap.size 5 i0 Try.underlying31 Try.underlying9 hi hz0 hz1 hz2 _ _ _ rfl (unhide HO) s rfl (by simp only [maxLen]; omega) (by omega) (by simp) ?_
               intro v2 w2 hown2 hg2 _
               obtain ⟨A2, c2, rfl, hcc2, _⟩ := own_form hown2)
  go_ret
  have hl : (tx1 s).length = 1 + s.size := by unfold tx1; rw [List.length_append, unhide E2, unhide HS]; rfl
  refine ⟨A2, _, c2, rfl, hl, ?_, ((Below.refl _ _).alloc (Nat.le_refl _) _).grown hg2 (by simp) (fun k hk => ((unhide HO).lt k hk).1), hcc2⟩
  have e5 : (tx1 s).map Bv = [Bv (UInt8.ofNat s.size)] ++ Lib.strCells s := by unfold tx1; rw [List.map_append, unhide E2]; rfl
  rw [e5, unhide E3]
  exact hown2
theorem rgone_any (v : Wire.Vr) (w : World) : Calls Try.prog 54 #[.agg #[.string v.key, .string v.val, .bool v.gone, .int .u64 v.ts, .int .i64 v.dc, .int .i64 v.tx]] w (NewB w [if v.gone then 1 else 0]) := by
  obtain ⟨key, val, gone, ts, dc, tx⟩ := v
  have hq : Blk (w.alloc (.cells #[.string key, .string val, .bool gone, .int .u64 ts, .int .i64 dc, .int .i64 tx] 49)) w.heap.size 49 #[.string key, .string val, .bool gone, .int .u64 ts, .int .i64 dc, .int .i64 tx] := Blk.new _ _ _
  have hb : Below w.heap.size w (w.alloc (.cells #[.string key, .string val, .bool gone, .int .u64 ts, .int .i64 dc, .int .i64 tx] 49)) := (Below.refl _ _).alloc (Nat.le_refl _) _
  obtain ⟨w1, hw1⟩ : ∃ u, w.alloc (.cells #[.string key, .string val, .bool gone, .int .u64 ts, .int .i64 dc, .int .i64 tx] 49) = u := ⟨_, rfl⟩
  rw [hw1] at hq hb
  have c2 : w1.cell? ⟨w.heap.size, 2, none⟩ = some (.bool gone) := hq.cell 2
  have HB := hide hb
  clear hq hb
  cases gone
  all_goals
    go_enter Try.func54, Try.ntmps54
    go_wp2_with fail
    go_ret
    exact ⟨_, _, _, rfl, rfl, own_new w1 _ _ _ 1 _ (unhide HB).size (by simp [maxLen]) rfl rfl, (unhide HB).alloc (unhide HB).size _, Nat.le_refl _⟩
end Go.Proofs.Ytkgacehnpdijaaa
