/- The document's End, walked. -/
import Derived.Test.YtcljendidhfobaaCoDEnd
namespace Go.Proofs.Ytcljendidhfobaa
set_option linter.unusedVariables false
open Go.RowKit

theorem dend_none (S : Nat → Prop) (q : Nat) (oA : Option Addr) (oc : Nat) (D : List Dt) (tx node : Int) (w : World) (h : DocAt w S q oA oc D) (hn : noD D tx) (hl : D.length ≤ 4096) :
    Calls Try.prog 25 #[.pointer (some ⟨q, 0, none⟩), .int .u64 tx, .int .i64 node] w fun e w' => e = .returned (.tuple #[.bool false, .int .i64 7]) ∧ w = w' := by
  have HF := hide (look_no S q oA oc D tx node w h hn hl)
  clear h hn
  go_enter Try.func25, Try.ntmps25
  go_wp2_with (go_at_call 34; refine (unhide HF).mono ?_; rintro _ w2 ⟨rfl, rfl⟩)
  go_ret2
  exact ⟨rfl, rfl⟩
set_option maxHeartbeats 4000000 in
set_option maxRecDepth 20000 in
theorem dend_no (S : Nat → Prop) (q : Nat) (oA : Option Addr) (oc : Nat) (D : List Dt) (tx node : Int) (i : Nat) (d : Dt) (e : Et) (w : World) (h : DocAt w S q oA oc D) (hn : atD D tx i d) (hl : D.length ≤ 4096) (hc : d.l.length ≤ 4096) (hvl : d.vts.length ≤ 4096) (hr : Rel e d) (hv : endedE e node = false) :
    Calls Try.prog 25 #[.pointer (some ⟨q, 0, none⟩), .int .u64 tx, .int .i64 node] w fun r w' => r = .returned (endR e node) ∧ Below w.heap.size w w' := by
  have hdi := hn.1
  have hdm : d ∈ D := List.mem_of_getElem? hdi
  have hil := (List.getElem?_eq_some_iff.1 hdi).1
  have fh := h.hdr
  have hql := h.blk.lt
  obtain ⟨g, hA, hgl, c0, c1, c2, c3⟩ := h.ent hdi
  subst hA
  by_cases hq : hasQ d.l node = true
  · have hh : e.has node = true := by rw [hr.has]; exact hq
    have hdc := decided_any S q (some ⟨g, 0, none⟩) oc D d w h hdm hvl
    have hD : ((d.vts.length : Int) == (d.l.length : Int)) = e.dec := by unfold Et.dec; rw [hr.vlen, hr.slen]
    rw [hD] at hdc
    have HDC := hide hdc
    by_cases hd : e.dec = true
    · obtain ⟨k, v, hkv⟩ := hr.full hd hh
      have HF := hide (look_at h hn hl hc hvl hq hkv)
      have hct : e.ended.contains node = true := by
        rw [endedE, hh, hd] at hv
        simpa only [Bool.true_and, Bool.not_eq_false'] using hv
      have hR : endR e node = .tuple #[.bool false, .int .i64 8] := by unfold endR; rw [if_neg (by rw [hh]; decide), if_neg (by rw [hd]; decide), if_pos hct]
      rw [hR]
      have hv2 : v.2.2 = true := by rw [hr.ended v (List.mem_of_getElem? hkv.1), hkv.2.1]; exact hct
      rw [hd] at HDC
      have hkl := (List.getElem?_eq_some_iff.1 hkv.1).1
      have HH := hide h; have HDM := hide hdm; have HDI := hide hdi; have HKV := hide hkv.1
      clear h hn hdi hr hv hkv hR hq hct hdm hd hh hdc hD
      go_enter Try.func25, Try.ntmps25
      go_wp2_with (first
        | (go_at_call 34; refine (unhide HF).mono ?_; rintro _ w2 ⟨rfl, rfl⟩)
        | (go_at_call 35; refine (unhide HDC).mono ?_; rintro _ w3 ⟨rfl, hb3⟩
           have h3 := (unhide HH).new hb3
           have fh3 := h3.hdr
           obtain ⟨g3, hA3, hgl3, c03, c13, c23, c33⟩ := h3.ent (unhide HDI)
           injection hA3 with hA3
           injection hA3 with hA3 _
           subst hA3
           obtain ⟨vg, hvA, hvgl, v0, v1, v2⟩ := h3.vote (unhide HDM) (unhide HKV)
           rw [hvA] at c33
           rw [hv2] at v2
           have hql3 := h3.blk.lt
           have HB3 := hide hb3
           clear h3 hb3))
      go_ret2
      exact ⟨rfl, unhide HB3⟩
    · have hd2 : e.dec = false := by simpa only [Bool.not_eq_true] using hd
      have hR : endR e node = .tuple #[.bool false, .int .i64 19] := by unfold endR; rw [if_neg (by rw [hh]; decide), if_pos hd2]
      rw [hR]
      rw [hd2] at HDC
      rcases atV_or d.vts node with ⟨k, v, hkv⟩ | hnv
      · have HF := hide (look_at h hn hl hc hvl hq hkv)
        clear h hn hdi hr hv hkv hR hq hdm hd hd2 hh hdc hD
        go_enter Try.func25, Try.ntmps25
        go_wp2_with (first
          | (go_at_call 34; refine (unhide HF).mono ?_; rintro _ w2 ⟨rfl, rfl⟩)
          | (go_at_call 35; refine (unhide HDC).mono ?_; rintro _ w3 ⟨rfl, hb3⟩; have HB3 := hide hb3; clear hb3))
        go_ret2
        exact ⟨rfl, unhide HB3⟩
      · have HF := hide (look_new h hn hl hc hvl hq hnv)
        clear h hn hdi hr hv hnv hR hq hdm hd hd2 hh hdc hD
        go_enter Try.func25, Try.ntmps25
        go_wp2_with (first
          | (go_at_call 34; refine (unhide HF).mono ?_; rintro _ w2 ⟨rfl, rfl⟩)
          | (go_at_call 35; refine (unhide HDC).mono ?_; rintro _ w3 ⟨rfl, hb3⟩; have HB3 := hide hb3; clear hb3))
        go_ret2
        exact ⟨rfl, unhide HB3⟩
  · have hq2 : hasQ d.l node = false := by simpa only [Bool.not_eq_true] using hq
    have HF := hide (look_18 h hn hl hc hvl hq2)
    have hR : endR e node = .tuple #[.bool false, .int .i64 18] := by unfold endR; rw [if_pos (by rw [hr.has]; exact hq2)]
    rw [hR]
    clear h hn hdi hr hv hR hq hq2 hdm
    go_enter Try.func25, Try.ntmps25
    go_wp2_with (go_at_call 34; refine (unhide HF).mono ?_; rintro _ w2 ⟨rfl, rfl⟩)
    go_ret2
    exact ⟨rfl, Below.refl _ _⟩
theorem erow_one {D : List Dt} : ∀ u ∈ erow D, u.oneCell' = true := by
  intro u hu
  obtain ⟨v, _, hv⟩ := List.mem_flatMap.1 hu
  simp [Dt.cs, Dt.sv, Dt.vv] at hv
  rcases hv with rfl | rfl | rfl | rfl <;> rfl
theorem RdV.dropAt {w : World} {B g : Nat} {xs : List Value} (h : RdV w B (some ⟨g, 0, none⟩) xs) (k : Nat) : RdV w B (some ⟨g, k, none⟩) (xs.drop k) := fun hn => by
  rw [List.length_drop] at hn
  obtain ⟨ad, e, hb, hc⟩ := h (by omega)
  injection e with e
  subst e
  refine ⟨_, rfl, hb, fun j u hu => ?_⟩
  rw [List.getElem?_drop] at hu
  have := hc (k + j) u hu
  rw [Addr.add_lit] at this ⊢
  rw [Nat.zero_add] at this
  exact this
theorem RdV.takeAt {w : World} {B : Nat} {A : Option Addr} {xs : List Value} (h : RdV w B A xs) (n : Nat) : RdV w B A (xs.take n) := fun hn => by
  obtain ⟨ad, e, h1, h3⟩ := h (by rw [List.length_take] at hn; omega)
  exact ⟨ad, e, h1, fun j u hu => h3 j u (by
    rw [List.getElem?_take] at hu
    split at hu
    · exact hu
    · cases hu)⟩
def endD (D : List Dt) (i : Nat) (e : Et) (d' : Dt) : List Dt := if lastE e then (D.set i d').eraseIdx i else D.set i d'
theorem endD_last {D : List Dt} {i : Nat} {e : Et} {d' : Dt} (h : lastE e = true) : endD D i e d' = (D.set i d').eraseIdx i := if_pos h
theorem endD_more {D : List Dt} {i : Nat} {e : Et} {d' : Dt} (h : lastE e = false) : endD D i e d' = D.set i d' := if_neg (by simp [h])
/-- what an end leaves of the document's table -/
def DEnded (S : Nat → Prop) (q : Nat) (D : List Dt) (i : Nat) (d : Dt) (e : Et) (node : Int) (w w' : World) : Prop :=
  ∃ (k : Nat) (v : Vt) (oA' : Option Addr) (oc' : Nat) (S' : Nat → Prop), atV d.vts node k v ∧ DocAt w' S' q oA' oc' (endD D i e (endV d k v)) ∧ Only S w w' ∧ ∀ k, S' k → S k ∨ w.heap.size ≤ k
set_option maxHeartbeats 16000000 in
set_option maxRecDepth 20000 in
theorem dend_yes (S : Nat → Prop) (q : Nat) (oA : Option Addr) (oc : Nat) (D : List Dt) (tx node : Int) (i : Nat) (d : Dt) (e : Et) (w : World) (h : DocAt w S q oA oc D) (hn : atD D tx i d) (hl : D.length ≤ 4096) (hc : d.l.length ≤ 4096) (hvl : d.vts.length ≤ 4096) (hr : Rel e d) (hv : endedE e node = true) :
    Calls Try.prog 25 #[.pointer (some ⟨q, 0, none⟩), .int .u64 tx, .int .i64 node] w fun r w' => r = .returned (endR e node) ∧ DEnded S q D i d e node w w' := by
  obtain ⟨i0, hi, hz0, hz1, hz2⟩ := info_parts entinfo
  obtain ⟨hh, hd, hct⟩ := endedE_yes hv
  have hdi := hn.1
  have hdm : d ∈ D := List.mem_of_getElem? hdi
  have hil := (List.getElem?_eq_some_iff.1 hdi).1
  have fh := h.hdr
  have hql := h.blk.lt
  obtain ⟨g, hA, hgl, c0, c1, c2, c3⟩ := h.ent hdi
  subst hA
  have hq : hasQ d.l node = true := by rw [← hr.has]; exact hh
  have hdc := decided_any S q (some ⟨g, 0, none⟩) oc D d w h hdm hvl
  have hD : ((d.vts.length : Int) == (d.l.length : Int)) = e.dec := by unfold Et.dec; rw [hr.vlen, hr.slen]
  rw [hD, hd] at hdc
  have HDC := hide hdc
  obtain ⟨k, v, hkv⟩ := hr.full hd hh
  have HF := hide (look_at h hn hl hc hvl hq hkv)
  have hR : endR e node = .tuple #[.bool (lastE e), .int .i64 0] := by unfold endR; rw [if_neg (by rw [hh]; decide), if_neg (by rw [hd]; decide), if_neg (by rw [hct]; decide)]
  rw [hR]
  have hv2 : v.2.2 = false := by rw [hr.ended v (List.mem_of_getElem? hkv.1), hkv.2.1]; exact hct
  have hkl := (List.getElem?_eq_some_iff.1 hkv.1).1
  have hall := (hr.end_ hkv hct).all hd
  have HALL := hide hall
  have HH := hide h; have HDM := hide hdm; have HDI := hide hdi; have HKV := hide hkv
  obtain ⟨L, hL⟩ : ∃ L, lastE e = L := ⟨_, rfl⟩
  have HLL := hide hL
  rw [hL]
  clear h hn hdi hr hv hkv hR hq hct hdm hd hh hdc hD hall hL
  go_enter Try.func25, Try.ntmps25
  go_wp2_with (first
    | (go_at_call 34; refine (unhide HF).mono ?_; rintro _ w2 ⟨rfl, rfl⟩)
    | (go_at_call 35; refine (unhide HDC).mono ?_; rintro _ w3 ⟨rfl, hb3⟩
       have h3 := (unhide HH).new hb3
       have fh3 := h3.hdr
       obtain ⟨g3, hA3, hgl3, c03, c13, c23, c33⟩ := h3.ent (unhide HDI)
       injection hA3 with hA3
       injection hA3 with hA3 _
       subst hA3
       obtain ⟨vg, hvA, hvgl, v0, v1, v2⟩ := h3.vote (unhide HDM) (unhide HKV).1
       have HVA := hide hvA
       have HENDS := hide (h3.ends (unhide HDI) (unhide HKV).1 hvA)
       rw [hvA] at c33
       rw [hv2] at v2
       have hql3 := h3.blk.lt
       obtain ⟨csv, hbv⟩ := own_blk (h3.vts d (unhide HDM)) (g := vg) (by unfold Dt.vv; rw [hvA]; rfl)
       have fzv := hbv.frozen (k * 3 + 2)
       have HB3 := hide hb3
       clear h3 hb3 hbv hvA))
  obtain ⟨h5, ho5⟩ := unhide HENDS
  obtain ⟨w5, hw5⟩ : ∃ u, w3.setCell ⟨vg, k * 3 + 2, none⟩ (.bool true) = u := ⟨_, rfl⟩
  rw [hw5] at h5 ho5 ⊢
  have hd5 : (D.set i (endV d k v))[i]? = some (endV d k v) := List.getElem?_set_self hil
  have hvn : (endV d k v).vts.length = d.vts.length := by show (d.vts.set k _).length = _; rw [List.length_set]
  have hvA5 : (endV d k v).vA = some ⟨vg, 0, none⟩ := unhide HVA
  obtain ⟨D1, hD1⟩ : ∃ D1, D.set i (endV d k v) = D1 := ⟨_, rfl⟩
  have hD1l : D1.length = D.length := by rw [← hD1, List.length_set]
  rw [hD1] at h5 hd5
  have fh5 := h5.hdr
  rw [hD1l] at fh5
  have hql5 := h5.blk.lt
  obtain ⟨g5, hA5, hgl5, e0, e1, e2, e3⟩ := h5.ent hd5
  injection hA5 with hA5
  injection hA5 with hA5 _
  subst hA5
  rw [hvA5, hvn] at e3
  have H5 := hide h5; have HD5 := hide hd5; have HD1 := hide hD1; have HVN := hide hvn; have HD1L := hide hD1l
  have HO5 := hide ((Only.of_new (unhide HB3)).trans ho5)
  have hs5 : w.heap.size ≤ w5.heap.size := (unhide HO5).size
  have HDM5 := hide (List.mem_of_getElem? hd5)
  obtain ⟨vts', hvts'⟩ : ∃ x, (endV d k v).vts = x := ⟨_, rfl⟩
  have HVT := hide hvts'
  rw [hvts'] at hvn
  have HVN2 := hide hvn
  clear h5 ho5 hw5 hd5 hvA5 hD1 hD1l HENDS v0 v1 v2 fzv c0 c1 c2 c3 c03 c13 c23 c33 fh fh3 hgl3 hql3 hvgl hvn hvts'
  go_loopw [13] (fun nv wr => ∃ n : Nat, n ≤ d.vts.length ∧ nv = .int .i64 n ∧ (∀ (j : Nat) (x : Vt), j < n → vts'[j]? = some x → x.2.2 = true) ∧ w5 = wr) (fun nv _ => d.vts.length - (intOf nv).toNat)
  case atStart => exact ⟨0, by omega, rfl, fun j x hj => by omega, rfl⟩
  case round =>
    obtain ⟨n, hn, rfl, hyes, rfl⟩ := hrel
    have HY := hide hyes
    clear hyes
    by_cases hlt : n < d.vts.length
    · obtain ⟨x, hx⟩ : ∃ x, vts'[n]? = some x := ⟨vts'[n]'(by rw [unhide HVN2]; exact hlt), List.getElem?_eq_getElem _⟩
      obtain ⟨vg2, hvA2, hvgl2, v0, v1, v2⟩ := (unhide H5).vote (unhide HDM5) (k := n) (v := x) (by rw [unhide HVT]; exact hx)
      have hvA3 : some (⟨vg, 0, none⟩ : Addr) = some ⟨vg2, 0, none⟩ := (unhide HVA).symm.trans hvA2
      injection hvA3 with hvA3
      injection hvA3 with hvA3 _
      subst hvA3
      have HX := hide hx
      clear hx hvA2
      obtain ⟨xn, xt, xb⟩ := x
      simp only at v0 v1 v2
      cases xb with
      | true =>
        go_wp2_with fail
        refine ⟨⟨n + 1, by omega, by go_num, fun j y hj hy => ?_, by first | rfl | trivial⟩, by simp [intOf]; omega⟩
        rcases Nat.lt_or_ge j n with h1 | h1
        · exact unhide HY j y h1 hy
        · obtain rfl : j = n := by omega
          rw [unhide HX] at hy
          injection hy with hy
          subst hy
          rfl
      | false =>
        have hLf : L = false := by
          cases L with
          | false => rfl
          | true =>
            have := (unhide HALL).2 (unhide HLL) (xn, xt, false) (by rw [unhide HVT]; exact List.mem_of_getElem? (unhide HX))
            cases this
        subst hLf
        go_wp2_with fail
        go_ret2
        refine ⟨rfl, k, v, some ⟨g, 0, none⟩, oc, S, unhide HKV, ?_, unhide HO5, fun k hk => .inl hk⟩
        rw [endD_more (unhide HLL), unhide HD1]
        exact unhide H5
    · obtain rfl : n = d.vts.length := by omega
      have hLt : L = true := by
        have := (unhide HALL).1 (fun y hy => by
          rw [unhide HVT] at hy
          obtain ⟨j, hj⟩ := List.mem_iff_getElem?.1 hy
          exact unhide HY j y (by rw [← unhide HVN2]; exact (List.getElem?_eq_some_iff.1 hj).1) hj)
        rw [unhide HLL] at this
        exact this
      subst hLt
      have hcap : D.length ≤ oc := by
        obtain ⟨A0, c0, hv0, hc0, _⟩ := own_form (unhide H5).row
        injection hv0 with _ _ h2
        rw [unhide HD1L] at hc0
        omega
      have hiz : (i : Int) ≤ (oc : Int) := by omega
      have HRD := hide (RdV.of_own (unhide H5).row)
      have hel := erow_len D1
      rw [unhide HD1L] at hel
      have HOn : Hid ((w5.alloc (.cells #[] 82)).ownsRow w5.heap.size 82 4 (.slice (some ⟨w5.heap.size, 0, none⟩) 0 0) 0 []) := hide (World.ownsRow_lit w5 #[] 0 (Nat.le_refl _) (by simp [maxLen]) rfl)
      have herase : erow (D1.eraseIdx i) = (erow D1).take (i * 4) ++ (erow D1).drop ((i + 1) * 4) := by
        have hs : ∀ (l : List Dt) (n : Nat), erow (l.take n) = (erow l).take (n * 4) ∧ erow (l.drop n) = (erow l).drop (n * 4) := by
          intro l
          induction l with
          | nil => intro n; simp [erow]
          | cons a r ih =>
            intro n
            cases n with
            | zero => simp [erow]
            | succ n =>
              obtain ⟨h1, h2⟩ := ih n
              have e4 : a.cs.length = 4 := rfl
              constructor
              · show a.cs ++ erow (r.take n) = (a.cs ++ erow r).take ((n + 1) * 4)
                have t1 : a.cs.take ((n + 1) * 4) = a.cs := List.take_of_length_le (by rw [e4]; omega)
                rw [h1, List.take_append, t1, e4, show (n + 1) * 4 - 4 = n * 4 by omega]
              · show erow (r.drop n) = (a.cs ++ erow r).drop ((n + 1) * 4)
                have t2 : a.cs.drop ((n + 1) * 4) = [] := List.drop_of_length_le (by rw [e4]; omega)
                rw [h2, List.drop_append, t2, e4, show (n + 1) * 4 - 4 = n * 4 by omega, List.nil_append]
        rw [List.eraseIdx_eq_take_drop_succ, erow_app, (hs D1 i).1, (hs D1 (i + 1)).2]
      have hlerase : (D1.eraseIdx i).length = i + (D.length - (i + 1)) := by
        rw [List.length_eraseIdx, unhide HD1L, if_pos hil]
        omega
      have HER := hide herase; have HLE := hide hlerase
      clear herase hlerase
      have hoc : oc = i + 1 ∨ ¬ oc = i + 1 := Nat.decEq oc (i + 1) |>.em
      have HEL := hide hel
      clear hel
      rcases hoc with hoc | hoc
      · have hDi : D.length - (i + 1) = 0 := by omega
        have HRR : Hid (∀ (u : World) (B : Nat) (A : Option Addr), RdV u B A ((erow D1).drop ((i + 1) * 4))) := hide (fun u B A hn => absurd hn (by rw [List.length_drop, unhide HEL]; omega))
        have HDI0 := hide hDi
        clear hDi
        subst hoc
        go_wp2_with (first
          | (at_builtin
             refine wpList_append_any _ rfl (.tmp 88) (.tmp 94) _ rfl w5.heap.size 82 i0 _ 4 64 Try.underlying62 hi hz0 hz1 hz2 rfl (by omega) _ 0 [] rfl (unhide HOn) _ (some ⟨g, 0, none⟩) i _ ((erow D1).take (i * 4)) rfl (((unhide HRD).takeAt (i * 4)).below ((Below.refl _ _).alloc (Nat.le_refl _) _)) (by rw [List.length_take, unhide HEL]; omega) (fun u hu => erow_one u (List.mem_of_mem_take hu)) (by simp only [maxLen]; omega) (by omega) (by simp) ?_
             intro A9 c9 w9 hown9 hg9 hat9 hbel9 hcc9
             rw [Nat.zero_add, List.nil_append] at hown9; rw [Nat.zero_add]
             have hb59 : Below w5.heap.size w5 w9 := ((Below.refl _ w5).alloc (Nat.le_refl _) (.cells #[] 82)).trans hbel9
             have h9 := (unhide H5).new hb59
             have fh9 := h9.hdr
             rw [unhide HD1L] at fh9
             have hql9 := h9.blk.lt
             have HRD9 := hide ((unhide HRD).below hb59)
             have HO9 := hide hown9; have H9 := hide h9; have HB59 := hide hb59
             clear hown9 hg9 hat9 hbel9 hcc9 hb59 h9)
          | (at_builtin
             refine wpList_append_any _ rfl (.tmp 97) (.tmp 104) _ rfl w5.heap.size 82 i0 _ 4 64 Try.underlying62 hi hz0 hz1 hz2 rfl (by omega) _ i _ rfl (unhide HO9) 0 _ 0 _ [] rfl RdV.nil rfl (by simp) (by simp only [maxLen]; omega) (by omega) (unhide HB59).size ?_
             intro A10 c10 w10 hown10 hg10 hat10 hbel10 hcc10
             rw [List.append_nil] at hown10
             try rw [Nat.add_zero] at hown10
             try rw [Nat.add_zero]
             have hb10 := (unhide H9).blk.grown hg10 (fun e => by
               obtain ⟨cur, hb⟩ := own_blk (unhide HO9) e.symm
               exact absurd (blk_type (unhide H9).blk hb) (by decide))
             have fzq10 := hb10.frozen 0; have fq10 : w10.cell? ⟨q, 0, none⟩ = some (.slice (some ⟨g, 0, none⟩) D1.length (i + 1)) := hb10.cell 0
             have hql10 := hb10.lt
             have HO10 := hide hown10; have HBK10 := hide hb10; have HB510 := hide ((unhide HB59).trans hbel10)
             clear hown10 hg10 hat10 hbel10 hcc10 hb10))
        go_ret2
        have hoq : Only (fun k => k = q) w5 (w10.setCell ⟨q, 0, none⟩ (.slice A10 i c10)) := Only.setCell (S := fun k => k = q) (p := ⟨q, 0, none⟩) (Only.of_new (unhide HB510)) rfl _
        have hi0 : i + (D.length - (i + 1)) = i := by have := unhide HDI0; omega
        have hdr0 : (erow D1).drop ((i + 1) * 4) = [] := List.eq_nil_of_length_eq_zero (by rw [List.length_drop, unhide HEL]; have := unhide HDI0; omega)
        have hle2 := unhide HLE
        have her2 := unhide HER
        rw [hi0] at hle2
        rw [hdr0, List.append_nil] at her2
        have hbk : Blk (w10.setCell ⟨q, 0, none⟩ (.slice A10 i c10)) q 64 #[.slice A10 (D1.eraseIdx i).length c10] := by
          rw [hle2]
          exact (unhide HBK10).set_ 0 (.slice A10 i c10)
        have hrow : (w10.setCell ⟨q, 0, none⟩ (.slice A10 i c10)).ownsRow w5.heap.size 82 4 (.slice A10 (D1.eraseIdx i).length c10) (D1.eraseIdx i).length (erow (D1.eraseIdx i)) := by
          rw [hle2, her2]
          refine own_only (unhide HO10) (Only.setCell (S := fun k => k = q) (p := ⟨q, 0, none⟩) (Only.refl _ _) rfl _) fun b hb e => ?_
          subst e
          obtain ⟨cur, hb1⟩ := own_blk (unhide HO10) hb
          exact absurd (blk_type (unhide HBK10) hb1) (by decide)
        have hfin := (unhide H5).erase hoq hbk hrow
        refine ⟨rfl, k, v, A10, c10, (fun b => S b ∨ (w5.heap.size ≤ b ∧ b < (w10.setCell ⟨q, 0, none⟩ (.slice A10 i c10)).heap.size)), unhide HKV, ?_, (unhide HO5).trans (hoq.mono fun b _ hb => by rw [hb]; exact (unhide HH).foot q (.inl rfl)), fun b hb => hb.imp id fun h => Nat.le_trans hs5 h.1⟩
        rw [endD_last (unhide HLL), unhide HD1]
        exact hfin
      · have hoc2 : ¬ i + 1 = oc := by omega
        have hsl : (i : Int) + 1 ≤ (D.length : Int) := by omega
        have hsl2 : i + 1 ≤ D.length := by omega
        go_wp2_with (first
          | (at_builtin
             refine wpList_append_any _ rfl (.tmp 88) (.tmp 94) _ rfl w5.heap.size 82 i0 _ 4 64 Try.underlying62 hi hz0 hz1 hz2 rfl (by omega) _ 0 [] rfl (unhide HOn) _ (some ⟨g, 0, none⟩) i _ ((erow D1).take (i * 4)) rfl (((unhide HRD).takeAt (i * 4)).below ((Below.refl _ _).alloc (Nat.le_refl _) _)) (by rw [List.length_take, unhide HEL]; omega) (fun u hu => erow_one u (List.mem_of_mem_take hu)) (by simp only [maxLen]; omega) (by omega) (by simp) ?_
             intro A9 c9 w9 hown9 hg9 hat9 hbel9 hcc9
             rw [Nat.zero_add, List.nil_append] at hown9; rw [Nat.zero_add]
             have hb59 : Below w5.heap.size w5 w9 := ((Below.refl _ w5).alloc (Nat.le_refl _) (.cells #[] 82)).trans hbel9
             have h9 := (unhide H5).new hb59
             have fh9 := h9.hdr
             rw [unhide HD1L] at fh9
             have hql9 := h9.blk.lt
             have HRD9 := hide ((unhide HRD).below hb59)
             have HO9 := hide hown9; have H9 := hide h9; have HB59 := hide hb59
             clear hown9 hg9 hat9 hbel9 hcc9 hb59 h9)
          | (at_builtin
             refine wpList_append_any _ rfl (.tmp 97) (.tmp 104) _ rfl w5.heap.size 82 i0 _ 4 64 Try.underlying62 hi hz0 hz1 hz2 rfl (by omega) _ i _ rfl (unhide HO9) _ _ (D.length - (i + 1)) _ ((erow D1).drop ((i + 1) * 4)) rfl ((unhide HRD9).dropAt ((i + 1) * 4)) (by rw [List.length_drop, unhide HEL]; omega) (fun u hu => erow_one u (List.mem_of_mem_drop hu)) (by simp only [maxLen]; omega) (by omega) (unhide HB59).size ?_
             intro A10 c10 w10 hown10 hg10 hat10 hbel10 hcc10
             have hb10 := (unhide H9).blk.grown hg10 (fun e => by
               obtain ⟨cur, hb⟩ := own_blk (unhide HO9) e.symm
               exact absurd (blk_type (unhide H9).blk hb) (by decide))
             have fzq10 := hb10.frozen 0; have fq10 : w10.cell? ⟨q, 0, none⟩ = some (.slice (some ⟨g, 0, none⟩) D1.length oc) := hb10.cell 0
             have hql10 := hb10.lt
             have HO10 := hide hown10; have HBK10 := hide hb10; have HB510 := hide ((unhide HB59).trans hbel10)
             clear hown10 hg10 hat10 hbel10 hcc10 hb10))
        go_ret2
        have hoq : Only (fun k => k = q) w5 (w10.setCell ⟨q, 0, none⟩ (.slice A10 (i + (D.length - (i + 1))) c10)) := Only.setCell (S := fun k => k = q) (p := ⟨q, 0, none⟩) (Only.of_new (unhide HB510)) rfl _
        have hbk : Blk (w10.setCell ⟨q, 0, none⟩ (.slice A10 (i + (D.length - (i + 1))) c10)) q 64 #[.slice A10 (D1.eraseIdx i).length c10] := by
          rw [unhide HLE]
          exact (unhide HBK10).set_ 0 (.slice A10 (i + (D.length - (i + 1))) c10)
        have hrow : (w10.setCell ⟨q, 0, none⟩ (.slice A10 (i + (D.length - (i + 1))) c10)).ownsRow w5.heap.size 82 4 (.slice A10 (D1.eraseIdx i).length c10) (D1.eraseIdx i).length (erow (D1.eraseIdx i)) := by
          rw [unhide HLE, unhide HER]
          refine own_only (unhide HO10) (Only.setCell (S := fun k => k = q) (p := ⟨q, 0, none⟩) (Only.refl _ _) rfl _) fun b hb e => ?_
          subst e
          obtain ⟨cur, hb1⟩ := own_blk (unhide HO10) hb
          exact absurd (blk_type (unhide HBK10) hb1) (by decide)
        have hfin := (unhide H5).erase hoq hbk hrow
        refine ⟨rfl, k, v, A10, c10, (fun b => S b ∨ (w5.heap.size ≤ b ∧ b < (w10.setCell ⟨q, 0, none⟩ (.slice A10 (i + (D.length - (i + 1))) c10)).heap.size)), unhide HKV, ?_, (unhide HO5).trans (hoq.mono fun b _ hb => by rw [hb]; exact (unhide HH).foot q (.inl rfl)), fun b hb => hb.imp id fun h => Nat.le_trans hs5 h.1⟩
        rw [endD_last (unhide HLL), unhide HD1]
        exact hfin
end Go.Proofs.Ytcljendidhfobaa
