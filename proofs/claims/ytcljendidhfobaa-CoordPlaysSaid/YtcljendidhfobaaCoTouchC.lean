/- Does an entry under way touch a range (by the program)? -/
import Derived.Test.YtcljendidhfobaaCoTouch
import Derived.Test.YtcljendidhfobaaCoWrites
namespace Go.Proofs.Ytcljendidhfobaa
set_option linter.unusedVariables false
open Go.RowKit

set_option maxHeartbeats 8000000 in
set_option maxRecDepth 20000 in
theorem touches_any (S : Nat → Prop) (p : Nat) (T : List Et) (lo hi : ByteArray) (w : World) (h : TabAt w S p T) (hw : ∀ e ∈ T, 0 ≤ e.tx ∧ e.tx ≤ 18446744073709551615) (hc : ∀ e ∈ T, e.shs.length ≤ 4096 ∧ (flatS e.shs).length ≤ 1000000) :
    Calls Try.prog 28 #[.pointer (some ⟨p, 0, none⟩), .string lo, .string hi] w fun e w' => e = .returned (.bool (touchT lo hi (T.map Et.shs))) ∧ Below w.heap.size w w' := by
  have hkeys := h.keys
  have HT := hide h
  obtain ⟨y, h⟩ := h
  have fc := h.cell
  have hpl := h.blk.lt
  have hsy := h.sm
  have HM := hide h.map
  have HW := hide hw; have HC := hide hc; have HKE := hide hkeys
  have hym : y.m < w.heap.size := h.lt _ h.sm
  clear h hw hc hkeys
  go_enter Try.func28, Try.ntmps28
  go_wp2_with (at_range; refine wpList_range_kq _ rfl (.tmp 15) rfl Try.underlying31 Try.underlying70 rfl (unhide HM) ?_
               intro w8 hrg8 hg8 hs8
               have HRG8 := hide hrg8
               have HO8 := hide (Only.of_grown (S := fun _ => False) hg8 (fun k e => by cases e))
               clear hrg8 hg8 hs8)
  go_frame
  obtain ⟨rr, hrr⟩ : ∃ u, w.heap.size = u := ⟨_, rfl⟩
  have HRR := hide hrr
  rw [hrr] at HRG8 hym ⊢
  clear hrr
  go_loopw [7] (fun ev wx => ∃ (left : Int → Bool) (cnt : Nat), Rq Try.prog 31 .u64 (.pointer none) wx y.m rr T.length (fun a => (getT T a).map fun _ => ptrOf (y.X a)) left cnt ∧ (∀ e ∈ T, left e.tx = false → touchV lo hi (flatS e.shs) = false) ∧ Only (fun k => rr ≤ k) w wx) (fun _ wx => wx.rangeLeft y.m rr)
  case atStart =>
    refine ⟨_, _, unhide HRG8, fun e he h => ?_, (unhide HO8).mono fun k _ h => h.elim⟩
    exfalso
    rw [getT_of_mem (unhide HKE) he] at h
    cases h
  case round =>
    obtain ⟨left, cnt, hrg, hno, ho⟩ := hrel
    have HRG := hide hrg; have HNO := hide hno; have HO := hide ho
    have hb : Below w.heap.size w wr := (ho.mono fun k _ h => by rw [unhide HRR]; exact h).below (Nat.le_refl _) (fun k h => h)
    have HB := hide hb
    have hsz := hb.size
    clear hrg hno ho hb
    go_wp2_with (at_next; refine wpList_next_kq _ rfl (.tmp 16) rfl Try.underlying31 rfl (unhide HRG) ?_ ?_)
    · intro hdone
      have HDN := hide hdone
      clear hdone
      go_wp2_with fail
      go_ret
      refine ⟨?_, unhide HB⟩
      have : touchT lo hi (T.map Et.shs) = false := List.any_eq_false.2 fun s hs => by
        obtain ⟨e, he, rfl⟩ := List.mem_map.1 hs
        have hx := unhide HW e he
        rw [unhide HNO e he (unhide HDN _ (by simp [Lit.wf, IntKind.min, IntKind.max, IntKind.signed, IntKind.bits]; omega))]
        decide
      rw [this]
      rfl
    · intro x c wy cnt' hwx hlx e hg hpc hrg hlt' hgy hsy2 hen
      subst hpc
      have he := getT_mem hg
      have hx := getT_tx hg
      subst hx
      have hex := unhide HW e he
      have hec := unhide HC e he
      have HRG2 := hide hrg; have HGY := hide hgy; have HE := hide he; have HLT := hide hlt'
      have hby : Below w.heap.size wr wy := (Only.of_grown hgy fun k e => by injection e with e; exact e.symm : Only (fun k => k = rr) wr wy).below hsz fun k h => by rw [h, unhide HRR]; exact Nat.le_refl _
      have hoy : Only (fun k => rr ≤ k) w wy := (unhide HO).trans (Only.of_grown hgy fun k e => by injection e with e; rw [← e]; exact Nat.le_refl _)
      have HOY := hide hoy
      have HBY := hide ((unhide HB).trans hby)
      have hty := (unhide HT).new ((unhide HB).trans hby)
      have HWR := hide (writes_any S p T e.tx e wy hty hex.1 hex.2 hg hec.1 hec.2)
      have hfl := hec.2
      have hszy := ((unhide HB).trans hby).size
      clear hwx hlx hrg hlt' hgy hsy2 hg he hex hec hby hty hoy
      obtain ⟨V, hV⟩ : ∃ V, flatS e.shs = V := ⟨_, rfl⟩
      rw [hV] at HWR hfl
      have HVV := hide hV
      clear hV
      go_wp2_with (first
        | (go_at_call 12; refine (unhide HWR).mono ?_; rintro _ w2 ⟨A2, c2, rfl, ho2, hb2⟩
           have HR2 := hide (RdV.of_own ho2)
           have HB2 := hide ((unhide HBY).trans (hb2.mono hszy))
           have hsz2 := (unhide HB2).size
           have hrl : rr < w2.heap.size := Nat.lt_of_lt_of_le (unhide HRG2).lt hb2.size
           have HRG3 := hide ((unhide HRG2).only (S := fun _ => False) (Only.of_new hb2) (fun h => h) (fun h => h))
           have HO2 := hide ((unhide HOY).trans (Only.of_new hb2))
           clear ho2 hb2))
      go_loopw [9, 25] (fun vv jv wq => ∃ j : Nat, j ≤ V.length ∧ jv = .int .i64 j ∧ (∀ (n : Nat) (x : Vr), n < j → V[n]? = some x → withB lo hi x.key = false) ∧ Below w2.heap.size w2 wq) (fun _ jv _ => V.length - (intOf jv).toNat)
      case atStart => exact ⟨0, by omega, rfl, fun j x hj => by omega, Below.refl _ _⟩
      case round =>
        obtain ⟨j, hj, rfl, hnv, hbq⟩ := hrel
        have HNV := hide hnv; have HBQ := hide hbq
        have hsq := hbq.size
        have HRQ := hide ((unhide HR2).below hbq)
        clear hnv hbq
        by_cases hjl : j < V.length
        · obtain ⟨v, hv⟩ : ∃ v, V[j]? = some v := ⟨V[j], List.getElem?_eq_getElem hjl⟩
          obtain ⟨qd, hA2, _, a0, a1, a2, a3, a4, a5⟩ := verAt (unhide HRQ) hv
          subst hA2
          have HV := hide hv
          obtain ⟨b, hb⟩ : ∃ b, withB lo hi v.key = b := ⟨_, rfl⟩
          have HBB := hide hb
          have hwt := fun w => within_any v.key lo hi w
          rw [hb] at hwt
          have HWT := hide hwt
          clear hv hb hwt
          obtain ⟨ky, vl, gn, ts, dc, tx⟩ := v
          have hb5 : Below w2.heap.size w2 (wr.alloc (.cells #[.string ky, .string vl, .bool gn, .int .u64 ts, .int .i64 dc, .int .i64 tx] 33)) := (unhide HBQ).alloc hsq _
          have hq5 : Blk (wr.alloc (.cells #[.string ky, .string vl, .bool gn, .int .u64 ts, .int .i64 dc, .int .i64 tx] 33)) wr.heap.size 33 #[.string ky, .string vl, .bool gn, .int .u64 ts, .int .i64 dc, .int .i64 tx] := Blk.new _ _ _
          obtain ⟨w5, hw5⟩ : ∃ u, wr.alloc (.cells #[.string ky, .string vl, .bool gn, .int .u64 ts, .int .i64 dc, .int .i64 tx] 33) = u := ⟨_, rfl⟩
          rw [hw5] at hb5 hq5
          have HB5 := hide hb5
          have d0 : w5.cell? ⟨wr.heap.size, 0, none⟩ = some (.string ky) := hq5.cell 0
          have hgl5 := hq5.lt
          clear hb5 hq5
          cases b with
          | true =>
            go_wp2_with (go_at_call 36; refine (unhide HWT _).mono ?_; rintro _ w3 ⟨rfl, rfl⟩)
            go_ret
            refine ⟨?_, (unhide HB2).trans ((unhide HB5).mono hsz2)⟩
            have : touchT lo hi (T.map Et.shs) = true := List.any_eq_true.2 ⟨e.shs, List.mem_map.2 ⟨e, unhide HE, rfl⟩, List.any_eq_true.2 ⟨_, by rw [unhide HVV]; exact List.mem_of_getElem? (unhide HV), unhide HBB⟩⟩
            rw [this]
            rfl
          | false =>
            go_wp2_with (go_at_call 36; refine (unhide HWT _).mono ?_; rintro _ w3 ⟨rfl, rfl⟩)
            refine ⟨⟨j + 1, by omega, by go_num, fun n x hn hx => ?_, unhide HB5⟩, by simp [intOf]; omega⟩
            rcases Nat.lt_or_ge n j with h1 | h1
            · exact unhide HNV n x h1 hx
            · obtain rfl : n = j := by omega
              rw [unhide HV] at hx
              injection hx with hx
              subst hx
              exact unhide HBB
        · obtain rfl : j = V.length := by omega
          go_wp2_with fail
          go_roundw
          case rel =>
            refine ⟨_, _, (unhide HRG3).only (S := fun _ => False) (Only.of_new (unhide HBQ)) (fun h => h) (fun h => h), fun x hx hl => ?_, (unhide HO2).trans (Only.of_new (unhide HBQ))⟩
            by_cases hxe : x.tx = e.tx
            · have h1 := getT_of_mem (unhide HKE) hx
              have h2 := getT_of_mem (unhide HKE) (unhide HE)
              rw [hxe, h2] at h1
              injection h1 with h1
              subst h1
              refine List.any_eq_false.2 fun v hv => ?_
              rw [unhide HVV] at hv
              obtain ⟨n, hn2⟩ := List.mem_iff_getElem?.1 hv
              rw [unhide HNV n v (List.getElem?_eq_some_iff.1 hn2).1 hn2]
              decide
            · refine unhide HNO x hx ?_
              simpa [hxe] using hl
          case measure =>
            rw [((unhide HRG3).only (S := fun _ => False) (Only.of_new (unhide HBQ)) (fun h => h) (fun h => h)).left_eq, (unhide HRG).left_eq]
            exact unhide HLT
end Go.Proofs.Ytcljendidhfobaa
