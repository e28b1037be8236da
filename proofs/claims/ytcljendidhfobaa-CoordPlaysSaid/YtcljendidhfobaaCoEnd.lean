/- End. -/
import Derived.Test.YtcljendidhfobaaCoDo
namespace Go.Proofs.Ytcljendidhfobaa
set_option linter.unusedVariables false
open Go.RowKit

theorem end_nil (tx node : Int) (w : World) : Calls Try.prog 17 #[.pointer none, .int .u64 tx, .int .i64 node] w fun e w' => e = .returned (.tuple #[.bool false, .int .i64 1]) ∧ w = w' := by
  have HF := hide (find_nil tx node w)
  go_enter Try.func17, Try.ntmps17
  go_wp2_with (go_at_call 30; refine (unhide HF).mono ?_; rintro _ w2 ⟨rfl, rfl⟩)
  go_ret2
  exact ⟨rfl, rfl⟩
theorem end_none (S : Nat → Prop) (p : Nat) (T : List Et) (tx node : Int) (w : World) (h : TabAt w S p T) (h0 : 0 ≤ tx) (h1 : tx ≤ 18446744073709551615) (hn : getT T tx = none) :
    Calls Try.prog 17 #[.pointer (some ⟨p, 0, none⟩), .int .u64 tx, .int .i64 node] w fun e w' => e = .returned (.tuple #[.bool false, .int .i64 7]) ∧ w = w' := by
  have HF := hide (find_none S p T tx node w h h0 h1 hn)
  clear h hn h0 h1
  go_enter Try.func17, Try.ntmps17
  go_wp2_with (go_at_call 30; refine (unhide HF).mono ?_; rintro _ w2 ⟨rfl, rfl⟩)
  go_ret2
  exact ⟨rfl, rfl⟩
/-- what an end answers, and the entry behind it -/
def endE (e : Et) (node : Int) : Et := { e with ended := e.ended ++ [node] }
def lastE (e : Et) : Bool := decide (e.shs.length ≤ e.ended.length + 1)
def endR (e : Et) (node : Int) : Value :=
  if e.has node = false then .tuple #[.bool false, .int .i64 18]
  else if e.dec = false then .tuple #[.bool false, .int .i64 19]
  else if e.ended.contains node then .tuple #[.bool false, .int .i64 8]
  else .tuple #[.bool (lastE e), .int .i64 0]
def endedE (e : Et) (node : Int) : Bool := e.has node && e.dec && !e.ended.contains node
theorem EntAt.elook {w : World} {F : Nat → Prop} {x : Ex} {e : Et} (h : EntAt w F x e) {node : Int} (h0 : -9223372036854775808 ≤ node) (h1 : node ≤ 9223372036854775807) :
    (Instr.lookup 74 (.map (some x.em)) (.int .i64 node) false).run Try.prog w = .ok (.bool (e.ended.contains node)) w := by
  have := Kq.look h.em Try.underlying3 (t := 74) Try.underlying74 (fun w => rfl) (wfi h0 h1)
  rw [this]
  congr 1
  by_cases hm : node ∈ e.ended
  · rw [if_pos hm, show e.ended.contains node = true by simpa using hm]
    rfl
  · rw [if_neg hm, show e.ended.contains node = false by simpa using hm]
    rfl
set_option maxHeartbeats 2000000 in
theorem end_no (S : Nat → Prop) (p : Nat) (T : List Et) (tx node : Int) (e0 : Et) (w : World) (h : TabAt w S p T) (h0 : 0 ≤ tx) (h1 : tx ≤ 18446744073709551615) (hn : getT T tx = some e0) (hc : e0.shs.length ≤ 4096)
    (n0 : -9223372036854775808 ≤ node) (n1 : node ≤ 9223372036854775807) (hv : endedE e0 node = false) :
    Calls Try.prog 17 #[.pointer (some ⟨p, 0, none⟩), .int .u64 tx, .int .i64 node] w fun e w' => e = .returned (endR e0 node) ∧ Below w.heap.size w w' := by
  obtain ⟨y, h⟩ := h
  have HF := hide (find_any S p y T tx node e0 w h h0 h1 hn hc)
  have he := h.ents e0 (getT_mem hn)
  obtain rfl : e0.tx = tx := getT_tx hn
  have HE := hide he
  generalize y.X e0.tx = x at HF HE
  clear h he hn h0 h1
  unfold endedE at hv
  by_cases hh : e0.has node = true
  · by_cases hl : e0.dec = true
    · have hlo : e0.ended.contains node = true := by
        rw [hh, hl] at hv
        simpa only [Bool.true_and, Bool.not_eq_false'] using hv
      have hR : endR e0 node = .tuple #[.bool false, .int .i64 8] := by simp only [endR, hh, hl, hlo]; rfl
      rw [hR]
      have HH := hide hh
      have HD := hide hl
      have HL := hide hlo
      clear hh hl hR hv hlo
      go_enter Try.func17, Try.ntmps17
      go_wp2_with (first
        | (go_at_call 30; refine (unhide HF).mono ?_; rintro _ w2 ⟨rfl, hb⟩; rw [findR_yes (unhide HH)]
           have he2 := (unhide HE).only (S := fun _ => False) (Only.of_new hb) (fun _ _ h => h); have fl := he2.elook n0 n1; rw [unhide HL] at fl; obtain ⟨f0, f1, f2, f3, f4, f5⟩ := entAt he2.blk; rw [unhide HD] at f5; have hgl := he2.blk.lt; have HB := hide hb; clear hb he2; unfold ptrOf))
      go_ret2
      exact ⟨rfl, unhide HB⟩
    · have hl2 : e0.dec = false := by simpa only [Bool.not_eq_true] using hl
      have hR : endR e0 node = .tuple #[.bool false, .int .i64 19] := by simp only [endR, hh, hl2]; rfl
      rw [hR]
      have HH := hide hh
      have HL := hide hl2
      clear hh hl hR hv hl2
      go_enter Try.func17, Try.ntmps17
      go_wp2_with (first
        | (go_at_call 30; refine (unhide HF).mono ?_; rintro _ w2 ⟨rfl, hb⟩; rw [findR_yes (unhide HH)]
           have he2 := (unhide HE).only (S := fun _ => False) (Only.of_new hb) (fun _ _ h => h); obtain ⟨f0, f1, f2, f3, f4, f5⟩ := entAt he2.blk; rw [unhide HL] at f5; have hgl := he2.blk.lt; have HB := hide hb; clear hb he2; unfold ptrOf))
      go_ret2
      exact ⟨rfl, unhide HB⟩
  · have hh2 : e0.has node = false := by simpa only [Bool.not_eq_true] using hh
    have hR : endR e0 node = .tuple #[.bool false, .int .i64 18] := by simp only [endR, hh2]; rfl
    rw [hR]
    have HH := hide hh2
    clear hh hh2 hR hv
    go_enter Try.func17, Try.ntmps17
    go_wp2_with (go_at_call 30; refine (unhide HF).mono ?_; rintro _ w2 ⟨rfl, hb⟩; rw [findR_no (unhide HH)]; have HB := hide hb; clear hb)
    go_ret2
    exact ⟨rfl, unhide HB⟩
theorem endedE_yes {e : Et} {node : Int} (h : endedE e node = true) : e.has node = true ∧ e.dec = true ∧ e.ended.contains node = false := by
  simp only [endedE, Bool.and_eq_true, Bool.not_eq_true'] at h
  exact ⟨h.1.1, h.1.2, h.2⟩
theorem EntAt.end_ {w w' : World} {F : Nat → Prop} {x : Ex} {e : Et} {node : Int} (h : EntAt w F x e)
    (hk : Kq Try.prog 3 .i64 (.bool false) w' x.em (e.ended.length + 1) (upd (fun a => if a ∈ e.ended then some (.bool true) else none) node (some (.bool true)))) (ho : Only (fun k => k = x.em) w w') : EntAt w' F x (endE e node) := by
  refine ⟨h.blk.only ho h.ge, h.shs, h.at_.only ho fun k hk hs => hk.2.2.2 hs, h.vm.only ho h.ne, ?_, h.fg, h.fv, h.fe, h.ne⟩
  have hn : (endE e node).ended.length = e.ended.length + 1 := by simp [endE]
  rw [hn]
  refine hk.ext fun a _ => ?_
  unfold upd endE
  simp only [List.mem_append, List.mem_singleton]
  by_cases ha : a = node
  · simp [ha]
  · simp [ha]
theorem dropT_put (T : List Et) (e : Et) : dropT (putT T e) e.tx = dropT T e.tx := by
  unfold dropT putT
  induction T with
  | nil => rfl
  | cons x r ih =>
    rw [List.map_cons, List.filter_cons, List.filter_cons, ih]
    by_cases hx : x.tx = e.tx
    · rw [if_pos hx, if_neg (by simp), if_neg (by simp [hx])]
    · rw [if_neg hx]
def endT (T : List Et) (e : Et) (node : Int) : List Et := if lastE e then dropT T e.tx else putT T (endE e node)
theorem endT_last {T : List Et} {e : Et} {node : Int} (h : lastE e = true) : endT T e node = dropT T e.tx := if_pos h
theorem endT_more {T : List Et} {e : Et} {node : Int} (h : lastE e = false) : endT T e node = putT T (endE e node) := if_neg (by simp [h])
set_option maxHeartbeats 4000000 in
theorem end_yes (S : Nat → Prop) (p : Nat) (T : List Et) (tx node : Int) (e0 : Et) (w : World) (h : TabAt w S p T) (h0 : 0 ≤ tx) (h1 : tx ≤ 18446744073709551615) (hn : getT T tx = some e0) (hc : e0.shs.length ≤ 4096) (hce : e0.ended.length ≤ 4096)
    (n0 : -9223372036854775808 ≤ node) (n1 : node ≤ 9223372036854775807) (hv : endedE e0 node = true) :
    Calls Try.prog 17 #[.pointer (some ⟨p, 0, none⟩), .int .u64 tx, .int .i64 node] w fun e w' => e = .returned (endR e0 node) ∧ TabAt w' S p (endT T e0 node) ∧ Only S w w' := by
  obtain ⟨y, h⟩ := h
  have HF := hide (find_any S p y T tx node e0 w h h0 h1 hn hc)
  have HT := hide h
  have HN := hide hn
  have he := h.ents e0 (getT_mem hn)
  obtain rfl : e0.tx = tx := getT_tx hn
  have HE := hide he
  have hown : ∀ k, y.own k = some e0.tx → S k := fun k hk => (h.own k _ hk).1
  have HOW := hide hown
  have HSM := hide h.sm
  obtain ⟨hh, hd, hlo⟩ := endedE_yes hv
  have hR : endR e0 node = .tuple #[.bool (lastE e0), .int .i64 0] := by simp only [endR, hh, hd, hlo]; rfl
  have HR := hide hR
  have HH := hide hh
  have HD := hide hd
  have HL := hide hlo
  have HW := hide (wf64 h0 h1)
  obtain ⟨x, hx⟩ : ∃ x, y.X e0.tx = x := ⟨_, rfl⟩
  rw [hx] at HF HE
  have HX := hide hx
  have hlast : ∃ L, lastE e0 = L := ⟨_, rfl⟩
  clear h he hn h0 h1 hx hh hd hlo hR hv hown
  obtain ⟨L, hL⟩ := hlast
  have hlt : decide ((((e0.ended.length + 1 : Nat) : Int)) < (e0.shs.length : Int)) = !L := by
    subst hL
    unfold lastE
    by_cases h : e0.shs.length ≤ e0.ended.length + 1
    · rw [decide_eq_true h, decide_eq_false (by omega)]; rfl
    · rw [decide_eq_false h, decide_eq_true (by omega)]; rfl
  obtain ⟨N, hN⟩ : ∃ N, e0.ended.length + 1 = N := ⟨_, rfl⟩
  rw [hN] at hlt
  have HNN := hide hN
  have HLL := hide hL
  clear hN hL
  go_enter Try.func17, Try.ntmps17
  go_upto_region 9 with (first
    | (go_at_call 30; refine (unhide HF).mono ?_; rintro _ w2 ⟨rfl, hb⟩; rw [findR_yes (unhide HH)]
       have he2 := (unhide HE).only (S := fun _ => False) (Only.of_new hb) (fun _ _ h => h); have fl := he2.elook n0 n1; rw [unhide HL] at fl; obtain ⟨f0, f1, f2, f3, f4, f5⟩ := entAt he2.blk; rw [unhide HD] at f5; have hgl := he2.blk.lt
       obtain ⟨w3, hrun3, hk3, ho3, hs3⟩ := Kq.store he2.em Try.underlying3 Try.underlying74 (by simp only [maxLen]; omega) (wfi n0 n1) (if_neg (by have := unhide HL; simpa using this)) (.bool true)
       have he3 := he2.end_ hk3 ho3
       have HB := hide hb; have HE3 := hide he3; have HO3 := hide ho3; have hgl3 := he3.blk.lt; obtain ⟨f30, f31, f32, f33, f34, f35⟩ := entAt he3.blk
       rw [unhide HNN] at hk3
       have hlen := fun ty => Kq.len (w := w3.drew) (hk3.drewN 1) Try.underlying74 (t := 74) ty
       clear hb he2 hk3 ho3 hs3 he3; unfold ptrOf))
  clear f0 f1 f2 f3 f4 f5 fl hrun3 hgl
  have f31' : w3.cell? ⟨x.g, 1, none⟩ = some (.slice x.A e0.shs.length x.c) := f31
  clear f31
  have ht3 : TabIn w3 S p y (putT T (endE e0 node)) := (unhide HT).put (e' := endE e0 node) (by show (getT T e0.tx).isSome = true; rw [unhide HN]; rfl)
    ((Only.of_new (unhide HB)).trans ((unhide HO3).mono fun k _ h => by rw [h]; exact (unhide HE3).fe)) (by
      show EntAt _ (fun k => y.own k = some e0.tx) (y.X e0.tx) _
      rw [unhide HX]
      exact unhide HE3)
  have ho3 : Only S w w3 := (Only.of_new (unhide HB)).trans ((unhide HO3).mono fun k _ h => by rw [h]; exact unhide HOW _ (unhide HE3).fe)
  rcases L with _ | _
  · have hlt2 : decide ((N : Int) < (e0.shs.length : Int)) = true := hlt
    have hlt3 : N < e0.shs.length := by have := of_decide_eq_true hlt2; omega
    clear hlt
    have hfin : TabAt w3.drew S p (putT T (endE e0 node)) ∧ Only S w w3.drew := ⟨(TabAt.drewN ⟨y, ht3⟩ 1), ho3.drew⟩
    have HFI := hide hfin
    clear hfin ht3 ho3
    go_region_law fail
    all_goals go_wp2_with fail
    all_goals
      go_ret2
      exact ⟨by rw [unhide HR, unhide HLL]; rfl, by rw [endT_more (unhide HLL)]; exact unhide HFI⟩
  · have hlt2 : decide ((N : Int) < (e0.shs.length : Int)) = false := hlt
    have hlt3 : ¬ N < e0.shs.length := by have := of_decide_eq_false hlt2; omega
    clear hlt
    have hdr : (dropT (putT T (endE e0 node)) e0.tx).length + 1 = (putT T (endE e0 node)).length := by
      have hg : getT (putT T (endE e0 node)) e0.tx = some (endE e0 node) := by rw [getT_put, if_pos (show e0.tx = (endE e0 node).tx from rfl), unhide HN]; rfl
      exact len_drop ht3.keys (e := endE e0 node) (getT_mem hg)
    have ht4 : TabIn w3.drew S p y (putT T (endE e0 node)) := ht3.only (S' := fun _ => False) (Only.refl _ w3).drew fun _ _ h => h
    have hkm := ht4.map
    rw [← hdr] at hkm
    obtain ⟨w5, hrun5, hk5, ho5, _⟩ := Kq.drop hkm Try.underlying31 (t := 70) Try.underlying70 (unhide HW) (by rw [getT_put, if_pos (show e0.tx = (endE e0 node).tx from rfl), unhide HN]; rfl) 0
    have ht5 := ht4.drop e0.tx rfl ho5 hk5
    rw [show dropT (putT T (endE e0 node)) e0.tx = dropT T e0.tx from dropT_put T (endE e0 node)] at ht5
    have HFI : Hid (TabAt w5 S p (dropT T e0.tx) ∧ Only S w w5) := hide ⟨⟨y, ht5⟩, ho3.drew.trans (ho5.mono fun k _ h => by rw [h]; exact unhide HSM)⟩
    have fc := ht3.cell
    have hpl := ht3.lt p ht3.sp
    clear ht3 ho3 hdr ht4 hkm hk5 ho5 ht5
    go_region_law fail
    all_goals go_wp2_with fail
    all_goals
      go_ret2
      exact ⟨by rw [unhide HR, unhide HLL]; rfl, by rw [endT_last (unhide HLL)]; exact unhide HFI⟩
end Go.Proofs.Ytcljendidhfobaa
