/- Each call, of both nets: the same answer, and what it leaves. -/
import Derived.Test.YtbclfiollfagmaaNetRel
namespace Go.Proofs.Ytbclfiollfagmaa
set_option linter.unusedVariables false
open Go.RowKit

/-- a call of the net answers a number; what the net is then -/
def NP (B p : Nat) (s : NS) (v : Int) (F : NS → Prop) (u : World) (e : Ending) (w' : World) : Prop := ∃ s', e = .returned (.int .i64 v) ∧ NStep u w' B p s s' ∧ F s'
def DPp (B q : Nat) (d : DS) (v : Int) (G : DS → Prop) (u : World) (e : Ending) (w' : World) : Prop := ∃ d', e = .returned (.int .i64 v) ∧ DStep u w' B q d d' ∧ G d'
/-- a call answers a packet and an error -/
def NT (B p : Nat) (s : NS) (l : List UInt8) (sp : Bool) (er : Int) (F : NS → Prop) (u : World) (e : Ending) (w' : World) : Prop :=
  ∃ s' A2 c2, e = .returned (.tuple #[.agg #[.slice A2 l.length c2, .bool sp], .int .i64 er]) ∧ NStep u w' B p s s' ∧ w'.ownsRow u.heap.size 5 1 (.slice A2 l.length c2) l.length (l.map Bv) ∧ F s'
def DT (B q : Nat) (d : DS) (l : List UInt8) (sp : Bool) (er : Int) (G : DS → Prop) (u : World) (e : Ending) (w' : World) : Prop :=
  ∃ d' A2 c2 xf xt, e = .returned (.tuple #[.agg #[.int .i64 xf, .int .i64 xt, .slice A2 l.length c2, .bool sp], .int .i64 er]) ∧ DStep u w' B q d d' ∧ w'.ownsRow u.heap.size 5 1 (.slice A2 l.length c2) l.length (l.map Bv) ∧ G d'
/-- a call of both: number answers -/
def PairI (o : NOp) (B p q Bb : Nat) (s : NS) (d : DS) (fn fd : FuncId) (rest : List Value) : Prop :=
  ∃ v F G, (∀ u, NetAt u B p s → RdB u Bb o.A o.l → Bb ≤ u.heap.size → Calls Try.prog fn (Value.pointer (some ⟨p, 0, none⟩) :: rest).toArray u (NP B p s v F u)) ∧
    (∀ u, DocAt u B q d → RdB u Bb o.A o.l → Bb ≤ u.heap.size → Calls Try.prog fd (Value.pointer (some ⟨q, 0, none⟩) :: rest).toArray u (DPp B q d v G u)) ∧ ∀ s' d', F s' → G d' → After o s d s' d'
def PairT (o : NOp) (B p q : Nat) (s : NS) (d : DS) (fn fd : FuncId) (rest : List Value) : Prop :=
  ∃ l sp er F G, (∀ u, NetAt u B p s → Calls Try.prog fn (Value.pointer (some ⟨p, 0, none⟩) :: rest).toArray u (NT B p s l sp er F u)) ∧
    (∀ u, DocAt u B q d → Calls Try.prog fd (Value.pointer (some ⟨q, 0, none⟩) :: rest).toArray u (DT B q d l sp er G u)) ∧ ∀ s' d', F s' → G d' → After o s d s' d'
section
variable {o : NOp} {B p q Bb : Nat} {s : NS} {d : DS}
theorem NetAt.base {u : World} (h : NetAt u B p s) : B ≤ u.heap.size := Nat.le_of_lt (Nat.lt_of_le_of_lt h.ge h.blk.lt)
theorem DocAt.base {u : World} (h : DocAt u B q d) : B ≤ u.heap.size := Nat.le_of_lt (Nat.lt_of_le_of_lt h.ge h.blk.lt)
theorem NP.of_err {u w' : World} {er : Int} {e : Ending} (ha : NetAt u B p s) (h : ErrN u er e w') : NP B p s er (fun s' => s' = s) u e w' := ⟨s, h.1, NStep.of_new ha h.2, rfl⟩
theorem DPp.of_err {u w' : World} {er : Int} {e : Ending} (ha : DocAt u B q d) (h : ErrN u er e w') : DPp B q d er (fun d' => d' = d) u e w' := ⟨d, h.1, DStep.of_new ha h.2, rfl⟩
theorem NT.of_err {u w' : World} {er : Int} {e : Ending} (ha : NetAt u B p s) (h : ErrPk u er e w') : NT B p s [] false er (fun s' => s' = s) u e w' := ⟨s, none, 0, h.1, NStep.of_new ha h.2, own_nil _ _ _ _, rfl⟩
theorem DT.of_err {u w' : World} {er : Int} {e : Ending} (ha : DocAt u B q d) (h : DErr u er e w') : DT B q d [] false er (fun d' => d' = d) u e w' := ⟨d, none, 0, 0, 0, h.1, DStep.of_new ha h.2, own_nil _ _ _ _, rfl⟩
theorem ErrN.same {u w' : World} {er : Int} {e : Ending} (h : e = .returned (.int .i64 er) ∧ u = w') : ErrN u er e w' := ⟨h.1, h.2 ▸ Below.refl _ _⟩
/-- there is no such packet, or no such way -/
structure Errs (o : NOp) (B p q : Nat) (s : NS) (d : DS) (er : Int) : Prop where
  ne : er ≠ 0
  at_ : ∀ u, NetAt u B p s → Calls Try.prog 27 #[.pointer (some ⟨p, 0, none⟩), .int .i64 o.f, .int .i64 o.t, .int .i64 o.i] u fun e w' => e = .returned (.int .i64 er) ∧ u = w'
  look : ∀ u, NetAt u B p s → Calls Try.prog 17 #[.pointer (some ⟨p, 0, none⟩), .int .i64 o.f, .int .i64 o.t, .int .i64 o.i] u (ErrPk u er)
  find : ∀ u, DocAt u B q d → Calls Try.prog 38 #[.pointer (some ⟨q, 0, none⟩), .int .i64 o.f, .int .i64 o.t, .int .i64 o.i] u fun e w' => e = .returned (.tuple #[.int .i64 0, .int .i64 er]) ∧ u = w'
theorem Rel.errs (h : Rel s d) (hs : d.row.length ≤ 100000) (hlo : -9223372036854775808 ≤ o.i) (hhi : o.i ≤ 9223372036854775807) (hbad : ∀ a b : Nat, o.f = a → o.t = b → a ≤ 20 → b ≤ 20 → a ≠ b → ¬ o.On (s.dat (a * 21 + b))) :
    ∃ er, Errs o B p q s d er := by
  by_cases hr : Rt o.f o.t
  · obtain ⟨a, b, hf, ht, ha, hb, hab, _⟩ := hr.nat
    have hon := hbad a b hf ht ha hb hab
    have hl : (s.dat (a * 21 + b)).length = (s.ways (a * 21 + b)).ps.length := by rw [NS.dat, List.length_map]
    have hl2 : (s.dat (a * 21 + b)).length = (way a b d.row).length := by rw [h.ways a b ha hb, List.length_map]
    have hi : o.i < 0 ∨ ((s.ways (a * 21 + b)).ps.length : Int) ≤ o.i := by
      unfold NOp.On at hon
      omega
    refine ⟨7, by omega, fun u hu => ?_, fun u hu => ?_, fun u hu => ?_⟩
    · rw [hf, ht]; exact at_none B p s a b o.i u hu ha hb hab hi
    · rw [hf, ht]; exact look_none B p s a b o.i u hu ha hb hab hi
    · exact find_none B q d o.f o.t o.i u hu hs hr hlo hhi (by rw [hf, ht]; omega)
  · exact ⟨1, by omega, fun u hu => at_bad p o.f o.t o.i u hr, fun u hu => look_away p o.f o.t o.i u hr, fun u hu => find_away q o.f o.t o.i u hr⟩
theorem Errs.dlook {er : Int} (h : Errs o B p q s d er) (u : World) (hu : DocAt u B q d) : Calls Try.prog 36 #[.pointer (some ⟨q, 0, none⟩), .int .i64 o.f, .int .i64 o.t, .int .i64 o.i] u (DErr u er) :=
  dlook_bad q o.f o.t o.i er u (h.find _ (hu.new ((Below.refl _ _).alloc (Nat.le_refl _) _))) h.ne
theorem Errs.take {er : Int} (h : Errs o B p q s d er) (u : World) (hu : NetAt u B p s) : Calls Try.prog 18 #[.pointer (some ⟨p, 0, none⟩), .int .i64 o.f, .int .i64 o.t, .int .i64 o.i] u (ErrPk u er) :=
  take_bad (.pointer (some ⟨p, 0, none⟩)) o.f o.t o.i er u (fun v hv => h.look v (hu.new hv)) h.ne
theorem Errs.dtake {er : Int} (h : Errs o B p q s d er) (u : World) (hu : DocAt u B q d) : Calls Try.prog 31 #[.pointer (some ⟨q, 0, none⟩), .int .i64 o.f, .int .i64 o.t, .int .i64 o.i] u (DErr u er) :=
  dtake_bad q o.f o.t o.i er u (fun v hv => h.dlook v (hu.new hv)) h.ne
theorem still_of (h : Rel s d) (hk : o.kd ≠ 1) (hbad : ∀ a b : Nat, o.f = a → o.t = b → a ≤ 20 → b ≤ 20 → a ≠ b → ¬ o.On (s.dat (a * 21 + b))) : ∀ s' d', s' = s → d' = d → After o s d s' d' := by
  rintro _ _ rfl rfl
  refine After.still h fun L hr ⟨j, hj, hL⟩ => ?_
  obtain ⟨a, b, hf, ht, ha, hb, hab, _⟩ := hr.nat
  have e : j = a * 21 + b := by rw [hf, ht] at hj; omega
  subst e
  have hn := hbad a b hf ht ha hb hab
  rw [hL] at hn
  rw [wayDo, if_neg hk, if_neg hn]
/-- nothing happens: the way is as it was -/
theorem After.same (h : Rel s d) {a b : Nat} (hf : o.f = a) (ht : o.t = b) (hw : wayDo o (s.dat (a * 21 + b)) = s.dat (a * 21 + b)) : ∀ s' d', s' = s → d' = d → After o s d s' d' := by
  rintro _ _ rfl rfl
  refine After.still h fun L hr ⟨j, hj, hL⟩ => ?_
  have e : j = a * 21 + b := by rw [hf, ht] at hj; omega
  subst e
  rw [← hL, hw]
theorem rest3 (f t i : Int) (g : Value) : (g :: [Value.int .i64 f, .int .i64 t, .int .i64 i]).toArray = #[g, .int .i64 f, .int .i64 t, .int .i64 i] := rfl
theorem pair_send (h : Rel s d) (hk : o.kd = 1) (hs : d.row.length ≤ 100000) (hl0 : 0 ≤ s.lost) (hl1 : s.lost ≤ 1000000) (hb : o.l.length ≤ 4096) : PairI o B p q Bb s d 11 30 [.int .i64 o.f, .int .i64 o.t, .slice o.A o.l.length o.c] := by
  by_cases hr : Rt o.f o.t
  · obtain ⟨a, b, hf, ht, ha, hb2, hab, _⟩ := hr.nat
    have hl : (s.dat (a * 21 + b)).length = (s.ways (a * 21 + b)).ps.length := by rw [NS.dat, List.length_map]
    have hl2 : (s.dat (a * 21 + b)).length = (way a b d.row).length := by rw [h.ways a b ha hb2, List.length_map]
    by_cases hn : 48 ≤ (s.ways (a * 21 + b)).ps.length
    · refine ⟨9, fun s' => s' = { s with lost := s.lost + 1 }, fun d' => d' = { d with lost := d.lost + 1 }, fun u hu hrd hBb => ?_, fun u hu hrd hBb => ?_, ?_⟩
      · show Calls _ _ #[_, .int .i64 o.f, .int .i64 o.t, _] u _
        rw [hf, ht]
        exact (send_full B p s a b _ u hu ha hb2 hab hn hl0 hl1).mono fun e w' h => ⟨_, h.1, h.2, rfl⟩
      · exact (dsend_full B q d o.f o.t _ u hu hu.base hs hr (by rw [hf, ht]; omega) (h.lost ▸ hl0) (h.lost ▸ hl1)).mono fun e w' h => ⟨_, h.1, h.2, rfl⟩
      · rintro _ _ rfl rfl
        refine ⟨⟨h.ways, h.right, by show s.lost + 1 = d.lost + 1; rw [h.lost]⟩, by show d.row.length ≤ _; omega, fun h0 => by show 0 ≤ d.lost + 1; omega, by show d.lost + 1 ≤ _; omega, fun j hj => ?_⟩
        show s.dat j = _
        split
        · rename_i hc
          have e : j = a * 21 + b := by have := hc.2; rw [hf, ht] at this; omega
          subst e
          rw [wayDo, if_pos hk, if_pos (by omega)]
        · rfl
    · refine ⟨0, fun s' => ∃ A4 c4 A2 c2, s' = s.put (a * 21 + b) ⟨A4, c4, (s.ways (a * 21 + b)).ps ++ [((o.l, A2, c2), false)]⟩, fun d' => ∃ A4 c4 A2 c2, d' = ⟨A4, c4, d.row ++ [((o.f, o.t), ((o.l, A2, c2), false))], d.lost⟩, fun u hu hrd hBb => ?_, fun u hu hrd hBb => ?_, ?_⟩
      · show Calls _ _ #[_, .int .i64 o.f, .int .i64 o.t, _] u _
        rw [hf, ht]
        exact (send_ok B p s a b o.l o.A o.c Bb u hu ha hb2 hab (by omega) hrd hBb hb).mono fun e w' ⟨h1, A4, c4, A2, c2, h2⟩ => ⟨_, h1, h2, A4, c4, A2, c2, rfl⟩
      · exact (dsend_ok B q d o.f o.t o.l o.A o.c Bb u hu hu.base hs hr (by rw [hf, ht]; omega) hrd hBb hb).mono fun e w' ⟨h1, A4, c4, A2, c2, h2⟩ => ⟨_, h1, h2, A4, c4, A2, c2, rfl⟩
      · rintro _ _ ⟨A4, c4, A2, c2, rfl⟩ ⟨A5, c5, A3, c3, rfl⟩
        have hw : wayDo o (s.dat (a * 21 + b)) = s.dat (a * 21 + b) ++ [(o.l, false)] := by rw [wayDo, if_pos hk, if_neg (by omega)]
        have := After.put (o := o) h hf ht ha hb2 hab ⟨A4, c4, (s.ways (a * 21 + b)).ps ++ [((o.l, A2, c2), false)]⟩ s.lost (d.row ++ [((o.f, o.t), ((o.l, A3, c3), false))]) A5 c5 (.inl rfl) (by rw [hw, List.map_append]; rfl) (by
          rw [hw, way_app, way_one_yes _ _ _ (by rw [hf, ht]), List.map_append, h.ways a b ha hb2]
          rfl) (fun f t hft => way_push_other a b f t d.row _ (by rw [hf, ht]) hft) (fun x hx => by
          rcases List.mem_append.1 hx with hx | hx
          · exact h.right x hx
          · obtain rfl := List.mem_singleton.1 hx
            exact hr) (by simp)
        rw [show (⟨A5, c5, d.row ++ [((o.f, o.t), ((o.l, A3, c3), false))], d.lost⟩ : DS) = ⟨A5, c5, d.row ++ [((o.f, o.t), ((o.l, A3, c3), false))], s.lost⟩ by rw [h.lost]]
        exact this
  · refine ⟨1, fun s' => s' = s, fun d' => d' = d, fun u hu _ _ => ?_, fun u hu _ _ => ?_, ?_⟩
    · exact (send_away p o.f o.t _ u hr).mono fun e w' h => NP.of_err hu (ErrN.same h)
    · exact (dsend_away q o.f o.t _ u hr).mono fun e w' h => DPp.of_err hu (ErrN.same h)
    · rintro _ _ rfl rfl
      exact After.still h fun L hr2 => absurd hr2 hr
/-- the place is on a way, or it is not -/
theorem on_or (o : NOp) (s : NS) : (∃ a b : Nat, o.f = a ∧ o.t = b ∧ a ≤ 20 ∧ b ≤ 20 ∧ a ≠ b ∧ o.On (s.dat (a * 21 + b))) ∨ (∀ a b : Nat, o.f = a → o.t = b → a ≤ 20 → b ≤ 20 → a ≠ b → ¬ o.On (s.dat (a * 21 + b))) := by
  by_cases h : ∃ a b : Nat, o.f = a ∧ o.t = b ∧ a ≤ 20 ∧ b ≤ 20 ∧ a ≠ b ∧ o.On (s.dat (a * 21 + b))
  · exact .inl h
  · exact .inr fun a b h1 h2 h3 h4 h5 h6 => h ⟨a, b, h1, h2, h3, h4, h5, h6⟩
theorem rt_of {a b : Nat} {f t : Int} (hf : f = a) (ht : t = b) (ha : a ≤ 20) (hb : b ≤ 20) (hab : a ≠ b) : Rt f t := by
  rw [hf, ht]
  exact ⟨by omega, by omega, by omega, by omega, by omega⟩
variable {a b k : Nat} {x : Pk} {pre post : List DP} {y : DP}
theorem Found.cut (fd : Found o s d a b k x pre post y) (h : Rel s d) (hf : o.f = a) (ht : o.t = b) (ha : a ≤ 20) (hb : b ≤ 20) (hab : a ≠ b) (n : Int) (hn : n = s.lost ∨ n = s.lost + 1) (hw : wayDo o (s.dat (a * 21 + b)) = (s.dat (a * 21 + b)).eraseIdx o.i.toNat) (A3 : Option Addr) (c3 : Nat) (A : Option Addr) (c : Nat) :
    After o s d { s.put (a * 21 + b) ⟨A3, c3, (s.ways (a * 21 + b)).ps.eraseIdx k⟩ with lost := n } ⟨A, c, pre ++ post, n⟩ :=
  After.put h hf ht ha hb hab _ n _ A c hn (by rw [hw]; exact fd.erasePs) (by rw [hw]; exact fd.erase.symm) (fun f t hft => by rw [fd.row]; exact way_cut_other a b f t pre post y fd.y_ hft) (fd.rt h).1 (by rw [fd.row]; simp; omega)
theorem pair_lose (h : Rel s d) (hk : o.kd = 3) (hs : d.row.length ≤ 100000) (hl0 : 0 ≤ s.lost) (hl1 : s.lost ≤ 1000000) (hlo : -9223372036854775808 ≤ o.i) (hhi : o.i ≤ 9223372036854775807) : PairI o B p q Bb s d 25 32 [.int .i64 o.f, .int .i64 o.t, .int .i64 o.i] := by
  rcases on_or o s with ⟨a, b, hf, ht, ha, hb, hab, hon⟩ | hbad
  · obtain ⟨k, x, pre, post, y, fd⟩ := h.found ha hb hon
    have hr := rt_of hf ht ha hb hab
    refine ⟨0, fun s' => ∃ A3 c3, s' = { s.put (a * 21 + b) ⟨A3, c3, (s.ways (a * 21 + b)).ps.eraseIdx k⟩ with lost := s.lost + 1 }, fun d' => ∃ A3 c3, d' = ⟨A3, c3, pre ++ post, d.lost + 1⟩, fun u hu _ _ => ?_, fun u hu _ _ => ?_, ?_⟩
    · rw [rest3, hf, ht, fd.i]
      exact (lose_yes B p s a b k x u hu ha hb hab fd.x_ hl0 hl1).mono fun e w' ⟨h1, A3, c3, h2⟩ => ⟨_, h1, h2, A3, c3, rfl⟩
    · rw [rest3, show o.i = ((way a b pre).length : Int) by rw [fd.i, fd.k_], hf, ht]
      exact (dlose_yes B q d a b pre post y u hu hu.base hs (by rw [← hf, ← ht]; exact hr) fd.row fd.y_ (h.lost ▸ hl0) (h.lost ▸ hl1)).mono fun e w' ⟨h1, A3, c3, h2⟩ => ⟨_, h1, h2, A3, c3, rfl⟩
    · rintro _ _ ⟨A3, c3, rfl⟩ ⟨A5, c5, rfl⟩
      rw [← h.lost]
      exact fd.cut h hf ht ha hb hab _ (.inr rfl) (by rw [wayDo, if_neg (by omega), if_pos hon]; simp [hk]) A3 c3 A5 c5
  · obtain ⟨er, he⟩ := h.errs (B := B) (p := p) (q := q) hs hlo hhi hbad
    exact ⟨er, fun s' => s' = s, fun d' => d' = d, fun u hu _ _ => (lose_bad _ o.f o.t o.i er u (he.take u hu) he.ne).mono fun e w' h => NP.of_err hu h, fun u hu _ _ => (dlose_bad q o.f o.t o.i er u (he.dtake u hu) he.ne).mono fun e w' h => DPp.of_err hu h, still_of h (by omega) hbad⟩
theorem pair_twice (h : Rel s d) (hk : o.kd = 4) (hs : d.row.length ≤ 100000) (hlo : -9223372036854775808 ≤ o.i) (hhi : o.i ≤ 9223372036854775807) : PairI o B p q Bb s d 14 33 [.int .i64 o.f, .int .i64 o.t, .int .i64 o.i] := by
  rcases on_or o s with ⟨a, b, hf, ht, ha, hb, hab, hon⟩ | hbad
  · obtain ⟨k, x, pre, post, y, fd⟩ := h.found ha hb hon
    have hr := rt_of hf ht ha hb hab
    have hl : (s.dat (a * 21 + b)).length = (s.ways (a * 21 + b)).ps.length := by rw [NS.dat, List.length_map]
    have hl2 : (s.dat (a * 21 + b)).length = (way a b d.row).length := by rw [h.ways a b ha hb, List.length_map]
    have hr2 : Rt (a : Int) (b : Int) := by rw [← hf, ← ht]; exact hr
    by_cases hn : 48 ≤ (s.ways (a * 21 + b)).ps.length
    · refine ⟨9, fun s' => s' = s, fun d' => d' = d, fun u hu _ _ => ?_, fun u hu _ _ => ?_, ?_⟩
      · rw [rest3, hf, ht, fd.i]
        exact (twice_full B p s a b k x u hu ha hb hab fd.x_ hn).mono fun e w' h => NP.of_err hu h
      · rw [rest3, show o.i = ((way a b pre).length : Int) by rw [fd.i, fd.k_], hf, ht]
        exact (dtwice_full B q d a b pre post y u hu hu.base hs hr2 fd.row fd.y_ (by omega)).mono fun e w' h => DPp.of_err hu h
      · exact After.same h hf ht (by rw [wayDo, if_neg (by omega), if_pos hon]; simp [hk]; omega)
    · refine ⟨0, fun s' => ∃ A4 c4 A2 c2, s' = s.put (a * 21 + b) ⟨A4, c4, (s.ways (a * 21 + b)).ps ++ [((x.1.1, A2, c2), x.2)]⟩, fun d' => ∃ A4 c4 A2 c2, d' = ⟨A4, c4, d.row ++ [(y.1, ((y.2.1.1, A2, c2), y.2.2))], d.lost⟩, fun u hu _ _ => ?_, fun u hu _ _ => ?_, ?_⟩
      · rw [rest3, hf, ht, fd.i]
        exact (twice_ok B p s a b k x u hu ha hb hab fd.x_ (by omega)).mono fun e w' ⟨h1, A4, c4, A2, c2, h2⟩ => ⟨_, h1, h2, A4, c4, A2, c2, rfl⟩
      · rw [rest3, show o.i = ((way a b pre).length : Int) by rw [fd.i, fd.k_], hf, ht]
        exact (dtwice_ok B q d a b pre post y u hu hu.base hs hr2 fd.row fd.y_ (by omega)).mono fun e w' ⟨h1, A4, c4, A2, c2, h2⟩ => ⟨_, h1, h2, A4, c4, A2, c2, rfl⟩
      · rintro _ _ ⟨A4, c4, A2, c2, rfl⟩ ⟨A5, c5, A3, c3, rfl⟩
        have hw : wayDo o (s.dat (a * 21 + b)) = s.dat (a * 21 + b) ++ [ddat y] := by
          rw [wayDo, if_neg (by omega), if_pos hon]
          simp only [fd.getD]
          rw [if_neg (by omega), if_neg (by omega), if_pos hk, if_neg (by omega)]
        have := After.put (o := o) h hf ht ha hb hab ⟨A4, c4, (s.ways (a * 21 + b)).ps ++ [((x.1.1, A2, c2), x.2)]⟩ s.lost (d.row ++ [(y.1, ((y.2.1.1, A3, c3), y.2.2))]) A5 c5 (.inl rfl) (by rw [hw, List.map_append, ← fd.same]; rfl) (by
          rw [hw, way_app, way_one_yes _ _ _ (by exact fd.y_), List.map_append, h.ways a b ha hb]
          rfl) (fun f t hft => way_push_other a b f t d.row _ fd.y_ hft) (fun z hz => by
          rcases List.mem_append.1 hz with hz | hz
          · exact h.right z hz
          · obtain rfl := List.mem_singleton.1 hz
            exact (fd.rt h).2) (by simp)
        rw [show (⟨A5, c5, d.row ++ [(y.1, ((y.2.1.1, A3, c3), y.2.2))], d.lost⟩ : DS) = ⟨A5, c5, d.row ++ [(y.1, ((y.2.1.1, A3, c3), y.2.2))], s.lost⟩ by rw [h.lost]]
        exact this
  · obtain ⟨er, he⟩ := h.errs (B := B) (p := p) (q := q) hs hlo hhi hbad
    exact ⟨er, fun s' => s' = s, fun d' => d' = d, fun u hu _ _ => (twice_bad _ o.f o.t o.i er u (he.look u hu) he.ne).mono fun e w' h => NP.of_err hu h, fun u hu _ _ => (dtwice_bad q o.f o.t o.i er u (he.dlook u hu) he.ne).mono fun e w' h => DPp.of_err hu h, still_of h (by omega) hbad⟩
theorem pair_back (h : Rel s d) (hk : o.kd = 5) (hs : d.row.length ≤ 100000) (hlo : -9223372036854775808 ≤ o.i) (hhi : o.i ≤ 9223372036854775807) : PairI o B p q Bb s d 15 34 [.int .i64 o.f, .int .i64 o.t, .int .i64 o.i] := by
  rcases on_or o s with ⟨a, b, hf, ht, ha, hb, hab, hon⟩ | hbad
  · obtain ⟨k, x, pre, post, y, fd⟩ := h.found ha hb hon
    have hr := rt_of hf ht ha hb hab
    have hr2 : Rt (a : Int) (b : Int) := by rw [← hf, ← ht]; exact hr
    refine ⟨0, fun s' => ∃ A3 c3 A4 c4 A2 c2, s' = (s.put (a * 21 + b) ⟨A3, c3, (s.ways (a * 21 + b)).ps.eraseIdx k⟩).put (a * 21 + b) ⟨A4, c4, (s.ways (a * 21 + b)).ps.eraseIdx k ++ [((x.1.1, A2, c2), x.2)]⟩, fun d' => ∃ A4 c4 A2 c2, d' = ⟨A4, c4, (pre ++ post) ++ [(y.1, ((y.2.1.1, A2, c2), y.2.2))], d.lost⟩, fun u hu _ _ => ?_, fun u hu _ _ => ?_, ?_⟩
    · rw [rest3, hf, ht, fd.i]
      refine (back_ok B p s a b k x u hu ha hb hab fd.x_).mono ?_
      rintro e w' ⟨A3, c3, s3, hs3, h1, A4, c4, A2, c2, h2⟩
      refine ⟨_, h1, h2, A3, c3, A4, c4, A2, c2, ?_⟩
      rw [← hs3, NS.put_same]
    · rw [rest3, show o.i = ((way a b pre).length : Int) by rw [fd.i, fd.k_], hf, ht]
      exact (dback_ok B q d a b pre post y u hu hu.base hs hr2 fd.row fd.y_).mono fun e w' ⟨h1, A4, c4, A2, c2, h2⟩ => ⟨_, h1, h2, A4, c4, A2, c2, rfl⟩
    · rintro _ _ ⟨A3, c3, A4, c4, A2, c2, rfl⟩ ⟨A5, c5, A6, c6, rfl⟩
      have hw : wayDo o (s.dat (a * 21 + b)) = (s.dat (a * 21 + b)).eraseIdx o.i.toNat ++ [ddat y] := by
        rw [wayDo, if_neg (by omega), if_pos hon]
        simp only [fd.getD]
        rw [if_neg (by omega), if_neg (by omega), if_neg (by omega), if_pos hk]
      have e1 : (s.put (a * 21 + b) ⟨A3, c3, (s.ways (a * 21 + b)).ps.eraseIdx k⟩).put (a * 21 + b) ⟨A4, c4, (s.ways (a * 21 + b)).ps.eraseIdx k ++ [((x.1.1, A2, c2), x.2)]⟩ = s.put (a * 21 + b) ⟨A4, c4, (s.ways (a * 21 + b)).ps.eraseIdx k ++ [((x.1.1, A2, c2), x.2)]⟩ := by
        unfold NS.put
        congr 1
        funext j
        by_cases hj : j = a * 21 + b <;> simp [hj]
      rw [e1]
      have := After.put (o := o) h hf ht ha hb hab ⟨A4, c4, (s.ways (a * 21 + b)).ps.eraseIdx k ++ [((x.1.1, A2, c2), x.2)]⟩ s.lost ((pre ++ post) ++ [(y.1, ((y.2.1.1, A6, c6), y.2.2))]) A5 c5 (.inl rfl) (by rw [hw, List.map_append, fd.erasePs, ← fd.same]; rfl) (by
        rw [hw, way_app, way_one_yes _ _ _ (by exact fd.y_), List.map_append, ← fd.erase]
        rfl) (fun f t hft => (way_push_other a b f t (pre ++ post) (y.1, ((y.2.1.1, A6, c6), y.2.2)) fd.y_ hft).trans (by rw [fd.row]; exact way_cut_other a b f t pre post y fd.y_ hft)) (fun z hz => by
        rcases List.mem_append.1 hz with hz | hz
        · exact (fd.rt h).1 z hz
        · obtain rfl := List.mem_singleton.1 hz
          exact (fd.rt h).2) (by rw [fd.row]; simp)
      rw [show (⟨A5, c5, (pre ++ post) ++ [(y.1, ((y.2.1.1, A6, c6), y.2.2))], d.lost⟩ : DS) = ⟨A5, c5, (pre ++ post) ++ [(y.1, ((y.2.1.1, A6, c6), y.2.2))], s.lost⟩ by rw [h.lost]]
      exact this
  · obtain ⟨er, he⟩ := h.errs (B := B) (p := p) (q := q) hs hlo hhi hbad
    exact ⟨er, fun s' => s' = s, fun d' => d' = d, fun u hu _ _ => (back_bad _ o.f o.t o.i er u (he.take u hu) he.ne).mono fun e w' h => NP.of_err hu h, fun u hu _ _ => (dback_bad q o.f o.t o.i er u (he.dtake u hu) he.ne).mono fun e w' h => DPp.of_err hu h, still_of h (by omega) hbad⟩
end
end Go.Proofs.Ytbclfiollfagmaa
