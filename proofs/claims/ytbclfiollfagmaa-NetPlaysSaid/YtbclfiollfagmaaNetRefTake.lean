/- The document's net: Take; Lose. -/
import Derived.Test.YtbclfiollfagmaaNetRefSend
namespace Go.Proofs.Ytbclfiollfagmaa
set_option linter.unusedVariables false
open Go.RowKit

set_option maxHeartbeats 1000000 in
theorem dtake_bad (q : Nat) (f t i er : Int) (w : World) (hl : ∀ u, Below w.heap.size w u → Calls Try.prog 36 #[.pointer (some ⟨q, 0, none⟩), .int .i64 f, .int .i64 t, .int .i64 i] u (DErr u er)) (he : er ≠ 0) :
    Calls Try.prog 31 #[.pointer (some ⟨q, 0, none⟩), .int .i64 f, .int .i64 t, .int .i64 i] w (DErr w er) := by
  have HM0 := hide ((Mem.start w).new (t := 68) (cs := #[.int .i64 0, .int .i64 0, .slice none 0 0, .bool false]) w.heap.size rfl)
  have HL := hide (hl _ (unhide HM0).below)
  have f1 : (er == 0) = false := beq_eq_false_iff_ne.2 he
  have f2 : (er != 0) = true := by simp [he]
  clear hl he
  go_enter Try.func31, Try.ntmps31
  go_wp2_with (first
    | (go_at_call 36; refine (unhide HL).mono ?_; rintro _ w2 ⟨rfl, hb2⟩; have HM2 := hide (((unhide HM0).called hb2).new (t := 68) (cs := #[.int .i64 0, .int .i64 0, .slice none 0 0, .bool false]) w2.heap.size rfl); clear hb2)
    | (refine wpList_store_blk rfl 68 (.tmp 10) (.tmp 21) rfl (w2.heap.size) _ (by rfl) (by rfl) 68 _ (unhide HM2).blk0 (by kernel_rfl) (by rfl) (by simp [Value.oneCell']) ?_; intro w3 hbS hgS; have HM3 := hide ((unhide HM2).grown0 hbS hgS); have HGw3 := hide hgS; clear hbS hgS)
    | (refine wpList_load_blk rfl 68 (.tmp 10) rfl (w2.heap.size) rfl 68 _ _ ((unhide HM3).blk0) Try.underlying68 rfl (by kernel_rfl) ?_)
    | (refine wpList_store_blk rfl 68 (.tmp 8) (.tmp 25) rfl (w.heap.size) _ (by rfl) (by rfl) 68 _ (unhide HM3).blk1 (by kernel_rfl) (by rfl) (by simp [Value.oneCell']) ?_; intro w4 hbS hgS; have HM4 := hide ((unhide HM3).grown1 hbS hgS); have HGw4 := hide hgS; clear hbS hgS))
  exact ret_dpk rfl w.heap.size _ rfl rfl (unhide HM4).blk1 rfl ⟨rfl, (unhide HM4).below⟩
def DTaken (w : World) (B q : Nat) (d : DS) (row' : List DP) (x : DP) (e : Ending) (w' : World) : Prop := ∃ A2 c2 A3 c3, e = .returned (.tuple #[.agg #[.int .i64 x.1.1, .int .i64 x.1.2, .slice A2 x.2.1.1.length c2, .bool x.2.2], .int .i64 0]) ∧ DStep w w' B q d ⟨A3, c3, row', d.lost⟩ ∧ w'.ownsRow w.heap.size 5 1 (.slice A2 x.2.1.1.length c2) x.2.1.1.length (x.2.1.1.map Bv)
set_option maxHeartbeats 4000000 in
set_option maxRecDepth 20000 in
theorem dtake_yes (B q : Nat) (d : DS) (f t : Int) (pre post : List DP) (x : DP) (w : World) (h : DocAt w B q d) (hB : B ≤ w.heap.size) (hs : d.row.length ≤ 100000) (hr : Rt f t) (he : d.row = pre ++ x :: post) (hx : x.1 = (f, t)) :
    Calls Try.prog 31 #[.pointer (some ⟨q, 0, none⟩), .int .i64 f, .int .i64 t, .int .i64 ((way f t pre).length : Int)] w (DTaken w B q d (pre ++ post) x) := by
  obtain ⟨j0, hj, hy0, hy1, hy2⟩ := info_parts dpkinfo
  have hlen : d.row.length = pre.length + 1 + post.length := by rw [he]; simp; omega
  have HM0 := hide ((Mem.start w).new (t := 68) (cs := #[.int .i64 0, .int .i64 0, .slice none 0 0, .bool false]) w.heap.size rfl)
  have HD := hide h
  have hql := h.blk.lt
  obtain ⟨w1, hw1⟩ : ∃ u, w.alloc (.cells #[.int .i64 0, .int .i64 0, .slice none 0 0, .bool false] 68) = u := ⟨_, rfl⟩
  have hs1 : w1.heap.size = w.heap.size + 1 := by rw [← hw1]; simp
  have HS1 := hide hs1
  rw [hw1] at HM0
  have hd1 := h.new (unhide HM0).below
  have HL := hide (dlook_yes B q d f t pre post x w1 hd1 (by omega) hs hr he hx)
  have HF := hide (fun u (hu : Below w.heap.size w u) => find_yes B q d f t pre post x u (h.new hu) hs hr he hx)
  obtain ⟨g, hA⟩ := h.lies (by omega)
  have hrow := h.row
  rw [dhdr, hA] at hrow
  have hcap := own_cap hrow
  have hle : d.row.length ≤ d.c := by
    obtain ⟨A', c', e1, e2, _⟩ := own_form hrow
    injection e1 with _ _ e1
    omega
  have hgl := (hrow.lt g rfl).2
  have HRW : Hid (∀ u : World, Below w.heap.size w u → RdV u w.heap.size (some ⟨g, 0, none⟩) (dCells d.row)) := hide (fun u hu => (RdV.of_own hrow).below hu)
  have et : d.row.take pre.length = pre := by rw [he, List.take_left]
  have ed : d.row.drop (pre.length + 1) = post := by rw [he, show pre ++ x :: post = (pre ++ [x]) ++ post by simp, List.drop_left' (by simp)]
  have HE := hide he
  have fcq : Hid (∀ u : World, Below w.heap.size w u → u.cell? ⟨q, 0, none⟩ = some (.slice (some ⟨g, 0, none⟩) d.row.length d.c)) := hide (fun u hu => by rw [(h.new hu).hdr0, hA])
  have HET := hide et; have HED := hide ed
  clear h hd1 hr he hx hrow hs1 et ed
  have hc1 : (0 : Int) ≤ (pre.length : Int) := by omega
  have hc2 : (pre.length : Int) ≤ (d.c : Int) := by omega
  have hc3 : (pre.length : Int) + 1 ≤ (d.row.length : Int) := by omega
  have hc4 : (d.row.length : Int) ≤ (d.c : Int) := by omega
  have hc5 : (0 : Int) ≤ (pre.length : Int) + 1 := by omega
  have hw2 : IntKind.i64.wrap ((pre.length : Int) + 1) = (pre.length : Int) + 1 := by rw [IntKind.wrap_i64]; omega
  go_enter Try.func31, Try.ntmps31
  go_upto_region 5 with (first
    | (go_at_call 36; refine (unhide HL).mono ?_; rintro _ w2 ⟨A2, c2, rfl, ho2, hb2⟩; have HO2 := hide (ho2.alloc (.cells #[.int .i64 0, .int .i64 0, .slice none 0 0, .bool false] 68)); have HOL := hide (fun k hk => (ho2.lt k hk).2); have hlw : w.heap.size < w2.heap.size := ((unhide HM0).called hb2).blk0.lt; have HM2 := hide (((unhide HM0).called hb2).new (t := 68) (cs := #[.int .i64 0, .int .i64 0, .slice none 0 0, .bool false]) w2.heap.size rfl); clear ho2 hb2)
    | (refine wpList_store_blk rfl 68 (.tmp 10) (.tmp 21) rfl (w2.heap.size) _ (by rfl) (by rfl) 68 _ (unhide HM2).blk0 (by kernel_rfl) (by rfl) (by simp [Value.oneCell']) ?_; intro w3 hbS hgS; have HM3 := hide ((unhide HM2).grown0 hbS hgS); have HGw3 := hide hgS; clear hbS hgS)
    | (go_at_call 38; refine (unhide HF _ (unhide HM3).below).mono ?_; rintro _ w4 ⟨rfl, rfl⟩))
  have ho3 : w3.ownsRow w1.heap.size 5 1 (.slice A2 x.2.1.1.length c2) x.2.1.1.length (x.2.1.1.map Bv) := (unhide HO2).kept (unhide HGw3) (.inr fun e => Nat.lt_irrefl _ ((unhide HOL) _ e))
  have HO3 := hide ho3
  have hb3a : Below w.heap.size w (w3.alloc (.cells #[] 68)) := (unhide HM3).below.alloc (unhide HM3).size _
  have fc3 := unhide fcq _ hb3a
  have HRA : Hid (RdV (w3.alloc (.cells #[] 68)) w.heap.size (some ⟨g, 0, none⟩) (dCells pre)) := hide (by
    have h := (unhide HRW _ hb3a).take_ (pre.length * 4)
    rw [dCells_take, unhide HET] at h
    exact h)
  have HOn : Hid ((w3.alloc (.cells #[] 68)).ownsRow w3.heap.size 68 4 (.slice (some ⟨w3.heap.size, 0, none⟩) 0 0) 0 []) := hide (World.ownsRow_lit w3 #[] 0 (Nat.le_refl _) (by simp [maxLen]) rfl)
  have hs3 := (unhide HM3).size
  clear ho3 hb3a
  by_cases hcap : d.c = pre.length + 1
  · obtain rfl : post = [] := List.length_eq_zero_iff.1 (by omega)
    have hlen2 : d.row.length = pre.length + 1 := by simpa using hlen
    clear hlen
    have hcz : (pre.length : Int) ≤ (pre.length : Int) + 1 := by omega
    have HRB : Hid (∀ u : World, Below w.heap.size w u → RdV u w.heap.size (some ⟨g, 0, none⟩) (dCells [])) := hide (fun u hu hp => by simp [dCells] at hp)
    go_wp2_with (first
      | (at_builtin
         refine wpList_append_any _ rfl (.tmp 35) (.tmp 41) _ rfl w3.heap.size 68 j0 _ 4 48 Try.underlying42 hj hy0 hy1 hy2 rfl (by omega) _ 0 [] rfl
           (unhide HOn) _ (some ⟨g, 0, none⟩) pre.length (pre.length+1) _ rfl (unhide HRA) (by rw [dCells_len]) (dCells_one _) (by simp only [maxLen]; omega) (by omega) (by simp) ?_
         intro A4 c4 w4 hown4 hg4 hat4 hbel4 hcc4
         rw [Nat.zero_add, List.nil_append] at hown4; rw [Nat.zero_add] at hcc4 ⊢
         have hb34 : Below w3.heap.size w3 w4 := ((Below.refl _ w3).alloc (Nat.le_refl _) (.cells #[] 68)).trans hbel4
         have HM4 := hide ((unhide HM3).called hb34); have HB4 := hide hb34
         have HO4 := hide hown4; have fc4 := unhide fcq _ (unhide HM4).below; have HRB4 := hide ((unhide HRB) _ (unhide HM4).below); have hs4 := hb34.size; clear hown4 hg4 hat4 hbel4 hb34)
      | (at_builtin
         refine wpList_append_any _ rfl (.tmp 44) (.tmp 51) _ rfl w3.heap.size 68 j0 _ 4 48 Try.underlying42 hj hy0 hy1 hy2 rfl (by omega) _ pre.length _ rfl
           (unhide HO4) _ (some ⟨g, 0, none⟩) 0 0 _ rfl (unhide HRB4) (by first | (rw [dCells_len]; done) | rfl) (dCells_one _) (by simp only [maxLen]; omega) (by omega) hs4 ?_
         intro A5 c5 w5 hown5 hg5 hat5 hbel5 hcc5
         have hb35 : Below w3.heap.size w3 w5 := (unhide HB4).trans hbel5
         have HM5 := hide ((unhide HM3).called hb35); have HB5 := hide hb35
         have HO5 := hide hown5; have fc5 := unhide fcq _ (unhide HM5).below; have fz5 := ((unhide HD).new (unhide HM5).below).blk.frozen 0
         have HK8 := hide ((unhide HM5).blk1.far (p := ⟨q, 0, none⟩) (Nat.ne_of_gt hql) (.slice A5 (pre.length + 0) c5))
         have HK10 := hide ((unhide HM5).blk0.far (p := ⟨q, 0, none⟩) (Nat.ne_of_gt (Nat.lt_trans hql hlw)) (.slice A5 (pre.length + 0) c5)); clear hown5 hg5 hat5 hbel5 hb35)
      | (refine wpList_load_blk rfl 68 (.tmp 10) rfl (w2.heap.size) rfl 68 _ _ (unhide HK10) Try.underlying68 rfl (by kernel_rfl) ?_)
      | (refine wpList_store_blk rfl 68 (.tmp 8) (.tmp 55) rfl w.heap.size _ (by rfl) (by rfl) 68 _ (unhide HK8) (by kernel_rfl) (by rfl) (by simp [Value.oneCell']) ?_; intro w7 hbS hgS; have HB7 := hide hbS; have HG7 := hide hgS; clear hbS hgS))
    have hlt3 := (unhide HM3).blk1.lt
    have hb5 : Below w.heap.size w w5 := (unhide HM5).below
    have hl : (pre ++ []).length = pre.length + 0 := by simp
    have hmem : ∀ y ∈ pre ++ [], y ∈ d.row := fun y hy => by
      rw [unhide HE]
      rcases List.mem_append.1 hy with h | h
      · exact List.mem_append_left _ h
      · exact List.mem_append_right _ (List.mem_cons_of_mem _ h)
    have hge : ∀ g, (Value.slice A5 (pre.length + 0) c5).ownBlock = some g → w3.heap.size ≤ g := fun g hg => ((unhide HO5).lt g hg).1
    have hst : DStep w (w5.setCell ⟨q, 0, none⟩ (.slice A5 (pre.length + 0) c5)) B q d ⟨A5, c5, pre ++ [], d.lost⟩ := (unhide HD).to hB (Only.setCell (S := fun g => g = q ∨ (dhdr d).ownBlock = some g) (p := ⟨q, 0, none⟩) (Only.of_new hb5) (.inl rfl) _) (by
        have hk := ((unhide HD).new hb5).blk.set_ 0 (.slice A5 (pre.length + 0) c5)
        rw [dhdr, hl]
        exact hk) (by
        rw [dhdr, hl, dCells_app]
        exact own_more (ownsRow_setCell_other (unhide HO5) (fun e => by have h1 := hge q e; omega) _) (fun g hg => by have h1 := hge g hg; omega)) (.inr fun g hg => by
        rw [dhdr, hl] at hg
        have h1 := hge g hg
        omega) (fun y hy => .inl (hmem y hy))
    have o7 : Only (fun g => g = w.heap.size) _ w7 := Only.of_grown (S := fun g => g = w.heap.size) (unhide HG7) (fun _ e => (Option.some.inj e).symm)
    have hst7 : DStep w w7 B q d ⟨A5, c5, pre ++ [], d.lost⟩ := hst.beside o7 (Nat.le_refl _) (fun hf => by
      rcases hf with hf | hf | ⟨y, hy, hf⟩
      · omega
      · rw [dhdr, hl] at hf
        have h1 := hge _ hf
        omega
      · exact Nat.lt_irrefl _ (((unhide HD).body y (hmem y hy)).lt _ hf).2)
    have hv : ∀ g, (Value.slice A2 x.2.1.1.length c2).ownBlock = some g → w.heap.size < g := fun g hg => by
      have h1 := ((unhide HO3).lt g hg).1
      have h2 := unhide HS1
      omega
    refine ret_dpk rfl w.heap.size _ rfl rfl (unhide HB7) rfl ⟨A2, c2, A5, c5, rfl, hst7, ?_⟩
    have q1 := own_only (unhide HO3) (Only.of_new (S := fun _ => False) (unhide HB5)) (fun g hg h => h)
    have q2 := ownsRow_setCell_other q1 (a := ⟨q, 0, none⟩) (fun e => by have h1 := hv q e; omega) (.slice A5 (pre.length + 0) c5)
    exact own_more (own_only q2 o7 (fun g hg e => by have h1 := hv g hg; omega)) (fun g hg => Nat.le_of_lt (hv g hg))
  · have HRB : Hid (∀ u : World, Below w.heap.size w u → RdV u w.heap.size (some ⟨g, (pre.length + 1) * 4, none⟩) (dCells post)) := hide (fun u hu => by
      have h := (unhide HRW u hu).drop_ ((pre.length + 1) * 4)
      rw [dCells_drop, unhide HED, add_zero_off] at h
      exact h)
    go_wp2_with (first
      | (at_builtin
         refine wpList_append_any _ rfl (.tmp 35) (.tmp 41) _ rfl w3.heap.size 68 j0 _ 4 48 Try.underlying42 hj hy0 hy1 hy2 rfl (by omega) _ 0 [] rfl
           (unhide HOn) _ (some ⟨g, 0, none⟩) pre.length d.c _ rfl (unhide HRA) (by rw [dCells_len]) (dCells_one _) (by simp only [maxLen]; omega) (by omega) (by simp) ?_
         intro A4 c4 w4 hown4 hg4 hat4 hbel4 hcc4
         rw [Nat.zero_add, List.nil_append] at hown4; rw [Nat.zero_add] at hcc4 ⊢
         have hb34 : Below w3.heap.size w3 w4 := ((Below.refl _ w3).alloc (Nat.le_refl _) (.cells #[] 68)).trans hbel4
         have HM4 := hide ((unhide HM3).called hb34); have HB4 := hide hb34
         have HO4 := hide hown4; have fc4 := unhide fcq _ (unhide HM4).below; have HRB4 := hide ((unhide HRB) _ (unhide HM4).below); have hs4 := hb34.size; clear hown4 hg4 hat4 hbel4 hb34)
      | (at_builtin
         refine wpList_append_any _ rfl (.tmp 44) (.tmp 51) _ rfl w3.heap.size 68 j0 _ 4 48 Try.underlying42 hj hy0 hy1 hy2 rfl (by omega) _ pre.length _ rfl
           (unhide HO4) _ (some ⟨g, ((pre.length+1)*4), none⟩) post.length (d.c-(pre.length+1)) _ rfl (unhide HRB4) (by first | (rw [dCells_len]; done) | rfl) (dCells_one _) (by simp only [maxLen]; omega) (by omega) hs4 ?_
         intro A5 c5 w5 hown5 hg5 hat5 hbel5 hcc5
         have hb35 : Below w3.heap.size w3 w5 := (unhide HB4).trans hbel5
         have HM5 := hide ((unhide HM3).called hb35); have HB5 := hide hb35
         have HO5 := hide hown5; have fc5 := unhide fcq _ (unhide HM5).below; have fz5 := ((unhide HD).new (unhide HM5).below).blk.frozen 0
         have HK8 := hide ((unhide HM5).blk1.far (p := ⟨q, 0, none⟩) (Nat.ne_of_gt hql) (.slice A5 (pre.length + post.length) c5))
         have HK10 := hide ((unhide HM5).blk0.far (p := ⟨q, 0, none⟩) (Nat.ne_of_gt (Nat.lt_trans hql hlw)) (.slice A5 (pre.length + post.length) c5)); clear hown5 hg5 hat5 hbel5 hb35)
      | (refine wpList_load_blk rfl 68 (.tmp 10) rfl (w2.heap.size) rfl 68 _ _ (unhide HK10) Try.underlying68 rfl (by kernel_rfl) ?_)
      | (refine wpList_store_blk rfl 68 (.tmp 8) (.tmp 55) rfl w.heap.size _ (by rfl) (by rfl) 68 _ (unhide HK8) (by kernel_rfl) (by rfl) (by simp [Value.oneCell']) ?_; intro w7 hbS hgS; have HB7 := hide hbS; have HG7 := hide hgS; clear hbS hgS))
    have hlt3 := (unhide HM3).blk1.lt
    have hb5 : Below w.heap.size w w5 := (unhide HM5).below
    have hl : (pre ++ post).length = pre.length + post.length := by simp
    have hmem : ∀ y ∈ pre ++ post, y ∈ d.row := fun y hy => by
      rw [unhide HE]
      rcases List.mem_append.1 hy with h | h
      · exact List.mem_append_left _ h
      · exact List.mem_append_right _ (List.mem_cons_of_mem _ h)
    have hge : ∀ g, (Value.slice A5 (pre.length + post.length) c5).ownBlock = some g → w3.heap.size ≤ g := fun g hg => ((unhide HO5).lt g hg).1
    have hst : DStep w (w5.setCell ⟨q, 0, none⟩ (.slice A5 (pre.length + post.length) c5)) B q d ⟨A5, c5, pre ++ post, d.lost⟩ := (unhide HD).to hB (Only.setCell (S := fun g => g = q ∨ (dhdr d).ownBlock = some g) (p := ⟨q, 0, none⟩) (Only.of_new hb5) (.inl rfl) _) (by
        have hk := ((unhide HD).new hb5).blk.set_ 0 (.slice A5 (pre.length + post.length) c5)
        rw [dhdr, hl]
        exact hk) (by
        rw [dhdr, hl, dCells_app]
        exact own_more (ownsRow_setCell_other (unhide HO5) (fun e => by have h1 := hge q e; omega) _) (fun g hg => by have h1 := hge g hg; omega)) (.inr fun g hg => by
        rw [dhdr, hl] at hg
        have h1 := hge g hg
        omega) (fun y hy => .inl (hmem y hy))
    have o7 : Only (fun g => g = w.heap.size) _ w7 := Only.of_grown (S := fun g => g = w.heap.size) (unhide HG7) (fun _ e => (Option.some.inj e).symm)
    have hst7 : DStep w w7 B q d ⟨A5, c5, pre ++ post, d.lost⟩ := hst.beside o7 (Nat.le_refl _) (fun hf => by
      rcases hf with hf | hf | ⟨y, hy, hf⟩
      · omega
      · rw [dhdr, hl] at hf
        have h1 := hge _ hf
        omega
      · exact Nat.lt_irrefl _ (((unhide HD).body y (hmem y hy)).lt _ hf).2)
    have hv : ∀ g, (Value.slice A2 x.2.1.1.length c2).ownBlock = some g → w.heap.size < g := fun g hg => by
      have h1 := ((unhide HO3).lt g hg).1
      have h2 := unhide HS1
      omega
    refine ret_dpk rfl w.heap.size _ rfl rfl (unhide HB7) rfl ⟨A2, c2, A5, c5, rfl, hst7, ?_⟩
    have q1 := own_only (unhide HO3) (Only.of_new (S := fun _ => False) (unhide HB5)) (fun g hg h => h)
    have q2 := ownsRow_setCell_other q1 (a := ⟨q, 0, none⟩) (fun e => by have h1 := hv q e; omega) (.slice A5 (pre.length + post.length) c5)
    exact own_more (own_only q2 o7 (fun g hg e => by have h1 := hv g hg; omega)) (fun g hg => Nat.le_of_lt (hv g hg))
end Go.Proofs.Ytbclfiollfagmaa
