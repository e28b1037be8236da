/- wire.newer and Encode, of the wake's message; the wake. -/
import Derived.Test.YtkgacehnpdijaaaWireCheck
import Derived.Deep.RegionHeld3
namespace Go.Proofs.Ytkgacehnpdijaaa
set_option linter.unusedVariables false
open Go.RowKit

set_option maxHeartbeats 1000000 in
theorem put_one (xs ys : List UInt8) (A A2 : Option Addr) (c c2 gp base B2 : Nat) (w : World) (ho : w.ownsRow base 5 1 (.slice A xs.length c) xs.length (xs.map Bv)) (hc : w.cell? ⟨gp, 0, none⟩ = some (.slice A2 ys.length c2)) (hr : RdB w B2 A2 ys) (hb : base ≤ w.heap.size) (hx : xs.length ≤ 10000) (hy : ys.length ≤ 10000) :
    Calls Try.prog 45 #[.slice A xs.length c, .slice (some ⟨gp, 0, none⟩) 1 1] w fun e w' => ∃ A' c', e = .returned (.slice A' (xs.length + ys.length) c') ∧ w'.ownsRow base 5 1 (.slice A' (xs.length + ys.length) c') (xs.length + ys.length) ((xs ++ ys).map Bv) ∧ w.grownBy w' (Value.slice A xs.length c).ownBlock := by
  obtain ⟨i0, hi, hz0, hz1, hz2⟩ := info_parts u8info
  have HO := hide ho; have HR := hide hr
  clear ho hr
  go_enter Try.func45, Try.ntmps45
  go_wp2_with fail
  go_loopw [0, 9] (fun b i wr => (i = .int .i64 0 ∧ b = .slice A xs.length c ∧ w = wr) ∨ (i = .int .i64 1 ∧ ∃ A' c', b = .slice A' (xs.length + ys.length) c' ∧ wr.ownsRow base 5 1 (.slice A' (xs.length + ys.length) c') (xs.length + ys.length) ((xs ++ ys).map Bv) ∧ w.grownBy wr (Value.slice A xs.length c).ownBlock)) (fun _ i _ => 1 - (intOf i).toNat)
  case atStart => exact .inl ⟨rfl, rfl, rfl⟩
  case round =>
    rcases hrel with ⟨rfl, rfl, rfl⟩ | ⟨rfl, A', c', rfl, ho', hb'⟩
    · go_wp2_with (
        at_builtin
        refine wpList_append_any _ rfl (.tmp 13) (.tmp 14) _ rfl base 5 i0 _ 1 1 Try.underlying31 hi hz0 hz1 hz2 rfl (by omega) _ xs.length _ rfl
          (unhide HO) _ A2 ys.length c2 _ rfl (unhide HR).v (by simp) oneCell_Bv (by simp only [maxLen]; omega) (by omega) hb ?_
        intro A4 c4 w4 hown4 hg4 hat4 hbel4 hcc4
        have HO4 := hide hown4; have HB4 := hide hg4; clear hown4 hg4 hat4 hbel4)
      go_roundw
      case rel => exact .inr ⟨by go_num, A4, c4, rfl, by rw [List.map_append]; exact unhide HO4, unhide HB4⟩
      case measure => simp [intOf]
    · have HO' := hide ho'; have HB' := hide hb'
      clear ho' hb'
      go_wp2_with fail
      go_ret
      exact ⟨A', c', rfl, unhide HO', unhide HB'⟩
theorem hasAt {w : World} {g : Nat} {ty : TypeId} (h : Blk w g ty #[.bool true, .bool false, .bool false, .bool false, .bool false, .bool false, .bool false, .bool false]) :
    w.cell? ⟨g, 0, none⟩ = some (.bool true) ∧ w.cell? ⟨g, 1, none⟩ = some (.bool false) ∧ w.cell? ⟨g, 2, none⟩ = some (.bool false) ∧ w.cell? ⟨g, 3, none⟩ = some (.bool false) ∧ w.cell? ⟨g, 4, none⟩ = some (.bool false) ∧ w.cell? ⟨g, 5, none⟩ = some (.bool false) ∧ w.cell? ⟨g, 6, none⟩ = some (.bool false) ∧ w.cell? ⟨g, 7, none⟩ = some (.bool false) :=
  ⟨h.cell 0, h.cell 1, h.cell 2, h.cell 3, h.cell 4, h.cell 5, h.cell 6, h.cell 7⟩
set_option maxHeartbeats 4000000 in
set_option maxRecDepth 20000 in
theorem newer_done (w : World) : Calls Try.prog 29 #[.agg msg5] w (FreshB w [12, 1, 5]) := by
  have HM0 := hide ((Mem.start w).new (t := 28) (cs := msg5) w.heap.size rfl)
  obtain ⟨w1, hw1⟩ : ∃ u, w.alloc (.cells msg5 28) = u := ⟨_, rfl⟩
  rw [hw1] at HM0
  have fm := msgAt (unhide HM0).blk0
  have fmd := msgAt (unhide HM0).blk0.drew
  have heq : ∀ u : World, (Op.equalIn 10000 26 (.agg #[.int .i64 0, .int .i64 0, .int .i64 0, .int .i64 0, .int .i64 0, .string ⟨#[]⟩]) (.agg #[.int .i64 0, .int .i64 0, .int .i64 0, .int .i64 0, .int .i64 0, .string ⟨#[]⟩])).run Try.prog u = .ok true u := fun u => by kernel_rfl
  show Calls _ _ #[.agg #[.int .i64 12, .int .u64 5, .int .u64 0, .int .u64 0, .string ⟨#[]⟩, .string ⟨#[]⟩, .slice none 0 0, .slice none 0 0, .int .i64 0, .int .i64 0, .int .i64 0, .int .i64 0, .int .i64 0, .string ⟨#[]⟩]] _ _
  go_enter Try.func29, Try.ntmps29
  go_upto_region 1 with fail
  have fS := fmd.2
  go_region_held3 (fun u => u.cell? ⟨w.heap.size, 1, none⟩ = some (.int .u64 5) ∧ u.cell? ⟨w.heap.size, 2, none⟩ = some (.int .u64 0) ∧ u.cell? ⟨w.heap.size, 3, none⟩ = some (.int .u64 0) ∧ u.cell? ⟨w.heap.size, 4, none⟩ = some (.string ⟨#[]⟩) ∧ u.cell? ⟨w.heap.size, 5, none⟩ = some (.string ⟨#[]⟩) ∧ u.cell? ⟨w.heap.size, 6, none⟩ = some (.slice none 0 0) ∧ u.cell? ⟨w.heap.size, 7, none⟩ = some (.slice none 0 0) ∧ u.cell? ⟨w.heap.size, 8, none⟩ = some (.int .i64 0) ∧ u.cell? ⟨w.heap.size, 9, none⟩ = some (.int .i64 0) ∧ u.cell? ⟨w.heap.size, 10, none⟩ = some (.int .i64 0) ∧ u.cell? ⟨w.heap.size, 11, none⟩ = some (.int .i64 0) ∧ u.cell? ⟨w.heap.size, 12, none⟩ = some (.int .i64 0) ∧ u.cell? ⟨w.heap.size, 13, none⟩ = some (.string ⟨#[]⟩)) (first | assumption | exact fS | go_keep) (fail)
  all_goals
    have HM2 := hide (((unhide HM0).new (t := 75) (cs := #[.bool true, .bool false, .bool false, .bool false, .bool false, .bool false, .bool false, .bool false]) w1.heap.size rfl).drew)
    obtain ⟨w2, hw2⟩ : ∃ u, (w1.alloc (.cells #[.bool true, .bool false, .bool false, .bool false, .bool false, .bool false, .bool false, .bool false] 75)).drew = u := ⟨_, rfl⟩
    rw [hw2] at HM2
    rw [hw2]
    clear fm fmd fS hw2 heq
    go_wp2_with (refine wpList_load_blk rfl 75 (.tmp 3) rfl (w1.heap.size) rfl 75 _ _ ((unhide HM2).blk0) Try.underlying75 rfl (by kernel_rfl) ?_)
    have hi0 : (Instr.index 75 (.agg #[.bool true, .bool false, .bool false, .bool false, .bool false, .bool false, .bool false, .bool false]) (.int .i64 0)).run Try.prog w2 = .ok (.bool true) w2 := by kernel_rfl
    have hi1 : (Instr.index 75 (.agg #[.bool true, .bool false, .bool false, .bool false, .bool false, .bool false, .bool false, .bool false]) (.int .i64 1)).run Try.prog w2 = .ok (.bool false) w2 := by kernel_rfl
    have hi2 : (Instr.index 75 (.agg #[.bool true, .bool false, .bool false, .bool false, .bool false, .bool false, .bool false, .bool false]) (.int .i64 2)).run Try.prog w2 = .ok (.bool false) w2 := by kernel_rfl
    have hi3 : (Instr.index 75 (.agg #[.bool true, .bool false, .bool false, .bool false, .bool false, .bool false, .bool false, .bool false]) (.int .i64 3)).run Try.prog w2 = .ok (.bool false) w2 := by kernel_rfl
    have hi4 : (Instr.index 75 (.agg #[.bool true, .bool false, .bool false, .bool false, .bool false, .bool false, .bool false, .bool false]) (.int .i64 4)).run Try.prog w2 = .ok (.bool false) w2 := by kernel_rfl
    have hi5 : (Instr.index 75 (.agg #[.bool true, .bool false, .bool false, .bool false, .bool false, .bool false, .bool false, .bool false]) (.int .i64 5)).run Try.prog w2 = .ok (.bool false) w2 := by kernel_rfl
    have hi6 : (Instr.index 75 (.agg #[.bool true, .bool false, .bool false, .bool false, .bool false, .bool false, .bool false, .bool false]) (.int .i64 6)).run Try.prog w2 = .ok (.bool false) w2 := by kernel_rfl
    have hi7 : (Instr.index 75 (.agg #[.bool true, .bool false, .bool false, .bool false, .bool false, .bool false, .bool false, .bool false]) (.int .i64 7)).run Try.prog w2 = .ok (.bool false) w2 := by kernel_rfl
    go_loopw [4, 48] (fun m i wr => ∃ k : Nat, k ≤ 8 ∧ i = .int .i64 k ∧ m = .int .u8 (if k = 0 then 0 else 1) ∧ w2 = wr) (fun _ i _ => 8 - (intOf i).toNat)
    case atStart => exact ⟨0, by omega, rfl, rfl, rfl⟩
    case round =>
      obtain ⟨k, hk, rfl, rfl, rfl⟩ := hrel
      by_cases h8 : k = 8
      · subst h8
        rw [show ((8:Nat):Int) = 8 from rfl]
        have fm2 := msgAt (unhide HM2).blk1
        have hsz2 := (unhide HM2).size
        have hb0 := (unhide HM2).blk0.lt
        have hb1 := (unhide HM2).blk1.lt
        clear hi0 hi1 hi2 hi3 hi4 hi5 hi6 hi7
        go_wp2_with fail
        obtain ⟨w3, hw3⟩ : ∃ u, w2.alloc (.cells #[.int .u8 12, .int .u8 1] 5) = u := ⟨_, rfl⟩
        have HM3 := hide ((unhide HM2).other (.cells #[.int .u8 12, .int .u8 1] 5))
        have HO3 : Hid ((w2.alloc (.cells #[.int .u8 12, .int .u8 1] 5)).ownsRow w.heap.size 5 1 (.slice (some ⟨w2.heap.size, 0, none⟩) 2 2) 2 (([12, 1] : List UInt8).map Bv)) := hide (own_new w2 w.heap.size #[.int .u8 12, .int .u8 1] 5 2 _ hsz2 (by simp [maxLen]) rfl rfl)
        rw [hw3] at HM3 HO3
        rw [hw3]
        clear hw3 fm2
        go_loopw [7, 72] (fun b i wr => ∃ (k : Nat) (A : Option Addr) (c : Nat) (l : List UInt8), k ≤ 3 ∧ i = .int .i64 k ∧ b = .slice A l.length c ∧ l = (if k = 0 then [12, 1] else [12, 1, 5]) ∧ (k = 0 → A = some ⟨w2.heap.size, 0, none⟩) ∧ wr.ownsRow w.heap.size 5 1 (.slice A l.length c) l.length (l.map Bv) ∧ Mem w wr [(w1.heap.size, 75, #[.bool true, .bool false, .bool false, .bool false, .bool false, .bool false, .bool false, .bool false]), (w.heap.size, 28, msg5)]) (fun _ i _ => 3 - (intOf i).toNat)
        case atStart => exact ⟨0, _, 2, [12, 1], by omega, rfl, rfl, rfl, fun _ => rfl, unhide HO3, unhide HM3⟩
        case round =>
          obtain ⟨k, A, c, l, hk, rfl, rfl, hl, hA, hown, hm⟩ := hrel
          have HO := hide hown; have HMr := hide hm
          have fh := hasAt hm.blk0
          clear hown hm HO3 HM3
          have hi0 : (Instr.index 76 (.agg #[.int .u64 5, .int .u64 0, .int .u64 0]) (.int .i64 0)).run Try.prog wr = .ok (.int .u64 5) wr := by kernel_rfl
          have hi1 : (Instr.index 76 (.agg #[.int .u64 5, .int .u64 0, .int .u64 0]) (.int .i64 1)).run Try.prog wr = .ok (.int .u64 0) wr := by kernel_rfl
          have hi2 : (Instr.index 76 (.agg #[.int .u64 5, .int .u64 0, .int .u64 0]) (.int .i64 2)).run Try.prog wr = .ok (.int .u64 0) wr := by kernel_rfl
          by_cases h3 : k = 3
          · subst h3
            have hl2 : l = [12, 1, 5] := hl
            clear hl hA
            subst hl2
            have fmr := msgAt (unhide HMr).blk1
            obtain ⟨wo, hwo⟩ : ∃ u : World, u = wr := ⟨_, rfl⟩
            subst hwo
            clear hi0 hi1 hi2
            go_wp2_with fail
            have hj0 : (Instr.index 78 (.agg #[.string ⟨#[]⟩, .string ⟨#[]⟩]) (.int .i64 0)).run Try.prog wo = .ok (.string ⟨#[]⟩) wo := by kernel_rfl
            have hj1 : (Instr.index 78 (.agg #[.string ⟨#[]⟩, .string ⟨#[]⟩]) (.int .i64 1)).run Try.prog wo = .ok (.string ⟨#[]⟩) wo := by kernel_rfl
            go_loopw [7, 90] (fun b i wr => ∃ k : Nat, k ≤ 2 ∧ i = .int .i64 k ∧ b = .slice A 3 c ∧ wo = wr) (fun _ i _ => 2 - (intOf i).toNat)
            case atStart => exact ⟨0, by omega, rfl, rfl, rfl⟩
            case round =>
              obtain ⟨j, hj, rfl, rfl, rfl⟩ := hrel
              by_cases h2 : j = 2
              · subst h2
                go_wp2_with fail
                go_ret
                obtain ⟨A', c', e1, e2, _⟩ := own_form (unhide HO)
                exact ⟨A, c, rfl, unhide HO, (unhide HMr).below, by
                  injection e1 with _ _ e3
                  have e2 : 3 ≤ c' := e2
                  show 3 ≤ c
                  omega⟩
              · obtain rfl | rfl : j = 0 ∨ j = 1 := by omega
                all_goals
                  go_wp2_with fail
                  go_roundw
                all_goals first | exact ⟨1, by omega, rfl, rfl, by first | rfl | trivial⟩ | exact ⟨2, by omega, rfl, rfl, by first | rfl | trivial⟩ | (simp [intOf]; done)
          · by_cases h0 : k = 0
            · subst h0
              have hl2 : l = [12, 1] := hl
              clear hl
              subst hl2
              obtain rfl := hA rfl
              have hu : Num.uv 5 = [5] := by decide +kernel
              have HU : Hid (Calls Try.prog 49 #[.int .u64 5] wr (FreshB wr [5])) := hide (by have h := uvar_any 5 wr (by omega); rw [hu] at h; exact h)
              clear hu hA
              go_wp2_with (first
                | (go_at_call 49; refine (unhide HU).mono ?_; rintro _ w4 ⟨A4, c4, rfl, ho4, hb4, hc4⟩
                   have hm4 := ((unhide HMr).called hb4).other (.cells #[.slice A4 1 c4] 31)
                   have HPUT := hide (put_one [12, 1] [5] (some ⟨w2.heap.size, 0, none⟩) A4 c c4 w4.heap.size w.heap.size w4.heap.size (w4.alloc (.cells #[.slice A4 1 c4] 31)) ((own_below (unhide HO) hb4 (fun g hg => ((unhide HO).lt g hg).2)).alloc _) ((Blk.new w4 _ _).cell 0) ((RdB.of_own ho4).alloc (Nat.le_refl _) _) hm4.size (by simp) (by simp))
                   have HM4 := hide hm4; clear ho4 hb4 hc4 hm4)
                | (go_at_call 45; refine (unhide HPUT).mono ?_; rintro _ w5 ⟨A5, c5, rfl, ho5, hg5⟩
                   have HO5 := hide ho5
                   have HM5 := hide ((unhide HM4).grownBy hg5 (fun g e => by have e : some w2.heap.size = some g := e; injection e with e; omega) (fun p hp e => by
                     have e : some p.1 = some w2.heap.size := e
                     injection e with e
                     simp only [List.mem_cons, List.not_mem_nil, or_false] at hp
                     rcases hp with rfl | rfl
                     · simp only at e; omega
                     · simp only at e; omega))
                   clear ho5 hg5))
              go_roundw
              case rel => exact ⟨1, A5, c5, [12, 1, 5], by omega, rfl, rfl, rfl, fun h => absurd h (by omega), unhide HO5, unhide HM5⟩
              case measure => simp [intOf]
            · have hl2 : l = [12, 1, 5] := by rw [hl, if_neg h0]
              clear hl hA
              subst hl2
              obtain rfl | rfl : k = 1 ∨ k = 2 := by omega
              · go_wp2_with fail
                go_roundw
                case rel => exact ⟨2, A, c, [12, 1, 5], by omega, rfl, rfl, rfl, fun h => absurd h (by omega), unhide HO, unhide HMr⟩
                case measure => simp [intOf]
              · go_wp2_with fail
                go_roundw
                case rel => exact ⟨3, A, c, [12, 1, 5], by omega, rfl, rfl, rfl, fun h => absurd h (by omega), unhide HO, unhide HMr⟩
                case measure => simp [intOf]
      · obtain rfl | rfl | rfl | rfl | rfl | rfl | rfl | rfl : k = 0 ∨ k = 1 ∨ k = 2 ∨ k = 3 ∨ k = 4 ∨ k = 5 ∨ k = 6 ∨ k = 7 := by omega
        all_goals
          go_wp2_with (go_at_call 48; refine (bit_any _ _).mono ?_; rintro _ w4 ⟨rfl, rfl⟩)
          go_roundw
        all_goals first | exact ⟨1, by omega, rfl, rfl, by first | rfl | trivial⟩ | exact ⟨2, by omega, rfl, rfl, by first | rfl | trivial⟩ | exact ⟨3, by omega, rfl, rfl, by first | rfl | trivial⟩ | exact ⟨4, by omega, rfl, rfl, by first | rfl | trivial⟩ | exact ⟨5, by omega, rfl, rfl, by first | rfl | trivial⟩ | exact ⟨6, by omega, rfl, rfl, by first | rfl | trivial⟩ | exact ⟨7, by omega, rfl, rfl, by first | rfl | trivial⟩ | exact ⟨8, by omega, rfl, rfl, by first | rfl | trivial⟩ | (simp [intOf]; done)
end Go.Proofs.Ytkgacehnpdijaaa
