/- Contracts: the two places for a block, on a new device (package super). -/
import Derived.Test.YtacmgogobjpmcaaGreatF
namespace Go.Proofs.YtacmgogobjpmcaaGreat
open Go.RowKit

section
variable {w : World} {g gs n : Nat} {lim : Int}
def z5 : Value := .agg #[.int .i64 0, .int .i64 0, .int .i64 0, .int .i64 0, .int .i64 0]
set_option maxHeartbeats 400000 in
set_option maxRecDepth 20000 in
theorem superRead_new (h : Dev w g gs n (zeroSec n) (.slice none 0 0) lim false) (k : Nat) (hk : k < n) :
    Calls Tryz.prog 218 #[.pointer (some ⟨g, 0, none⟩), .int .i64 k] w fun e w' => e = .returned (.tuple #[.agg #[.int .i64 0, .int .i64 0, .int .i64 0, .int .i64 0, .int .i64 0], .bool false, .int .i64 0]) ∧ Below w.heap.size w w' := by
  go_enter Tryz.func218, Tryz.ntmps218
  go_wp2_with fail
  have hb0 : Blk (w.alloc (.cells #[.int .i64 0, .int .i64 0, .int .i64 0, .int .i64 0, .int .i64 0] 240)) w.heap.size 240 #[.int .i64 0, .int .i64 0, .int .i64 0, .int .i64 0, .int .i64 0] := Blk.new _ _ _
  refine (devRead0_any (h.alloc _) k hk).mono ?_
  rintro e w1 ⟨A, c, rfl, hown, hb1⟩
  have hso := sectorOpen_zero A c w1 (Rd.of_own hown) (own_cap hown)
  have hb01 := hb0.below hb1 (Blk.lt hb0)
  have HS := Lib.hid hso; have HB1 := Lib.hid hb1; have HB01 := Lib.hid hb01
  clear hso hb1 hb01 hown hb0
  go_wp2_with fail
  refine HS.out.mono ?_
  rintro e w2 ⟨rfl, hb2⟩
  have hb02 := HB01.out.below hb2 HB01.out.lt
  have f0 := (hb02.alloc (.cells #[.int .i64 0, .int .i64 0, .int .i64 0, .int .i64 0, .int .i64 0] 253)).frozen 0
  have c0 := hb02.cell 0; have c1 := hb02.cell 1; have c2 := hb02.cell 2; have c3 := hb02.cell 3; have c4 := hb02.cell 4
  have hlt := hb02.lt
  have g0 := hb02.frozen 0; have g1 := hb02.frozen 1; have g2 := hb02.frozen 2; have g3 := hb02.frozen 3; have g4 := hb02.frozen 4
  have HB2 := Lib.hid hb2; have HB02 := Lib.hid hb02; clear hb2 hb02
  go_wp2
  obtain ⟨W3, hW3⟩ : ∃ W3, W3 = ((((((w2.setCell ⟨w.heap.size, 0, none⟩ (.int .i64 0)).setCell ⟨w.heap.size, 1, none⟩ (.int .i64 0)).setCell ⟨w.heap.size, 2, none⟩ (.int .i64 0)).setCell ⟨w.heap.size, 3, none⟩ (.int .i64 0)).setCell ⟨w.heap.size, 4, none⟩ (.int .i64 0)).alloc (.cells #[.int .i64 0, .int .i64 0, .int .i64 0, .int .i64 0, .int .i64 0] 253)) := ⟨_, rfl⟩
  rw [← hW3]
  have hb3 : Blk W3 w.heap.size 240 #[.int .i64 0, .int .i64 0, .int .i64 0, .int .i64 0, .int .i64 0] := by rw [hW3]; exact (HB02.out.set5 _ _ _ _ _).alloc _
  have d0 := hb3.cell 0; have d1 := hb3.cell 1; have d2 := hb3.cell 2; have d3 := hb3.cell 3; have d4 := hb3.cell 4
  refine bodyPost_ret (v := .tuple #[.agg #[.int .i64 0, .int .i64 0, .int .i64 0, .int .i64 0, .int .i64 0], .bool false, .int .i64 0]) (by simp [results, Tryz.results218, go_sem, d0, d1, d2, d3, d4]) rfl ⟨rfl, ?_⟩
  rw [hW3]
  have e1 := HB1.out.size
  simp at e1
  have hall : Below w.heap.size w w2 := (((Below.refl _ _).alloc (Nat.le_refl _) _).trans (HB1.out.mono (by simp))).trans (HB2.out.mono (by omega))
  exact (below_set5 hall (Nat.le_refl _) _ _ _ _ _).alloc (by have := hall.size; simp [World.setCell]; omega) _

set_option maxHeartbeats 400000 in
set_option maxRecDepth 20000 in
theorem superLoad_new (h : Dev w g gs n (zeroSec n) (.slice none 0 0) lim false) (hn : 2 ≤ n) :
    Calls Tryz.prog 136 #[.pointer (some ⟨g, 0, none⟩)] w fun e w' => e = .returned (.tuple #[.agg #[.int .i64 0, .int .i64 0, .int .i64 0, .int .i64 0, .int .i64 0], .int .i64 11]) ∧ Below w.heap.size w w' := by
  have hn4 := h.nle
  go_enter Tryz.func136, Tryz.ntmps136
  go_wp2_with fail
  refine (devLen_any (h.alloc _)).mono ?_; rintro e w' ⟨rfl, rfl⟩
  go_wp2_with fail
  refine (devDown_any (h.alloc _)).mono ?_; rintro e w' ⟨rfl, rfl⟩
  go_wp2
  obtain ⟨W, hW⟩ : ∃ W, W = (w.alloc (.cells #[.int .i64 0, .int .i64 0, .int .i64 0, .int .i64 0, .int .i64 0] 240)).alloc (.cells #[.int .i64 0, .int .i64 0, .int .i64 0, .int .i64 0, .int .i64 0] 240) := ⟨_, rfl⟩
  rw [← hW]
  have hb0 : Blk W w.heap.size 240 #[.int .i64 0, .int .i64 0, .int .i64 0, .int .i64 0, .int .i64 0] := by rw [hW]; exact (Blk.new _ _ _).alloc _
  have hd : Dev W g gs n (zeroSec n) (.slice none 0 0) lim false := by rw [hW]; exact (h.alloc _).alloc _
  have hbel : Below w.heap.size w W := by rw [hW]; exact ((Below.refl _ _).alloc (Nat.le_refl _) _).alloc (by simp) _
  have hWs : W.heap.size = w.heap.size + 2 := by rw [hW]; simp
  have HW := Lib.hid hW; clear hW
  go_loopw [5, 6, 7, 8, 9, 19] (fun f _ _ _ _ i wr => ∃ k : Nat, k ≤ 2 ∧ i = .int .i64 k ∧ f = .bool false ∧ Hid (Below W.heap.size W wr)) (fun _ _ _ _ _ i _ => 2 - (intOf i).toNat)
  case atStart => exact ⟨0, by omega, rfl, rfl, Below.refl _ _⟩
  case round =>
    obtain ⟨k, hk, rfl, rfl, hq⟩ := hrel
    by_cases hlt : k < 2
    · go_wp2_with fail
      refine (superRead_new (hd.below hq.out) k (by omega)).mono ?_
      rintro e w1 ⟨rfl, hb1⟩
      have HB1 := Lib.hid hb1; clear hb1
      go_wp2
      go_roundw
      case rel => exact ⟨k + 1, by omega, by go_num, rfl, (hq.out.trans (HB1.out.mono hq.out.size)).alloc (by have := hq.out.size; have := HB1.out.size; omega) _⟩
      case measure => simp [intOf]; omega
    · have hb1 := hb0.below hq.out (by omega)
      have c0 := hb1.cell 0; have c1 := hb1.cell 1; have c2 := hb1.cell 2; have c3 := hb1.cell 3; have c4 := hb1.cell 4
      have g0 := hb1.frozen 0; have g1 := hb1.frozen 1; have g2 := hb1.frozen 2; have g3 := hb1.frozen 3; have g4 := hb1.frozen 4
      have HB1 := Lib.hid hb1; clear hb1
      go_wp2
      obtain ⟨W3, hW3⟩ : ∃ W3, W3 = (((((wr.setCell ⟨w.heap.size, 0, none⟩ (.int .i64 0)).setCell ⟨w.heap.size, 1, none⟩ (.int .i64 0)).setCell ⟨w.heap.size, 2, none⟩ (.int .i64 0)).setCell ⟨w.heap.size, 3, none⟩ (.int .i64 0)).setCell ⟨w.heap.size, 4, none⟩ (.int .i64 0)) := ⟨_, rfl⟩
      rw [← hW3]
      have hb3 : Blk W3 w.heap.size 240 #[.int .i64 0, .int .i64 0, .int .i64 0, .int .i64 0, .int .i64 0] := by rw [hW3]; exact HB1.out.set5 _ _ _ _ _
      have d0 := hb3.cell 0; have d1 := hb3.cell 1; have d2 := hb3.cell 2; have d3 := hb3.cell 3; have d4 := hb3.cell 4
      refine bodyPost_ret (v := .tuple #[.agg #[.int .i64 0, .int .i64 0, .int .i64 0, .int .i64 0, .int .i64 0], .int .i64 11]) (by simp [results, Tryz.results136, go_sem, d0, d1, d2, d3, d4]) rfl ⟨rfl, ?_⟩
      rw [hW3]
      exact below_set5 (hbel.trans (hq.out.mono (by omega))) (Nat.le_refl _) _ _ _ _ _
end
end Go.Proofs.YtacmgogobjpmcaaGreat
