/- Contracts: the log, the cache and the Keep on a new device (packages seglog, cache, keep). -/
import Derived.Test.YtacmgogobjpmcaaGreatH
namespace Go.Proofs.YtacmgogobjpmcaaGreat
open Go.RowKit

section
variable {w : World} {g gs n : Nat}
set_option maxHeartbeats 400000 in
set_option maxRecDepth 20000 in
theorem blank_new (h : Dev w g gs n (zeroSec n) (.slice none 0 0) 0 false) :
    Calls Tryz.prog 137 #[.pointer (some ⟨g, 0, none⟩)] w fun e w' => e = .returned (.tuple #[.bool true, .int .i64 0]) ∧ Below w.heap.size w w' := by
  have hn4 := h.nle
  go_enter Tryz.func137, Tryz.ntmps137
  go_wp2_with fail
  refine (devLen_any h).mono ?_; rintro e w' ⟨rfl, rfl⟩
  go_wp2
  go_loopw [4, 5, 6, 8, 11] (fun _ _ _ _ i wr => ∃ k : Nat, k ≤ n ∧ i = .int .i64 k ∧ Hid (Below w.heap.size w wr)) (fun _ _ _ _ i _ => n - (intOf i).toNat)
  case atStart => exact ⟨0, by omega, rfl, Below.refl _ _⟩
  case round =>
    obtain ⟨k, hk, rfl, hq⟩ := hrel
    by_cases hlt : k < n
    · go_wp2_with fail
      refine (devRead0_any (h.below hq.out) k hlt).mono ?_
      rintro e w1 ⟨A, c, rfl, ho, hb1⟩
      have hr1 := Rd.of_own ho
      have HB1 := Lib.hid hb1; clear hb1 ho
      go_wp2
      go_loop [8, 27] (fun _ i => ∃ j : Nat, j ≤ 512 ∧ i = .int .i64 j) (fun _ i => 512 - (intOf i).toNat)
      case atStart => exact ⟨0, by omega, rfl⟩
      case round =>
        obtain ⟨j, hj, rfl⟩ := hrel
        by_cases hlj : j < 512
        · obtain ⟨ad, s, rfl, _, hx, hc⟩ := hr1.byAt hlj
          have hs : ((s.toNat : Int)) = 0 := by
            have : zeros 512 = List.replicate 512 0 := rfl
            rw [this, List.getElem?_replicate, if_pos hlj] at hx
            injection hx with hx; subst hx; rfl
          rw [hs] at hc
          clear hs hx
          go_wp2
          go_round
          case rel => exact ⟨j + 1, by omega, by go_num⟩
          case measure => simp [intOf]; omega
        · go_wp2
          go_roundw
          case rel => exact ⟨k + 1, by omega, by go_num, hq.out.trans (HB1.out.mono hq.out.size)⟩
          case measure => simp [intOf]; omega
    · go_wp2
      go_ret2
      exact ⟨rfl, hq.out⟩

/-- an empty cache -/
def CacheE (w : World) (g gm : Nat) (most stale : Int) : Prop := Blk w g 131 #[.int .i64 most, .int .i64 stale, .map (some gm), .int .i64 0] ∧ w.heap[gm]? = some (.map #[] 0)
theorem cacheNew_any (most stale : Int) (h1 : 1 ≤ most) (h2 : most ≤ 4096) (h3 : 0 ≤ stale) (h4 : stale ≤ 36028797018963968) (w : World) :
    Calls Tryz.prog 65 #[.int .i64 most, .int .i64 stale] w fun e w' => e = .returned (.tuple #[.pointer (some ⟨w.heap.size + 1, 0, none⟩), .int .i64 0]) ∧ CacheE w' (w.heap.size + 1) w.heap.size most stale ∧ Below w.heap.size w w' ∧ w'.heap.size = w.heap.size + 2 := by
  have hmm := @run_makeMap Tryz.prog
  have ht : (decide (0 ≤ stale) && decide (stale ≤ 36028797018963968)) = true := by simp [h3, h4]
  have HT := Lib.hid ht; clear ht
  go_enter Tryz.func65, Tryz.ntmps65
  go_wp2_with (refine (Time_any _ _).mono ?_; rintro e w' ⟨rfl, rfl⟩; rw [HT.out])
  go_ret2
  refine ⟨rfl, ⟨Blk.new' _ _ _ (by simp), ?_⟩, ?_, ?_⟩
  · exact (Below.heap_alloc _ _ _ (by simp)).trans (heap_alloc_new w _)
  · exact ((Below.refl _ _).alloc (Nat.le_refl _) _).alloc (by simp) _
  · simp

/-- a log of a new device -/
def LogE (w : World) (gl g : Nat) : Prop := Blk w gl 243 #[.pointer (some ⟨g, 0, none⟩), .int .i64 0, .int .i64 1, .int .i64 0, .int .i64 0, .int .i64 0, .slice none 0 0, .int .i64 0, .bool false]
set_option maxHeartbeats 400000 in
set_option maxRecDepth 20000 in
theorem seglogOpen_new (h : Dev w g gs n (zeroSec n) (.slice none 0 0) 0 false) (hn : 4 ≤ n) :
    Calls Tryz.prog 66 #[.pointer (some ⟨g, 0, none⟩)] w fun e w' => e = .returned (.tuple #[.pointer (some ⟨w.heap.size, 0, none⟩), .int .i64 0]) ∧ LogE w' w.heap.size g ∧ Hid (∃ cur', Dev w' g gs n cur' (.slice none 0 0) 0 false) ∧ Fr w.heap.size [g, gs] w w' := by
  have hn4 := h.nle
  go_enter Tryz.func66, Tryz.ntmps66
  go_wp2_with (first
    | (refine (devLen_any h).mono ?_; rintro e w' ⟨rfl, rfl⟩)
    | (refine (devDown_any h).mono ?_; rintro e w' ⟨rfl, rfl⟩))
  have hb0 : Blk (w.alloc (.cells #[.pointer (some ⟨g, 0, none⟩), .int .i64 0, .int .i64 0, .int .i64 0, .int .i64 0, .int .i64 0, .slice none 0 0, .int .i64 0, .bool false] 243)) w.heap.size 243 #[.pointer (some ⟨g, 0, none⟩), .int .i64 0, .int .i64 0, .int .i64 0, .int .i64 0, .int .i64 0, .slice none 0 0, .int .i64 0, .bool false] := Blk.new _ _ _
  refine (superLoad_new (h.alloc _) (by omega)).mono ?_
  rintro e w1 ⟨rfl, hb1⟩
  have hb01 := hb0.below hb1 hb0.lt
  have hd1 := (h.alloc (.cells #[.pointer (some ⟨g, 0, none⟩), .int .i64 0, .int .i64 0, .int .i64 0, .int .i64 0, .int .i64 0, .slice none 0 0, .int .i64 0, .bool false] 243)).below hb1
  have hall : Below w.heap.size w w1 := ((Below.refl _ _).alloc (Nat.le_refl _) _).trans (hb1.mono (by simp))
  have HB01 := Lib.hid hb01; have HD1 := Lib.hid hd1; have HALL := Lib.hid hall
  clear hb0 hb1 hb01 hd1 hall
  go_wp2_with fail
  refine (blank_new (HD1.out.alloc _)).mono ?_
  rintro e w2 ⟨rfl, hb2⟩
  have hb02 := (HB01.out.alloc (.cells #[.int .i64 0, .int .i64 0, .int .i64 0, .int .i64 0, .int .i64 0] 240)).below hb2 (by have := HB01.out.lt; simp; omega)
  have hd2 := (HD1.out.alloc (.cells #[.int .i64 0, .int .i64 0, .int .i64 0, .int .i64 0, .int .i64 0] 240)).below hb2
  have hall2 : Below w.heap.size w w2 := (HALL.out.alloc HALL.out.size _).trans (hb2.mono (by have := HALL.out.size; simp; omega))
  have c0 := hb02.cell 0; have c1 := hb02.cell 1; have c2 := hb02.cell 2; have c3 := hb02.cell 3; have c4 := hb02.cell 4; have c5 := hb02.cell 5
  have g1 := hb02.frozen 1; have g2 := hb02.frozen 2; have g3 := hb02.frozen 3; have g4 := hb02.frozen 4; have g5 := hb02.frozen 5
  have HB02 := Lib.hid hb02; have HD2 := Lib.hid hd2; have HALL2 := Lib.hid hall2
  clear hb2 hb02 hd2 hall2
  go_wp2_with fail
  obtain ⟨W3, hW3⟩ : ∃ W3, W3 = ((((w2.setCell ⟨w.heap.size, 1, none⟩ (.int .i64 0)).setCell ⟨w.heap.size, 2, none⟩ (.int .i64 1)).setCell ⟨w.heap.size, 3, none⟩ (.int .i64 0)).setCell ⟨w.heap.size, 4, none⟩ (.int .i64 0)).setCell ⟨w.heap.size, 5, none⟩ (.int .i64 0) := ⟨_, rfl⟩
  rw [← hW3]
  have hb3 : LogE W3 w.heap.size g := by
    rw [hW3]
    have := ((((HB02.out.set_ 1 (.int .i64 0)).set_ 2 (.int .i64 1)).set_ 3 (.int .i64 0)).set_ 4 (.int .i64 0)).set_ 5 (.int .i64 0)
    unfold LogE
    simpa using this
  have hd3 : Dev W3 g gs n (zeroSec n) (.slice none 0 0) 0 false := by
    have e1 : g ≠ w.heap.size := by have := h.blk.lt; omega
    have e2 : gs ≠ w.heap.size := by have := h.sec.lt; omega
    rw [hW3]
    refine ⟨?_, ?_, zeroSec_size n, hn4⟩
    · iterate 5 (refine Blk.far ?_ (by exact e1) _)
      exact HD2.out.blk
    · iterate 5 (refine Blk.far ?_ (by exact e2) _)
      exact HD2.out.sec
  have hf3 : Fr w.heap.size [g, gs] w W3 := by
    rw [hW3]
    iterate 5 (refine Fr.setCell ?_ (.inl (by exact Nat.le_refl _)) _)
    exact Fr.of_below HALL2.out
  have hs := superSave_new hd3 (by omega)
  have HS := Lib.hid hs; have HB3 := Lib.hid hb3; have HF3 := Lib.hid hf3
  clear hs hb3 hd3 hf3 hW3 c0 c1 c2 c3 c4 c5 g1 g2 g3 g4 g5
  refine HS.out.mono ?_
  rintro e w4 ⟨rfl, hd4, hf4⟩
  have HF4 := Lib.hid hf4; clear hf4
  go_wp2
  go_ret2
  have k3 := HF3.out.size
  refine ⟨rfl, HB3.out.fr HF4.out (Blk.lt HB3.out) ?_, hd4, HF3.out.trans (HF4.out.mono k3 (fun k _ hk => hk))⟩
  have := h.blk.lt; have := h.sec.lt
  simp; omega

theorem logFirst_any (gl g : Nat) (w : World) (h : LogE w gl g) : Calls Tryz.prog 68 #[.pointer (some ⟨gl, 0, none⟩)] w fun e w' => e = .returned (.int .i64 0) ∧ w = w' := by
  have c0 := h.cell 3
  go_enter Tryz.func68, Tryz.ntmps68
  go_wp2
  go_ret
  exact ⟨rfl, rfl⟩
theorem logNext_any (gl g : Nat) (w : World) (h : LogE w gl g) : Calls Tryz.prog 69 #[.pointer (some ⟨gl, 0, none⟩)] w fun e w' => e = .returned (.int .i64 0) ∧ Hid (∃ n, w' = w.drewN n) := by
  have c0 := h.cell 3; have c6 := h.cell 6
  go_enter Tryz.func69, Tryz.ntmps69
  go_wp2
  go_quiet (fail)
  go_wp2
  go_ret
  exact ⟨rfl, _, rfl⟩

/-- a Keep that knows nothing, on a device of its own -/
structure KeepE (w : World) (gk gc gm gl g gs n : Nat) (most stale : Int) : Prop where
  blk : Blk w gk 128 #[.pointer (some ⟨gc, 0, none⟩), .pointer (some ⟨gl, 0, none⟩), .int .i64 ((n : Int) - 2), .int .i64 0, .int .i64 0, .bool false, .bool false]
  cache : CacheE w gc gm most stale
  log : LogE w gl g
  dev : ∃ cur', Dev w g gs n cur' (.slice none 0 0) 0 false

set_option maxHeartbeats 400000 in
set_option maxRecDepth 20000 in
theorem keepOpen_new (h : Dev w g gs n (zeroSec n) (.slice none 0 0) 0 false) (hn : 4 ≤ n) (most stale : Int) (h1 : 1 ≤ most) (h2 : most ≤ 4096) (h3 : 0 ≤ stale) (h4 : stale ≤ 36028797018963968) :
    Calls Tryz.prog 22 #[.pointer (some ⟨g, 0, none⟩), .int .i64 most, .int .i64 stale] w fun e w' => Hid (∃ gk gc gm gl, e = .returned (.tuple #[.pointer (some ⟨gk, 0, none⟩), .int .i64 0]) ∧ KeepE w' gk gc gm gl g gs n most stale ∧ w.heap.size ≤ gk) ∧ Fr w.heap.size [g, gs] w w' := by
  have hn4 := h.nle
  go_enter Tryz.func22, Tryz.ntmps22
  go_wp2_with fail
  refine (cacheNew_any most stale h1 h2 h3 h4 w).mono ?_
  rintro e w1 ⟨rfl, hc1, hb1, hs1⟩
  have hd1 := h.below hb1
  have hso := seglogOpen_new hd1 hn
  have HC := Lib.hid hc1; have HB := Lib.hid hb1; have HS := Lib.hid hs1; have HSO := Lib.hid hso
  clear hc1 hb1 hs1 hd1 hso
  go_wp2_with fail
  refine HSO.out.mono ?_
  rintro e w2 ⟨rfl, hl2, hd2, hf2⟩
  obtain ⟨cur, hdd⟩ := hd2.out
  have hlen := devLen_any hdd
  have HL := Lib.hid hl2; have HD := Lib.hid hdd; have HF := Lib.hid hf2; have HLEN := Lib.hid hlen
  clear hl2 hdd hf2 hd2 hlen
  go_wp2_with (first
    | (refine HLEN.out.mono ?_; rintro e w' ⟨rfl, rfl⟩)
    | (refine (logFirst_any _ g _ (HL.out.alloc _)).mono ?_; rintro e w' ⟨rfl, rfl⟩))
  refine wp_loop_once ?_
  go_wp2_with fail
  refine (logNext_any _ g _ (HL.out.alloc _)).mono ?_
  rintro e w3 ⟨rfl, hq⟩
  obtain ⟨nq, rfl⟩ := hq.out
  clear hq
  go_wp2
  go_ret2
  have k1 := HB.out.size
  have k2 := HF.out.size
  refine ⟨⟨w2.heap.size, w.heap.size + 1, w.heap.size, w1.heap.size, rfl, ⟨(Blk.new _ _ _).drewN _, ?_, (Blk.alloc HL.out _).drewN _, cur, ?_⟩, by omega⟩, ?_⟩
  · have hlt := HC.out.1.lt
    have hlm : w.heap.size < w1.heap.size := by have := HS.out; omega
    have e1 := h.blk.lt
    have e2 := h.sec.lt
    refine ⟨((HC.out.1.fr HF.out hlt (by simp; omega)).alloc _).drewN _, ?_⟩
    have := HF.out.block w.heap.size hlm (by simp; omega)
    exact ((Below.heap_alloc _ _ _ (by omega)).trans this).trans HC.out.2
  · exact ⟨(HD.out.blk.alloc _).drewN _, (HD.out.sec.alloc _).drewN _, HD.out.size, HD.out.nle⟩
  · exact (((Fr.of_below HB.out).trans (HF.out.mono k1 (fun k _ hk => hk))).alloc (by omega) _).drewN _
end
end Go.Proofs.YtacmgogobjpmcaaGreat
