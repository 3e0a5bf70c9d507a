/- Contracts: the program's msg.Decode on the small question's bytes. -/
import Derived.Test.YtacmgogobjpmcaaGreatU
import Derived.Defers
import Derived.Recover
namespace Go.Proofs.YtacmgogobjpmcaaGreat
open Go.RowKit

theorem catch_idle (p q : Addr) (w : World) :
    CallsD Tryz.prog 149 #[.pointer (some p), .pointer (some q)] .returning w fun e u' w' => e = .returned (.tuple #[]) ∧ u' = .returning ∧ w' = w := by
  refine callsD_of_wpS Tryz.func149 rfl fun c₀ cs hu => ?_
  apply wpS_seq
  apply wpS_region
  simp [wpOpsS, go_sem, recoverD, hu, Tryz.ntmps149, Exit.thenS]
  apply wpS_seq
  apply wpS_region
  simp [wpOpsS, go_sem, recoverD, hu, Tryz.ntmps149, Exit.thenS]
  refine wpS_cond (t := false) (by simp [Act.eval, Array.replicate]) ?_
  simp only [Bool.false_eq_true, if_false]
  refine wpS_of_wp (wp_skip ?_)
  cases c₀
  simp_all [bodyPostS, results, Tryz.results149]

set_option maxHeartbeats 2000000 in
set_option maxRecDepth 40000 in
theorem Decode_any (c : Nat) (A : Option Addr) (s : ByteArray) (hs : s.size = 7) (w : World) (h : Rd w w.heap.size 1 A 25 (bys (askBytes s))) (hc : 25 ≤ c) :
    Calls Tryz.prog 75 #[.slice A 25 c] w fun e w' => Hid (∃ Aq cq A' c', e = .returned (.tuple #[askM Aq cq, .int .i64 0]) ∧ w'.ownsRow w.heap.size 24 3 (.slice Aq 1 cq) 1 [.slice A' 1 c', .int .i64 1, .int .i64 1] ∧
      w'.ownsRow w.heap.size 9 1 (.slice A' 1 c') 1 [.string s] ∧ Below w.heap.size w w') := by
  have H := Lib.hid h
  clear h
  go_enter_defers Tryz.func75, Tryz.ntmps75
  go_wp2_with fail
  obtain ⟨w1, hw1⟩ : ∃ W, W = ((w.alloc (.cells msgZ 29)).alloc (.cells #[.int .i64 0] 37)).alloc (.cells #[.slice A 25 c, .int .i64 0] 267) := ⟨_, rfl⟩
  have hb1 : Below w.heap.size w w1 := by rw [hw1]; exact (((Below.refl _ _).alloc (Nat.le_refl _) _).alloc (by simp) _).alloc (by simp; omega) _
  have hs1 : w1.heap.size = w.heap.size + 3 := by rw [hw1]; simp
  have hr1 : RdrAt (w.heap.size + 1 + 1) 25 c A (askBytes s) 0 w1 := ⟨by rw [hw1]; exact Blk.new' _ _ _ (by simp), (H.out.below hb1).more (by omega), hc⟩
  have hm1 : Blk w1 w.heap.size 29 msgZ := by rw [hw1]; exact ((Blk.new _ _ _).alloc _).alloc _
  have he1 : Blk w1 (w.heap.size + 1) 37 #[.int .i64 0] := by rw [hw1]; exact (Blk.new' _ _ _ (by simp)).alloc _
  unfold msgZ at hw1
  rw [← hw1]
  clear hw1
  have HR1 := Lib.hid hr1; have HM1 := Lib.hid hm1; have HE1 := Lib.hid he1; have HB1 := Lib.hid hb1
  clear hr1 hm1 he1 hb1
  refine (message_any (w.heap.size + 1 + 1) c A s hs w1 HR1.out).mono ?_
  rintro e w2 hq
  obtain ⟨Aq, cq, A', c', rfl, hoq, hon, hf2⟩ := hq.out
  have hm2 := HM1.out.fr hf2 HM1.out.lt (by simp <;> omega)
  have he2 := HE1.out.fr hf2 HE1.out.lt (by simp <;> omega)
  have m0 := hm2.cell 0; have f0 := hm2.frozen 0; have m1 := hm2.cell 1; have f1 := hm2.frozen 1; have m2 := hm2.cell 2; have f2 := hm2.frozen 2; have m3 := hm2.cell 3; have f3 := hm2.frozen 3; have m4 := hm2.cell 4; have f4 := hm2.frozen 4; have m5 := hm2.cell 5; have f5 := hm2.frozen 5; have m6 := hm2.cell 6; have f6 := hm2.frozen 6; have m7 := hm2.cell 7; have f7 := hm2.frozen 7; have m8 := hm2.cell 8; have f8 := hm2.frozen 8; have m9 := hm2.cell 9; have f9 := hm2.frozen 9; have m10 := hm2.cell 10; have f10 := hm2.frozen 10; have m11 := hm2.cell 11; have f11 := hm2.frozen 11; have m12 := hm2.cell 12; have f12 := hm2.frozen 12; have m13 := hm2.cell 13; have f13 := hm2.frozen 13
  have e0 := he2.cell 0; have ef := he2.frozen 0
  unfold msgZ at m0 m1 m2 m3 m4 m5 m6 m7 m8 m9 m10 m11 m12 m13
  have HM2 := Lib.hid hm2; have HE2 := Lib.hid he2; have HF2 := Lib.hid hf2; have HOQ := Lib.hid hoq; have HON := Lib.hid hon
  clear hq hoq hon hf2 hm2 he2
  unfold askM
  go_simp
  go_wp2_with fail
  refine leaves_cons (f := 149) (args := #[.pointer (some ⟨w.heap.size, 0, none⟩), .pointer (some ⟨w.heap.size + 1, 0, none⟩)]) (by simp) (by simp [go_sem]) ?_
  refine (catch_idle ⟨w.heap.size, 0, none⟩ ⟨w.heap.size + 1, 0, none⟩ _).mono ?_
  rintro e u' w'' ⟨rfl, rfl, rfl⟩
  refine ⟨.tuple #[askM Aq cq, .int .i64 0], by unfold askM; simp [results, Tryz.results75, go_sem, m0, m1, m2, m3, m4, m5, m6, m7, m8, m9, m10, m11, m12, m13, e0], ?_⟩
  have np := own_blk_ne HON.out HM2.out (by decide); have nq := own_blk_ne HOQ.out HM2.out (by decide)
  have np' := own_blk_ne HON.out HE2.out (by decide); have nq' := own_blk_ne HOQ.out HE2.out (by decide)
  refine Lib.hid ⟨Aq, cq, A', c', rfl, ?_, ?_, ?_⟩
  · refine own_set ?_ nq' _
    iterate 14 refine own_set ?_ nq _
    exact own_base HOQ.out (by omega)
  · refine own_set ?_ np' _
    iterate 14 refine own_set ?_ np _
    exact own_base HON.out (by omega)
  · refine Fr.to_below (S := []) ?_ (by simp)
    refine Fr.setCell (p := ⟨w.heap.size + 1, 0, none⟩) ?_ (.inl (by simp)) _
    iterate 14 refine frset ?_ _ _
    have h12 := (HF2.out.mono (B' := w.heap.size) (S' := []) (by omega) (by intro k hk hm; simp at hm; omega))
    exact (Fr.of_below HB1.out).trans h12
end Go.Proofs.YtacmgogobjpmcaaGreat
