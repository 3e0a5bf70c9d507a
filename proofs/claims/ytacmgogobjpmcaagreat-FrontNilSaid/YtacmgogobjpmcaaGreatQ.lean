/- Contracts: the references' bytes of one small question. (printed by wip/gen_q.py) -/
import Derived.Test.YtacmgogobjpmcaaGreatP
namespace Go.Proofs.YtacmgogobjpmcaaGreat
open Go.RowKit

def askBytes (s : ByteArray) : List UInt8 := [0, 7, 1, 0, 0, 1, 0, 0, 0, 0, 0, 0, 7] ++ s.data.toList ++ [0, 0, 1, 0, 1]
theorem putB7 : putB 7 2 = [0, 7] := by decide
def bysAll (n : Int) (l : List UInt8) : List UInt8 := (((((((([] ++ putB 7 2) ++ putB 256 2) ++ putB 1 2) ++ putB 0 2) ++ putB 0 2) ++ putB 0 2) ++ putB n 1 ++ l ++ putB 0 1) ++ putB 1 2) ++ putB 1 2
theorem askBytes_eq (s : ByteArray) (hs : s.size = 7) : bysAll s.size s.data.toList = askBytes s := by
  unfold bysAll
  rw [hs, show putB 7 2 = [0, 7] by decide, show putB 256 2 = [1, 0] by decide, show putB 1 2 = [0, 1] by decide, show putB 0 2 = [0, 0] by decide, show putB ((7 : Nat) : Int) 1 = [7] by decide, show putB 0 1 = [0] by decide]
  simp [askBytes]

theorem AskQ.rd {B q n cn : Nat} {s : ByteArray} {w : World} (h : AskQ B q n cn s w) : Rd w B 1 (some ⟨n, 0, none⟩) 1 [.string s] :=
  ⟨rfl, by unfold maxLen; omega, fun _ => ⟨_, rfl, h.nl, fun j u hu => by
    rcases j with _ | j
    · injection hu with hu; subst hu; rw [Addr.add_zero']; exact h.nb
    · simp at hu⟩⟩

set_option maxHeartbeats 4000000 in
set_option maxRecDepth 40000 in
theorem rRaw_any (q n c cn : Nat) (s : ByteArray) (w : World) (h : AskQ w.heap.size q n cn s w) :
    Calls Tryz.prog 55 #[askM (some ⟨q, 0, none⟩) c] w fun e w' => Hid (∃ A c', e = .returned (.slice A 25 c') ∧ 25 ≤ c' ∧ Rd w' w'.heap.size 1 A 25 (bys (askBytes s)) ∧ Below w.heap.size w w') := by
  have hs := h.sz
  have hl : Hid (s.data.toList.length = 7) := Lib.hid (by simpa using hs)
  have H := Lib.hid h
  clear h
  unfold askM
  go_enter Tryz.func55, Tryz.ntmps55
  go_wp2_with fail
  obtain ⟨w0, hw0⟩ : ∃ W, W = (w.alloc (.cells #[.int .i64 7, .bool false, .int .i64 0, .bool false, .bool false, .bool true, .bool false, .int .i64 0, .slice (some ⟨q, 0, none⟩) 1 c, .slice none 0 0, .slice none 0 0, .slice none 0 0, .bool false, .int .i64 0] 29)).alloc (.cells #[.slice none 0 0, .slice none 0 0] 222) := ⟨_, rfl⟩
  rw [← hw0]
  have HB0 : Hid (Below (w.heap.size + 1) ((w.alloc (.cells #[.int .i64 7, .bool false, .int .i64 0, .bool false, .bool false, .bool true, .bool false, .int .i64 0, .slice (some ⟨q, 0, none⟩) 1 c, .slice none 0 0, .slice none 0 0, .slice none 0 0, .bool false, .int .i64 0] 29))) w0) := Lib.hid (by rw [hw0]; exact (Below.refl _ _).alloc (by simp) _)
  have HM0 : Hid (Blk w0 w.heap.size 29 #[.int .i64 7, .bool false, .int .i64 0, .bool false, .bool false, .bool true, .bool false, .int .i64 0, .slice (some ⟨q, 0, none⟩) 1 c, .slice none 0 0, .slice none 0 0, .slice none 0 0, .bool false, .int .i64 0]) := Lib.hid (by rw [hw0]; exact (Blk.new _ _ _).alloc _)
  have HQ0 : Hid (AskQ (w.heap.size + 1) q n cn s w0) := Lib.hid (by
    have := H.out.below (((Below.refl _ w).alloc (Nat.le_refl _) (.cells #[.int .i64 7, .bool false, .int .i64 0, .bool false, .bool false, .bool true, .bool false, .int .i64 0, .slice (some ⟨q, 0, none⟩) 1 c, .slice none 0 0, .slice none 0 0, .slice none 0 0, .bool false, .int .i64 0] 29)).alloc (by simp) (.cells #[.slice none 0 0, .slice none 0 0] 222))
    rw [hw0]
    exact ⟨this.qb, this.nb, by have := this.ql; omega, by have := this.nl; omega, this.sz⟩)
  have HR0 : Hid (RWr w0 (w.heap.size + 1) (w.heap.size + 1) [] 0) := Lib.hid (by
    rw [hw0]
    exact ⟨none, 0, .slice none 0 0, [], Blk.new' _ _ _ (by simp), Nat.le_refl _, World.ownsRow_nil _ _ _ _, World.ownsRow_nil _ _ _ _⟩)
  clear hw0
  have m0 := HM0.out.cell 0; have m1 := HM0.out.cell 1; have m2 := HM0.out.cell 2; have m3 := HM0.out.cell 3; have m4 := HM0.out.cell 4; have m5 := HM0.out.cell 5; have m6 := HM0.out.cell 6; have m7 := HM0.out.cell 7; have m8 := HM0.out.cell 8; have m9 := HM0.out.cell 9; have m10 := HM0.out.cell 10; have m11 := HM0.out.cell 11; have m12 := HM0.out.cell 12; have m13 := HM0.out.cell 13; have c0 := HQ0.out.qb.cell 0; have c1 := HQ0.out.qb.cell 1; have c2 := HQ0.out.qb.cell 2
  
  refine (rwNum_any _ _ 0 _ 7 2 _ HR0.out (by have := hl.out; have := putB_le s.size 1; simp only [List.length_append, List.length_nil, putB_length 7 2 rfl, putB_length 256 2 rfl, putB_length 1 2 rfl, putB_length 0 2 rfl, putB_length 0 1 rfl, putB_length 7 1 rfl]; omega) (by omega)).mono ?_
  rintro e w1 ⟨rfl, hr1, hb1⟩
  have HR1 := Lib.hid hr1; have HM1 := Lib.hid (HM0.out.below hb1 (Nat.lt_succ_self _)); have HQ1 := Lib.hid (HQ0.out.below hb1); have HB1 := Lib.hid (HB0.out.trans hb1)
  clear m0 m1 m2 m3 m4 m5 m6 m7 m8 m9 m10 m11 m12 m13 c0 c1 c2
  clear hr1 hb1
  have m0 := HM1.out.cell 0; have m1 := HM1.out.cell 1; have m2 := HM1.out.cell 2; have m3 := HM1.out.cell 3; have m4 := HM1.out.cell 4; have m5 := HM1.out.cell 5; have m6 := HM1.out.cell 6; have m7 := HM1.out.cell 7; have m8 := HM1.out.cell 8; have m9 := HM1.out.cell 9; have m10 := HM1.out.cell 10; have m11 := HM1.out.cell 11; have m12 := HM1.out.cell 12; have m13 := HM1.out.cell 13; have c0 := HQ1.out.qb.cell 0; have c1 := HQ1.out.qb.cell 1; have c2 := HQ1.out.qb.cell 2
  go_simp
  go_wp2_with fail
  go_region_held3 (fun w' => w'.cell? ⟨w.heap.size, 1, none⟩ = some (.bool false) ∧ w'.cell? ⟨w.heap.size, 2, none⟩ = some (.int .i64 0) ∧ w'.cell? ⟨w.heap.size, 3, none⟩ = some (.bool false) ∧ w'.cell? ⟨w.heap.size, 4, none⟩ = some (.bool false) ∧ w'.cell? ⟨w.heap.size, 5, none⟩ = some (.bool true) ∧ w'.cell? ⟨w.heap.size, 6, none⟩ = some (.bool false) ∧ w'.cell? ⟨w.heap.size, 7, none⟩ = some (.int .i64 0))
    (first | exact ⟨m1, m2, m3, m4, m5, m6, m7⟩)
    (first
     | (go_at_call 120; refine (rFlag_any _ _ _).mono ?_; rintro e w9 ⟨rfl, rfl⟩)
     | (go_at_call 119
        simp only [show IntKind.i64.wrap 0 = 0 by decide, show (0 : Int) + 256 = 256 by decide, show IntKind.i64.wrap 256 = 256 by decide, show (0 : Int) + 0 = 0 by decide]
        refine (rwNum_any _ _ 0 _ 256 2 _ (HR1.out.below ((Below.refl _ _).drew)) (by have := hl.out; have := putB_le s.size 1; simp only [List.length_append, List.length_nil, putB_length 7 2 rfl, putB_length 256 2 rfl, putB_length 1 2 rfl, putB_length 0 2 rfl, putB_length 0 1 rfl, putB_length 7 1 rfl]; omega) (by omega)).mono ?_
        rintro e w2 ⟨rfl, hr2, hb2⟩
        have HR2 := Lib.hid hr2; have HM2 := Lib.hid (HM1.out.drew.below hb2 (Nat.lt_succ_self _)); have HQ2 := Lib.hid ((HQ1.out.below ((Below.refl _ _).drew)).below hb2); have HB2 := Lib.hid ((HB1.out.trans ((Below.refl _ _).drew)).trans hb2)
        clear m0 m1 m2 m3 m4 m5 m6 m7 m8 m9 m10 m11 m12 m13 c0 c1 c2
        clear hr2 hb2
        have m0 := HM2.out.cell 0; have m1 := HM2.out.cell 1; have m2 := HM2.out.cell 2; have m3 := HM2.out.cell 3; have m4 := HM2.out.cell 4; have m5 := HM2.out.cell 5; have m6 := HM2.out.cell 6; have m7 := HM2.out.cell 7; have m8 := HM2.out.cell 8; have m9 := HM2.out.cell 9; have m10 := HM2.out.cell 10; have m11 := HM2.out.cell 11; have m12 := HM2.out.cell 12; have m13 := HM2.out.cell 13; have c0 := HQ2.out.qb.cell 0; have c1 := HQ2.out.qb.cell 1; have c2 := HQ2.out.qb.cell 2
        go_simp))
  go_wp2_with fail
  
  refine (rwNum_any _ _ 0 _ 1 2 _ HR2.out (by have := hl.out; have := putB_le s.size 1; simp only [List.length_append, List.length_nil, putB_length 7 2 rfl, putB_length 256 2 rfl, putB_length 1 2 rfl, putB_length 0 2 rfl, putB_length 0 1 rfl, putB_length 7 1 rfl]; omega) (by omega)).mono ?_
  rintro e w3 ⟨rfl, hr3, hb3⟩
  have HR3 := Lib.hid hr3; have HM3 := Lib.hid (HM2.out.below hb3 (Nat.lt_succ_self _)); have HQ3 := Lib.hid (HQ2.out.below hb3); have HB3 := Lib.hid (HB2.out.trans hb3)
  clear m0 m1 m2 m3 m4 m5 m6 m7 m8 m9 m10 m11 m12 m13 c0 c1 c2
  clear hr3 hb3
  have m0 := HM3.out.cell 0; have m1 := HM3.out.cell 1; have m2 := HM3.out.cell 2; have m3 := HM3.out.cell 3; have m4 := HM3.out.cell 4; have m5 := HM3.out.cell 5; have m6 := HM3.out.cell 6; have m7 := HM3.out.cell 7; have m8 := HM3.out.cell 8; have m9 := HM3.out.cell 9; have m10 := HM3.out.cell 10; have m11 := HM3.out.cell 11; have m12 := HM3.out.cell 12; have m13 := HM3.out.cell 13; have c0 := HQ3.out.qb.cell 0; have c1 := HQ3.out.qb.cell 1; have c2 := HQ3.out.qb.cell 2
  go_simp
  go_wp2_with fail
  
  refine (rwNum_any _ _ 0 _ 0 2 _ HR3.out (by have := hl.out; have := putB_le s.size 1; simp only [List.length_append, List.length_nil, putB_length 7 2 rfl, putB_length 256 2 rfl, putB_length 1 2 rfl, putB_length 0 2 rfl, putB_length 0 1 rfl, putB_length 7 1 rfl]; omega) (by omega)).mono ?_
  rintro e w4 ⟨rfl, hr4, hb4⟩
  have HR4 := Lib.hid hr4; have HM4 := Lib.hid (HM3.out.below hb4 (Nat.lt_succ_self _)); have HQ4 := Lib.hid (HQ3.out.below hb4); have HB4 := Lib.hid (HB3.out.trans hb4)
  clear m0 m1 m2 m3 m4 m5 m6 m7 m8 m9 m10 m11 m12 m13 c0 c1 c2
  clear hr4 hb4
  have m0 := HM4.out.cell 0; have m1 := HM4.out.cell 1; have m2 := HM4.out.cell 2; have m3 := HM4.out.cell 3; have m4 := HM4.out.cell 4; have m5 := HM4.out.cell 5; have m6 := HM4.out.cell 6; have m7 := HM4.out.cell 7; have m8 := HM4.out.cell 8; have m9 := HM4.out.cell 9; have m10 := HM4.out.cell 10; have m11 := HM4.out.cell 11; have m12 := HM4.out.cell 12; have m13 := HM4.out.cell 13; have c0 := HQ4.out.qb.cell 0; have c1 := HQ4.out.qb.cell 1; have c2 := HQ4.out.qb.cell 2
  go_simp
  go_wp2_with fail
  
  refine (rwNum_any _ _ 0 _ 0 2 _ HR4.out (by have := hl.out; have := putB_le s.size 1; simp only [List.length_append, List.length_nil, putB_length 7 2 rfl, putB_length 256 2 rfl, putB_length 1 2 rfl, putB_length 0 2 rfl, putB_length 0 1 rfl, putB_length 7 1 rfl]; omega) (by omega)).mono ?_
  rintro e w5 ⟨rfl, hr5, hb5⟩
  have HR5 := Lib.hid hr5; have HM5 := Lib.hid (HM4.out.below hb5 (Nat.lt_succ_self _)); have HQ5 := Lib.hid (HQ4.out.below hb5); have HB5 := Lib.hid (HB4.out.trans hb5)
  clear m0 m1 m2 m3 m4 m5 m6 m7 m8 m9 m10 m11 m12 m13 c0 c1 c2
  clear hr5 hb5
  have m0 := HM5.out.cell 0; have m1 := HM5.out.cell 1; have m2 := HM5.out.cell 2; have m3 := HM5.out.cell 3; have m4 := HM5.out.cell 4; have m5 := HM5.out.cell 5; have m6 := HM5.out.cell 6; have m7 := HM5.out.cell 7; have m8 := HM5.out.cell 8; have m9 := HM5.out.cell 9; have m10 := HM5.out.cell 10; have m11 := HM5.out.cell 11; have m12 := HM5.out.cell 12; have m13 := HM5.out.cell 13; have c0 := HQ5.out.qb.cell 0; have c1 := HQ5.out.qb.cell 1; have c2 := HQ5.out.qb.cell 2
  go_simp
  go_wp2_with fail
  go_region_held3 (fun w' => w'.cell? ⟨w.heap.size, 11, none⟩ = some (.slice none 0 0) ∧ w'.cell? ⟨w.heap.size, 12, none⟩ = some (.bool false))
    (first | exact ⟨m11, m12⟩)
    (first
     | (go_at_call 120; refine (rFlag_any _ _ _).mono ?_; rintro e w9 ⟨rfl, rfl⟩)
     | (go_at_call 119
        simp only [show IntKind.i64.wrap 0 = 0 by decide, show (0 : Int) + 256 = 256 by decide, show IntKind.i64.wrap 256 = 256 by decide, show (0 : Int) + 0 = 0 by decide]
        refine (rwNum_any _ _ 0 _ 0 2 _ (HR5.out.below ((Below.refl _ _).drew)) (by have := hl.out; have := putB_le s.size 1; simp only [List.length_append, List.length_nil, putB_length 7 2 rfl, putB_length 256 2 rfl, putB_length 1 2 rfl, putB_length 0 2 rfl, putB_length 0 1 rfl, putB_length 7 1 rfl]; omega) (by omega)).mono ?_
        rintro e w6 ⟨rfl, hr6, hb6⟩
        have HR6 := Lib.hid hr6; have HM6 := Lib.hid (HM5.out.drew.below hb6 (Nat.lt_succ_self _)); have HQ6 := Lib.hid ((HQ5.out.below ((Below.refl _ _).drew)).below hb6); have HB6 := Lib.hid ((HB5.out.trans ((Below.refl _ _).drew)).trans hb6)
        clear m0 m1 m2 m3 m4 m5 m6 m7 m8 m9 m10 m11 m12 m13 c0 c1 c2
        clear hr6 hb6
        have m0 := HM6.out.cell 0; have m1 := HM6.out.cell 1; have m2 := HM6.out.cell 2; have m3 := HM6.out.cell 3; have m4 := HM6.out.cell 4; have m5 := HM6.out.cell 5; have m6 := HM6.out.cell 6; have m7 := HM6.out.cell 7; have m8 := HM6.out.cell 8; have m9 := HM6.out.cell 9; have m10 := HM6.out.cell 10; have m11 := HM6.out.cell 11; have m12 := HM6.out.cell 12; have m13 := HM6.out.cell 13; have c0 := HQ6.out.qb.cell 0; have c1 := HQ6.out.qb.cell 1; have c2 := HQ6.out.qb.cell 2
        go_simp))
  go_wp2_with fail
  refine wp_loop_rounds 2 ?_
  rw [rounds_succ]
  go_wp2_with fail
  refine (rwName1_any _ _ _ _ cn s _ HR6.out HQ6.out.rd (by have := hl.out; have := putB_le s.size 1; simp only [List.length_append, List.length_nil, putB_length 7 2 rfl, putB_length 256 2 rfl, putB_length 1 2 rfl, putB_length 0 2 rfl, putB_length 0 1 rfl, putB_length 7 1 rfl]; omega) (by omega)).mono ?_
  
  rintro e w7 ⟨rfl, hr7, hb7⟩
  have HR7 := Lib.hid hr7; have HM7 := Lib.hid (HM6.out.below hb7 (Nat.lt_succ_self _)); have HQ7 := Lib.hid (HQ6.out.below hb7); have HB7 := Lib.hid (HB6.out.trans hb7)
  clear m0 m1 m2 m3 m4 m5 m6 m7 m8 m9 m10 m11 m12 m13 c0 c1 c2
  clear hr7 hb7
  have m0 := HM7.out.cell 0; have m1 := HM7.out.cell 1; have m2 := HM7.out.cell 2; have m3 := HM7.out.cell 3; have m4 := HM7.out.cell 4; have m5 := HM7.out.cell 5; have m6 := HM7.out.cell 6; have m7 := HM7.out.cell 7; have m8 := HM7.out.cell 8; have m9 := HM7.out.cell 9; have m10 := HM7.out.cell 10; have m11 := HM7.out.cell 11; have m12 := HM7.out.cell 12; have m13 := HM7.out.cell 13; have c0 := HQ7.out.qb.cell 0; have c1 := HQ7.out.qb.cell 1; have c2 := HQ7.out.qb.cell 2
  go_simp
  go_wp2_with fail
  
  refine (rwNum_any _ _ 1 _ 1 2 _ HR7.out (by have := hl.out; have := putB_le s.size 1; simp only [List.length_append, List.length_nil, putB_length 7 2 rfl, putB_length 256 2 rfl, putB_length 1 2 rfl, putB_length 0 2 rfl, putB_length 0 1 rfl, putB_length 7 1 rfl]; omega) (by omega)).mono ?_
  rintro e w8 ⟨rfl, hr8, hb8⟩
  have HR8 := Lib.hid hr8; have HM8 := Lib.hid (HM7.out.below hb8 (Nat.lt_succ_self _)); have HQ8 := Lib.hid (HQ7.out.below hb8); have HB8 := Lib.hid (HB7.out.trans hb8)
  clear m0 m1 m2 m3 m4 m5 m6 m7 m8 m9 m10 m11 m12 m13 c0 c1 c2
  clear hr8 hb8
  have m0 := HM8.out.cell 0; have m1 := HM8.out.cell 1; have m2 := HM8.out.cell 2; have m3 := HM8.out.cell 3; have m4 := HM8.out.cell 4; have m5 := HM8.out.cell 5; have m6 := HM8.out.cell 6; have m7 := HM8.out.cell 7; have m8 := HM8.out.cell 8; have m9 := HM8.out.cell 9; have m10 := HM8.out.cell 10; have m11 := HM8.out.cell 11; have m12 := HM8.out.cell 12; have m13 := HM8.out.cell 13; have c0 := HQ8.out.qb.cell 0; have c1 := HQ8.out.qb.cell 1; have c2 := HQ8.out.qb.cell 2
  go_simp
  go_wp2_with fail
  
  refine (rwNum_any _ _ 1 _ 1 2 _ HR8.out (by have := hl.out; have := putB_le s.size 1; simp only [List.length_append, List.length_nil, putB_length 7 2 rfl, putB_length 256 2 rfl, putB_length 1 2 rfl, putB_length 0 2 rfl, putB_length 0 1 rfl, putB_length 7 1 rfl]; omega) (by omega)).mono ?_
  rintro e w9 ⟨rfl, hr9, hb9⟩
  have HR9 := Lib.hid hr9; have HM9 := Lib.hid (HM8.out.below hb9 (Nat.lt_succ_self _)); have HQ9 := Lib.hid (HQ8.out.below hb9); have HB9 := Lib.hid (HB8.out.trans hb9)
  clear m0 m1 m2 m3 m4 m5 m6 m7 m8 m9 m10 m11 m12 m13 c0 c1 c2
  clear hr9 hb9
  have m0 := HM9.out.cell 0; have m1 := HM9.out.cell 1; have m2 := HM9.out.cell 2; have m3 := HM9.out.cell 3; have m4 := HM9.out.cell 4; have m5 := HM9.out.cell 5; have m6 := HM9.out.cell 6; have m7 := HM9.out.cell 7; have m8 := HM9.out.cell 8; have m9 := HM9.out.cell 9; have m10 := HM9.out.cell 10; have m11 := HM9.out.cell 11; have m12 := HM9.out.cell 12; have m13 := HM9.out.cell 13; have c0 := HQ9.out.qb.cell 0; have c1 := HQ9.out.qb.cell 1; have c2 := HQ9.out.qb.cell 2
  go_simp
  go_wp2_with fail
  rw [rounds_succ]
  go_wp2_with fail
  go_region_held3 (fun w' => w'.cell? ⟨w.heap.size, 9, none⟩ = some (.slice none 0 0) ∧ w'.cell? ⟨w.heap.size, 10, none⟩ = some (.slice none 0 0) ∧ w'.cell? ⟨w.heap.size, 11, none⟩ = some (.slice none 0 0))
    (first | exact ⟨m9, m10, m11⟩ | exact ⟨(HM9.out.alloc _).cell 9, (HM9.out.alloc _).cell 10, (HM9.out.alloc _).cell 11⟩ | exact ⟨(HM9.out.alloc _).drew.cell 9, (HM9.out.alloc _).drew.cell 10, (HM9.out.alloc _).drew.cell 11⟩)
    (first | fail)
  obtain ⟨w10, hw10⟩ : ∃ W, W = (w9.alloc (.cells #[] 179)).drew := ⟨_, rfl⟩
  rw [← hw10]
  have HW10 : Hid (Below w9.heap.size w9 w10) := Lib.hid (by rw [hw10]; exact ((Below.refl _ _).alloc (Nat.le_refl _) _).drew)
  clear hw10
  have m12 := (HM9.out.below HW10.out HM9.out.lt).cell 12
  obtain ⟨A, c', rv, rs, g0, g1, g2, g3⟩ := HR9.out.below HW10.out
  have hbb := askBytes_eq s hs
  unfold bysAll at hbb
  rw [hbb] at g0 g2
  have gl : (askBytes s).length = 25 := by simp [askBytes]; exact hs
  rw [gl] at g0 g2
  have d0 := g0.cell 0
  have hcap := own_cap g2
  have G2 := Lib.hid (Rd.of_own g2)
  clear g0 g1 g2 g3 m0 m1 m2 m3 m4 m5 m6 m7 m8 m9 m10 m11 c0 c1 c2
  go_wp2_with fail
  refine wp_loop_once ?_
  go_wp2_with fail
  go_ret
  refine Lib.hid ⟨A, c', rfl, by omega, G2.out, ?_⟩
  have h1 : Below w.heap.size w (w.alloc (.cells #[.int .i64 7, .bool false, .int .i64 0, .bool false, .bool false, .bool true, .bool false, .int .i64 0, .slice (some ⟨q, 0, none⟩) 1 c, .slice none 0 0, .slice none 0 0, .slice none 0 0, .bool false, .int .i64 0] 29)) := (Below.refl _ _).alloc (Nat.le_refl _) _
  have h2 := HB9.out.mono (Nat.le_succ w.heap.size)
  have h3 := h2.size
  simp at h3
  exact (h1.trans h2).trans (HW10.out.mono (by omega))
end Go.Proofs.YtacmgogobjpmcaaGreat
