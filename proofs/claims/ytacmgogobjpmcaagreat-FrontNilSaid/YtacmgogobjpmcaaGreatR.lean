/- Contracts: the references' Encode of one small question; the law's ask. -/
import Derived.Test.YtacmgogobjpmcaaGreatQ
namespace Go.Proofs.YtacmgogobjpmcaaGreat
open Go.RowKit

def askCells (A : Option Addr) (c : Nat) : Array Value :=
  #[.int .i64 7, .bool false, .int .i64 0, .bool false, .bool false, .bool true, .bool false, .int .i64 0, .slice A 1 c, .slice none 0 0, .slice none 0 0, .slice none 0 0, .bool false, .int .i64 0]

theorem AskQ.more {B B' q n cn : Nat} {s : ByteArray} {w : World} (h : AskQ B q n cn s w) (hB : B ≤ B') : AskQ B' q n cn s w :=
  ⟨h.qb, h.nb, Nat.lt_of_lt_of_le h.ql hB, Nat.lt_of_lt_of_le h.nl hB, h.sz⟩

set_option maxHeartbeats 1000000 in
set_option maxRecDepth 40000 in
theorem rEncode_any (q n c cn : Nat) (s : ByteArray) (w : World) (h : AskQ w.heap.size q n cn s w) :
    Calls Tryz.prog 15 #[askM (some ⟨q, 0, none⟩) c] w fun e w' => Hid (∃ A c', e = .returned (.tuple #[.slice A 25 c', .int .i64 0]) ∧ 25 ≤ c' ∧ Rd w' w'.heap.size 1 A 25 (bys (askBytes s)) ∧ Below w.heap.size w w') := by
  have H := Lib.hid h
  clear h
  unfold askM
  go_enter Tryz.func15, Tryz.ntmps15
  go_wp2_with fail
  obtain ⟨w0, hw0⟩ : ∃ W, W = w.alloc (.cells (askCells (some ⟨q, 0, none⟩) c) 29) := ⟨_, rfl⟩
  have hb0 : Below w.heap.size w w0 := by rw [hw0]; exact (Below.refl _ _).alloc (Nat.le_refl _) _
  have hm0 : Blk w0 w.heap.size 29 (askCells (some ⟨q, 0, none⟩) c) := by rw [hw0]; exact Blk.new _ _ _
  have hs0 : w0.heap.size = w.heap.size + 1 := by rw [hw0]; simp
  have hq0 := (H.out.below hb0).more (show w.heap.size ≤ w0.heap.size by omega)
  unfold askCells at hw0
  rw [← hw0]
  clear hw0
  have HB0 := Lib.hid hb0; have HM0 := Lib.hid hm0; have HQ0 := Lib.hid hq0
  clear hb0 hm0 hq0
  refine (rMsg_any q n c cn s w0 HQ0.out).mono ?_
  rintro e w1 ⟨rfl, hb1⟩
  have hm1 := HM0.out.below hb1 (by omega)
  unfold askCells at hm1
  have a0 := hm1.cell 0; have a1 := hm1.cell 1; have a2 := hm1.cell 2; have a3 := hm1.cell 3; have a4 := hm1.cell 4; have a5 := hm1.cell 5; have a6 := hm1.cell 6
  have a7 := hm1.cell 7; have a8 := hm1.cell 8; have a9 := hm1.cell 9; have a10 := hm1.cell 10; have a11 := hm1.cell 11; have a12 := hm1.cell 12; have a13 := hm1.cell 13
  have HB1 := Lib.hid hb1; have HQ1 := Lib.hid ((HQ0.out.below hb1).more hb1.size)
  clear hb1 hm1
  go_wp2_with fail
  refine (rRaw_any q n c cn s w1 HQ1.out).mono ?_
  rintro e w2 hr
  obtain ⟨A, c', rfl, hc', hr, hb2⟩ := hr.out
  have HR := Lib.hid hr; have HB2 := Lib.hid hb2
  clear hr hb2
  go_wp2
  go_ret2
  refine Lib.hid ⟨A, c', rfl, hc', HR.out, ?_⟩
  have e1 := HB1.out.size
  exact (HB0.out.trans (HB1.out.mono (by omega))).trans (HB2.out.mono (by omega))

set_option maxHeartbeats 1000000 in
set_option maxRecDepth 40000 in
/-- the question's bytes -/
theorem ask_any (n cn : Nat) (s : ByteArray) (hs : s.size = 7) (w : World) (h : w.cell? ⟨n, 0, none⟩ = some (.string s)) (hn : n < w.heap.size) :
    Calls Tryz.prog 64 #[.int .i64 7, .agg #[.slice (some ⟨n, 0, none⟩) 1 cn, .int .i64 1, .int .i64 1]] w fun e w' =>
      Hid (∃ A c', e = .returned (.slice A 25 c') ∧ 25 ≤ c' ∧ Rd w' w'.heap.size 1 A 25 (bys (askBytes s)) ∧ Below w.heap.size w w') := by
  go_enter Tryz.func64, Tryz.ntmps64
  go_wp2_with fail
  obtain ⟨w0, hw0⟩ : ∃ W, W = (w.alloc (.cells #[.slice (some ⟨n, 0, none⟩) 1 cn, .int .i64 1, .int .i64 1] 24)).alloc (.cells #[.slice (some ⟨n, 0, none⟩) 1 cn, .int .i64 1, .int .i64 1] 24) := ⟨_, rfl⟩
  have hb0 : Below w.heap.size w w0 := by rw [hw0]; exact ((Below.refl _ _).alloc (Nat.le_refl _) _).alloc (by simp) _
  have hs0 : w0.heap.size = w.heap.size + 2 := by rw [hw0]; simp
  have hq : AskQ w0.heap.size (w.heap.size + 1) n cn s w0 := by
    refine ⟨?_, (World.cell?_of_block (hb0.block n hn)).trans h, by omega, by omega, hs⟩
    rw [hw0]; exact Blk.new' _ _ _ (by simp)
  rw [← hw0]
  clear hw0
  have HB0 := Lib.hid hb0; have HQ0 := Lib.hid hq
  clear hb0 hq h
  refine (rEncode_any (w.heap.size + 1) n 1 cn s w0 HQ0.out).mono ?_
  rintro e w1 hr
  obtain ⟨A, c', rfl, hc', hr, hb1⟩ := hr.out
  have HR := Lib.hid hr; have HB1 := Lib.hid hb1
  clear hr hb1
  go_wp2
  go_ret
  refine Lib.hid ⟨A, c', rfl, hc', HR.out, HB0.out.trans (HB1.out.mono (by omega))⟩
end Go.Proofs.YtacmgogobjpmcaaGreat
