/- Contracts: the program's msg.Sound on the answer to one small question. -/
import Derived.Test.YtacmgogobjpmcaaGreatZ
namespace Go.Proofs.YtacmgogobjpmcaaGreat
open Go.RowKit

/-- the answer's message -/
def respM (A : Option Addr) (c : Nat) : Value :=
  .agg #[.int .i64 7, .bool true, .int .i64 0, .bool false, .bool false, .bool true, .bool true, .int .i64 5, .slice A 1 c, .slice none 0 0, .slice none 0 0, .slice none 0 0, .bool false, .int .i64 0]
def respC (A : Option Addr) (c : Nat) : Array Value :=
  #[.int .i64 7, .bool true, .int .i64 0, .bool false, .bool false, .bool true, .bool true, .int .i64 5, .slice A 1 c, .slice none 0 0, .slice none 0 0, .slice none 0 0, .bool false, .int .i64 0]

/-- the question and its name, below B -/
structure OneQ (B gq gn cn : Nat) (s : ByteArray) (w : World) : Prop where
  q0 : w.cell? ⟨gq, 0, none⟩ = some (.slice (some ⟨gn, 0, none⟩) 1 cn)
  q1 : w.cell? ⟨gq, 1, none⟩ = some (.int .i64 1)
  q2 : w.cell? ⟨gq, 2, none⟩ = some (.int .i64 1)
  n0 : w.cell? ⟨gn, 0, none⟩ = some (.string s)
  ql : gq < B
  nl : gn < B
theorem OneQ.below {B gq gn cn : Nat} {s : ByteArray} {w w' : World} (h : OneQ B gq gn cn s w) (hb : Below B w w') : OneQ B gq gn cn s w' :=
  ⟨(World.cell?_of_block (hb.block gq h.ql)).trans h.q0, (World.cell?_of_block (hb.block gq h.ql)).trans h.q1, (World.cell?_of_block (hb.block gq h.ql)).trans h.q2, (World.cell?_of_block (hb.block gn h.nl)).trans h.n0, h.ql, h.nl⟩
theorem OneQ.more {B B' gq gn cn : Nat} {s : ByteArray} {w : World} (h : OneQ B gq gn cn s w) (hB : B ≤ B') : OneQ B' gq gn cn s w :=
  ⟨h.q0, h.q1, h.q2, h.n0, Nat.lt_of_lt_of_le h.ql hB, Nat.lt_of_lt_of_le h.nl hB⟩

set_option maxHeartbeats 2000000 in
set_option maxRecDepth 40000 in
theorem mSound_any (gq cq gn cn : Nat) (s : ByteArray) (hs : soundB [s] = true) (w : World) (h : OneQ w.heap.size gq gn cn s w) :
    Calls Tryz.prog 197 #[respM (some ⟨gq, 0, none⟩) cq] w fun e w' => e = .returned (.bool true) ∧ Below w.heap.size w w' := by
  have hf7 : fitsB 7 2 = true := rfl
  have hf0 : fitsB 0 2 = true := rfl
  have H := Lib.hid h
  clear h
  unfold respM
  go_enter Tryz.func197, Tryz.ntmps197
  go_wp2_with fail
  obtain ⟨w0, hw0⟩ : ∃ W, W = w.alloc (.cells (respC (some ⟨gq, 0, none⟩) cq) 29) := ⟨_, rfl⟩
  have hb0 : Below w.heap.size w w0 := by rw [hw0]; exact (Below.refl _ _).alloc (Nat.le_refl _) _
  have hm0 : Blk w0 w.heap.size 29 (respC (some ⟨gq, 0, none⟩) cq) := by rw [hw0]; exact Blk.new _ _ _
  have hs0 : w0.heap.size = w.heap.size + 1 := by rw [hw0]; simp
  unfold respC at hw0
  rw [← hw0]
  clear hw0
  have HB0 := Lib.hid hb0; have HM0 := Lib.hid hm0; have HQ0 := Lib.hid ((H.out.below hb0).more hb0.size)
  clear hb0 hm0
  refine (sections_any w.heap.size w0).mono ?_
  rintro e w1 ⟨rfl, hb1, hp1⟩
  rw [hs0] at hp1
  have hm1 := HM0.out.below hb1 HM0.out.lt
  unfold respC at hm1
  have m0 := hm1.cell 0; have m2 := hm1.cell 2; have m7 := hm1.cell 7; have m8 := hm1.cell 8; have m9 := hm1.cell 9; have m10 := hm1.cell 10; have m11 := hm1.cell 11; have m12 := hm1.cell 12; have m13 := hm1.cell 13
  have s0 := hp1.cell 0; have s1 := hp1.cell 1; have s2 := hp1.cell 2
  have HB1 := Lib.hid hb1; have HQ1 := Lib.hid ((HQ0.out.below hb1).more hb1.size)
  clear hb1 hp1 hm1
  go_simp
  go_wp2_with fail
  refine wp_loop_rounds 4 ?_
  rw [rounds_succ]
  go_wp2_with fail
  iterate 3
    refine (conRR0_any _ _).mono ?_
    rintro e wz ⟨rfl, rfl⟩
    go_simp
    go_wp2_with fail
    rw [rounds_succ]
    go_wp2_with fail
  refine (numFits_any 7 2 _).mono ?_
  rintro e wy ⟨rfl, rfl⟩
  go_simp
  go_wp2_with fail
  refine (numFits_any 0 2 _).mono ?_
  rintro e wy ⟨rfl, rfl⟩
  go_simp
  go_wp2_with fail
  refine (conQ1_any gq cq gn cn s hs _ HQ1.out.q0 HQ1.out.q1 HQ1.out.q2 HQ1.out.n0 HQ1.out.nl).mono ?_
  rintro e w2 ⟨rfl, hb2⟩
  have HB2 := Lib.hid hb2
  clear hb2 m0 m2 m7 m8 m9 m10 m11 m12 m13 s0 s1 s2
  go_simp
  go_wp2_with fail
  go_ret
  have e1 := HB1.out.size
  exact ⟨rfl, (HB0.out.trans (HB1.out.mono (by omega))).trans (HB2.out.mono (by omega))⟩
end Go.Proofs.YtacmgogobjpmcaaGreat
