/- Contracts: cut.Fit and front.respond on the answer. -/
import Derived.Test.YtacmgogobjpmcaaGreatZF
import Derived.Test.YtacmgogobjpmcaaGreatF
namespace Go.Proofs.YtacmgogobjpmcaaGreat
open Go.RowKit

set_option maxHeartbeats 1000000 in
set_option maxRecDepth 40000 in
theorem fit_any (gq cq gn cn : Nat) (s : ByteArray) (hs : s.size = 7) (hsd : soundB [s] = true) (w : World) (h : OneQ w.heap.size gq gn cn s w) :
    Calls Tryz.prog 151 #[respM (some ⟨gq, 0, none⟩) cq, .int .i64 512] w fun e w' => Hid (∃ A m c, e = .returned (.tuple #[.slice A m c, .int .i64 0])) ∧ Below w.heap.size w w' := by
  have H := Lib.hid h
  clear h
  unfold respM
  go_enter Tryz.func151, Tryz.ntmps151
  go_wp2_with fail
  obtain ⟨gm, hgm⟩ : ∃ g, g = w.heap.size := ⟨_, rfl⟩
  obtain ⟨w0, hw0⟩ : ∃ W, W = w.alloc (.cells (respC (some ⟨gq, 0, none⟩) cq) 29) := ⟨_, rfl⟩
  have hb0 : Below gm w w0 := by rw [hw0, hgm]; exact (Below.refl _ _).alloc (Nat.le_refl _) _
  have hm0 : Blk w0 gm 29 (respC (some ⟨gq, 0, none⟩) cq) := by rw [hw0, hgm]; exact Blk.new _ _ _
  have hq0 : OneQ gm gq gn cn s w0 := by have := H.out; rw [← hgm] at this; exact this.below hb0
  unfold respC at hw0
  rw [← hw0, ← hgm]
  have HGM := Lib.hid hgm
  clear hw0 hgm H
  have HB0 := Lib.hid hb0; have HM0 := Lib.hid hm0; have HQ0 := Lib.hid hq0
  clear hb0 hm0 hq0
  have hS := mSound_any gq cq gn cn s hsd w0 (HQ0.out.more (Nat.le_of_lt HM0.out.lt))
  unfold respM at hS
  refine hS.mono ?_
  clear hS
  rintro e w1 ⟨rfl, hb1⟩
  have hm1 := HM0.out.below hb1 HM0.out.lt
  have HM1 := Lib.hid hm1; have HQ1 := Lib.hid (HQ0.out.below (hb1.mono (Nat.le_of_lt HM0.out.lt))); have HB1 := Lib.hid (HB0.out.trans (hb1.mono (Nat.le_of_lt HM0.out.lt)))
  unfold respC at hm1
  have m0 := hm1.cell 0; have m1 := hm1.cell 1; have m2 := hm1.cell 2; have m3 := hm1.cell 3; have m4 := hm1.cell 4; have m5 := hm1.cell 5; have m6 := hm1.cell 6; have m7 := hm1.cell 7; have m8 := hm1.cell 8; have m9 := hm1.cell 9; have m10 := hm1.cell 10; have m11 := hm1.cell 11; have m12 := hm1.cell 12; have m13 := hm1.cell 13
  clear hm1 hb1
  go_simp
  go_wp2_with fail
  refine wp_loop_rounds 1 ?_
  rw [rounds_succ]
  go_wp2_with fail
  have hR := mRaw_any gq cq gn cn s hs hsd w1 (HQ1.out.more (Nat.le_of_lt HM1.out.lt))
  unfold respM at hR
  refine hR.mono ?_
  clear hR
  rintro e w2 ⟨hq, hb2⟩
  obtain ⟨A, m, c, rfl, hm⟩ := hq.out
  have HB2 := Lib.hid (HB1.out.trans (hb2.mono (Nat.le_of_lt HM1.out.lt)))
  clear hq hb2 m0 m1 m2 m3 m4 m5 m6 m7 m8 m9 m10 m11 m12 m13
  have hm5 : ((m : Int) ≤ 512) = True := by simp; omega
  go_simp
  go_wp2_with fail
  go_ret2
  exact ⟨Lib.hid ⟨A, m, c, rfl⟩, HGM.out ▸ HB2.out⟩

/-- who waits: one that asked the small question -/
def clientV (A : Option Addr) (n c : Nat) (gq cq : Nat) : Value :=
  .agg #[.slice A n c, .int .i64 5, .int .i64 7, .bool false, .int .i64 0, .bool false, .bool false, .bool true, .bool false, .int .i64 0, .slice (some ⟨gq, 0, none⟩) 1 cq, .slice none 0 0, .slice none 0 0, .slice none 0 0, .bool false, .int .i64 0]
def clientC (A : Option Addr) (n c : Nat) (gq cq : Nat) : Array Value :=
  #[.slice A n c, .int .i64 5, .int .i64 7, .bool false, .int .i64 0, .bool false, .bool false, .bool true, .bool false, .int .i64 0, .slice (some ⟨gq, 0, none⟩) 1 cq, .slice none 0 0, .slice none 0 0, .slice none 0 0, .bool false, .int .i64 0]
def resultC : Array Value := #[.int .i64 5, .slice none 0 0, .slice none 0 0, .bool false]
def dgZ : Array Value := #[.slice none 0 0, .int .i64 0, .slice none 0 0]

theorem far3 {w : World} {g g' : Nat} {t : TypeId} {cs : Array Value} (h : Blk w g t cs) (hne : g ≠ g') (x0 x1 x2 : Value) :
    Blk (((w.setCell ⟨g', 0, none⟩ x0).setCell ⟨g', 1, none⟩ x1).setCell ⟨g', 2, none⟩ x2) g t cs := by
  iterate 3 (refine Blk.far ?_ (by exact hne) _)
  exact h
theorem below_set3 {B : Nat} {a w : World} (h : Below B a w) {g : Nat} (hg : B ≤ g) (x0 x1 x2 : Value) :
    Below B a (((w.setCell ⟨g, 0, none⟩ x0).setCell ⟨g, 1, none⟩ x1).setCell ⟨g, 2, none⟩ x2) := by
  iterate 3 (refine Below.setCell ?_ (by exact hg) _)
  exact h

theorem bytesClone_hid (A : Option Addr) (n c : Nat) (xs : List Value) (w : World) (h : Rd w w.heap.size 1 A n xs) (h1 : ∀ u ∈ xs, u.oneCell' = true) (hn : n ≤ 140737488355328) :
    Calls Tryz.prog 74 #[.slice A n c] w fun e w' => Hid (∃ v, e = .returned v ∧ Cloned 5 n A xs w v w') :=
  (bytesClone_any A n c xs w h h1 hn).mono fun _ _ h => Lib.hid h

set_option maxHeartbeats 2000000 in
set_option maxRecDepth 40000 in
theorem respond_any (A : Option Addr) (n c : Nat) (xs : List Value) (gq cq gn cn : Nat) (s : ByteArray) (hs : s.size = 7) (hsd : soundB [s] = true) (w : World) (hA : Rd w w.heap.size 1 A n xs) (h1 : ∀ u ∈ xs, u.oneCell' = true) (hn : n ≤ 1000) (h : OneQ w.heap.size gq gn cn s w) :
    Calls Tryz.prog 76 #[clientV A n c gq cq, .agg #[.int .i64 5, .slice none 0 0, .slice none 0 0, .bool false]] w fun e w' => Hid (∃ A1 n1 c1 A2 n2 c2, e = .returned (.agg #[.slice A1 n1 c1, .int .i64 5, .slice A2 n2 c2])) ∧ Below w.heap.size w w' := by
  have H := Lib.hid h; have HA := Lib.hid hA; have H1 := Lib.hid h1
  clear h hA h1
  unfold clientV
  go_enter Tryz.func76, Tryz.ntmps76
  go_wp2_with fail
  obtain ⟨w0, hw0⟩ : ∃ W, W = (((w.alloc (.cells (clientC A n c gq cq) 168)).alloc (.cells resultC 111)).alloc (.cells dgZ 46)).alloc (.cells (respC (some ⟨gq, 0, none⟩) cq) 29) := ⟨_, rfl⟩
  obtain ⟨gc, hgc⟩ : ∃ g, g = w.heap.size := ⟨_, rfl⟩
  have hb0 : Below gc w w0 := by rw [hw0, hgc]; exact ((((Below.refl _ _).alloc (Nat.le_refl _) _).alloc (by simp) _).alloc (by simp; omega) _).alloc (by simp; omega) _
  have hc0 : Blk w0 gc 168 (clientC A n c gq cq) := by rw [hw0, hgc]; exact (((Blk.new _ _ _).alloc _).alloc _).alloc _
  have hd0 : Blk w0 (gc + 1 + 1) 46 dgZ := by rw [hw0, hgc]; exact (Blk.new' _ _ _ (by simp)).alloc _
  have hs0 : w0.heap.size = gc + 4 := by rw [hw0, hgc]; simp
  unfold clientC resultC dgZ respC at hw0
  rw [← hw0, ← hgc]
  rw [← hgc] at H HA
  have HGC := Lib.hid hgc; have HB0 := Lib.hid hb0; have HC0 := Lib.hid hc0; have HD0 := Lib.hid hd0; have HS0 := Lib.hid hs0
  clear hw0 hgc hb0 hc0 hd0 hs0
  have hF := fit_any gq cq gn cn s hs hsd w0 ((H.out.below HB0.out).more (by have := HS0.out; omega))
  unfold respM at hF
  refine hF.mono ?_
  clear hF
  rintro e w1 ⟨hq, hb1⟩
  obtain ⟨A1, m1, c1, rfl⟩ := hq.out
  have hgs : gc + 4 ≤ w0.heap.size := Nat.le_of_eq HS0.out.symm
  have hc1 := HC0.out.below hb1 HC0.out.lt
  have hd1 := HD0.out.below hb1 HD0.out.lt
  have HB1 := Lib.hid (HB0.out.trans (hb1.mono (by omega))); have HA1 := Lib.hid (HA.out.below (HB0.out.trans (hb1.mono (by omega))))
  have HC1 := Lib.hid hc1; have HD1 := Lib.hid hd1
  clear hq hb1 hgs hc1 hd1
  go_simp
  go_wp2_with fail
  go_region_held3 (fun w' => w'.cell? ⟨gc, 0, none⟩ = some (.slice A n c) ∧ w'.cell? ⟨gc, 1, none⟩ = some (.int .i64 5))
    (first | exact ⟨HC1.out.cell 0, HC1.out.cell 1⟩ | exact ⟨HC2.out.cell 0, HC2.out.cell 1⟩ | exact ⟨(far3 HC2.out (by omega) _ _ _).cell 0, (far3 HC2.out (by omega) _ _ _).cell 1⟩)
    (first | (go_at_call 74
              refine (bytesClone_hid A n c xs w1.drew (HA1.out.drew.more (Nat.le_of_lt HC1.out.lt)) H1.out (by omega)).mono ?_
              rintro e w2 hq
              obtain ⟨v2, rfl, hcl⟩ := hq.out
              obtain ⟨A2, c2, rfl⟩ := own_slice hcl.own
              have hd2 := HD1.out.drew.below hcl.below HD1.out.lt
              have HC2 := Lib.hid (HC1.out.drew.below hcl.below HC1.out.lt); have HB2 := Lib.hid (HB1.out.trans (show Below gc w1 w2 from (Below.refl _ _).drew.trans (hcl.below.mono (Nat.le_of_lt HC1.out.lt))))
              have HD2 := Lib.hid hd2
              have d0 := hd2.cell 0; have d1 := hd2.cell 1; have d2 := hd2.cell 2; have f0 := hd2.frozen 0; have f1 := hd2.frozen 1; have f2 := hd2.frozen 2
              unfold dgZ at d0 d1 d2
              clear hcl hd2 hq))
  go_wp2_with fail
  refine bodyPost_ret (v := .agg #[.slice A2 n c2, .int .i64 5, .slice A1 m1 c1]) (by simp [results, Tryz.results76, go_sem, d0, d1, d2]) rfl ?_
  exact ⟨Lib.hid ⟨_, _, _, _, _, _, rfl⟩, HGC.out ▸ below_set3 HB2.out (by omega) _ _ _⟩
end Go.Proofs.YtacmgogobjpmcaaGreat
