/- Contracts: the program's wname Bytes, msg.Raw on the answer. -/
import Derived.Test.YtacmgogobjpmcaaGreatZE
namespace Go.Proofs.YtacmgogobjpmcaaGreat
open Go.RowKit

set_option maxRecDepth 20000 in
theorem pBytes_any (B g n : Nat) (mv : Value) (w : World) (h : PWl w B g n mv) (hm : n ≤ 1000000) :
    Calls Tryz.prog 236 #[.pointer (some ⟨g, 0, none⟩)] w fun e w' => Hid (∃ A m c, e = .returned (.slice A m c) ∧ m ≤ n) ∧ Below w.heap.size w w' := by
  obtain ⟨bs, hln, A, c, k1, k2, k3⟩ := h
  have c0 := k1.cell 0
  have hr := Rd.of_own k3
  have hcl := Clone_bytes A bs.length c _ w hr (bys_one _) (by omega)
  have HC := Lib.hid hcl
  clear k1 k3 hr hcl
  go_enter Tryz.func236, Tryz.ntmps236
  go_wp2_with fail
  refine HC.out.mono ?_
  rintro e w1 ⟨v, rfl, hcl⟩
  obtain ⟨A2, c2, rfl⟩ := own_slice hcl.own
  have HB := Lib.hid hcl.below
  clear hcl
  go_wp2
  go_ret
  exact ⟨Lib.hid ⟨A2, _, c2, rfl, hln⟩, HB.out⟩

theorem pNew_at (gm : Nat) (w : World) (hs : w.heap.size = gm + 1) :
    Calls Tryz.prog 232 #[] w fun e w' => e = .returned (.pointer (some ⟨gm + 2, 0, none⟩)) ∧ PWl w' (gm + 2) (gm + 2) 0 (.map (some (gm + 1))) ∧ w'.heap[gm + 1]? = some (.map #[] 0) ∧ Below w.heap.size w w' := by
  refine (pNew_any w).mono ?_
  rintro e w1 ⟨rfl, h1, h2, h3⟩
  rw [hs] at h1 h2
  exact ⟨by rw [hs], ⟨[], Nat.le_refl _, h1⟩, h2, h3⟩

def numC : Array Value := #[.int .i64 7, .int .i64 33157, .int .i64 1, .int .i64 0, .int .i64 0, .int .i64 0]
/-- msg.Raw's world: the writer, the message, the numbers, the question -/
structure RawW (gm n gq cq gn cn gnum : Nat) (s : ByteArray) (w0 w : World) : Prop where
  wr : PWl w (gm + 2) (gm + 2) n (.map (some (gm + 1)))
  msg : Blk w gm 29 (respC (some ⟨gq, 0, none⟩) cq)
  num : Blk w gnum 3 numC
  q : OneQ gm gq gn cn s w
  fr : Below gm w0 w
  gn : gnum ≠ gm + 2
theorem RawW.step {gm n n' gq cq gn cn gnum : Nat} {s : ByteArray} {w0 w w' : World} (h : RawW gm n gq cq gn cn gnum s w0 w) (hp : PWl w' (gm + 2) (gm + 2) n' (.map (some (gm + 1)))) (hb : Below (gm + 1) w w') (hf : WFr (gm + 2) w w') : RawW gm n' gq cq gn cn gnum s w0 w' :=
  ⟨hp, h.msg.below hb (Nat.lt_succ_self _), hf.blk _ _ _ h.num (by decide) h.gn, h.q.below (hb.mono (Nat.le_succ _)), h.fr.trans (hb.mono (Nat.le_succ _)), h.gn⟩
theorem RawW.below {gm n gq cq gn cn gnum : Nat} {s : ByteArray} {w0 w w' : World} (h : RawW gm n gq cq gn cn gnum s w0 w) (hb : Below w.heap.size w w') : RawW gm n gq cq gn cn gnum s w0 w' :=
  ⟨h.wr.below hb, h.msg.below hb h.msg.lt, h.num.below hb h.num.lt, h.q.below (hb.mono (Nat.le_of_lt h.msg.lt)), h.fr.trans (hb.mono (Nat.le_of_lt h.msg.lt)), h.gn⟩

set_option maxHeartbeats 4000000 in
set_option maxRecDepth 40000 in
theorem mRaw_any (gq cq gn cn : Nat) (s : ByteArray) (hs : s.size = 7) (hsd : soundB [s] = true) (w : World) (h : OneQ w.heap.size gq gn cn s w) :
    Calls Tryz.prog 241 #[respM (some ⟨gq, 0, none⟩) cq] w fun e w' => Hid (∃ A m c, e = .returned (.slice A m c) ∧ m ≤ 100) ∧ Below w.heap.size w w' := by
  have H := Lib.hid h
  clear h
  unfold respM
  go_enter Tryz.func241, Tryz.ntmps241
  go_wp2_with fail
  obtain ⟨gm, hgm⟩ : ∃ g, g = w.heap.size := ⟨_, rfl⟩
  obtain ⟨w0, hw0⟩ : ∃ W, W = w.alloc (.cells (respC (some ⟨gq, 0, none⟩) cq) 29) := ⟨_, rfl⟩
  have hb0 : Below gm w w0 := by rw [hw0, hgm]; exact (Below.refl _ _).alloc (Nat.le_refl _) _
  have hm0 : Blk w0 gm 29 (respC (some ⟨gq, 0, none⟩) cq) := by rw [hw0, hgm]; exact Blk.new _ _ _
  have hs0 : w0.heap.size = gm + 1 := by rw [hw0, hgm]; simp
  have HQ0 := Lib.hid (show OneQ gm gq gn cn s w0 by have := H.out; rw [← hgm] at this; exact this.below hb0)
  unfold respC at hw0
  rw [← hw0, ← hgm]
  clear hw0
  have HGM := Lib.hid hgm
  clear hgm H
  have HB0 := Lib.hid hb0; have HM0 := Lib.hid hm0
  have HS0 := Lib.hid hs0
  clear hb0 hm0 hs0
  refine (pNew_at gm w0 HS0.out).mono ?_
  rintro e w1 ⟨rfl, hw1, hmap1, hb1⟩
  have hm1 := HM0.out.below hb1 HM0.out.lt
  have HP1 := Lib.hid hw1
  have HM1 := Lib.hid hm1; have HB1 := Lib.hid (HB0.out.trans (hb1.mono (by have := HS0.out; omega))); have HQ1 := Lib.hid (HQ0.out.below (hb1.mono (by have := HS0.out; omega))); have HMAP1 := Lib.hid hmap1
  unfold respC at hm1
  have m0 := hm1.cell 0; have m8 := hm1.cell 8; have m9 := hm1.cell 9; have m10 := hm1.cell 10; have m11 := hm1.cell 11; have m12 := hm1.cell 12
  clear hm1 hw1 hmap1 hb1
  go_simp
  go_wp2_with fail
  go_region_held3 (fun w' => w'.cell? ⟨gm, 0, none⟩ = some (.int .i64 7) ∧ w'.cell? ⟨gm, 8, none⟩ = some (.slice (some ⟨gq, 0, none⟩) 1 cq) ∧ w'.cell? ⟨gm, 9, none⟩ = some (.slice none 0 0) ∧ w'.cell? ⟨gm, 10, none⟩ = some (.slice none 0 0))
    (first | exact ⟨HM1.out.cell 0, HM1.out.cell 8, HM1.out.cell 9, HM1.out.cell 10⟩ | exact ⟨HM2.out.cell 0, HM2.out.cell 8, HM2.out.cell 9, HM2.out.cell 10⟩ | exact ⟨(HM2.out.alloc _).cell 0, (HM2.out.alloc _).cell 8, (HM2.out.alloc _).cell 9, (HM2.out.alloc _).cell 10⟩)
    (first | (go_at_call 292
              refine (flags_any gm gq cq w1.drew HM1.out.drew).mono ?_
              rintro e w2 ⟨rfl, hb2⟩
              have HM2 := Lib.hid (HM1.out.drew.below hb2 HM1.out.lt); have HB2 := Lib.hid (show Below w1.heap.size w1 w2 from (Below.refl _ _).drew.trans hb2)
              clear hb2))
  obtain ⟨w3, hw3⟩ : ∃ W, W = w2.alloc (.cells numC 3) := ⟨_, rfl⟩
  have h3 : RawW gm 0 gq cq gn cn w2.heap.size s w w3 := by
    have hb3 : Below w1.heap.size w1 w3 := by rw [hw3]; exact HB2.out.alloc HB2.out.size _
    have hl := HP1.out.lt
    exact ⟨HP1.out.below hb3, HM1.out.below hb3 HM1.out.lt, by rw [hw3]; exact Blk.new _ _ _, HQ1.out.below (hb3.mono (by omega)), HB1.out.trans (hb3.mono (by omega)), by have := HB2.out.size; omega⟩
  have HMAP3 : Hid (w3.heap[gm + 1]? = some (.map #[] 0)) := Lib.hid (by
    have hl := HP1.out.lt
    have hb3 : Below w1.heap.size w1 w3 := by rw [hw3]; exact HB2.out.alloc HB2.out.size _
    exact (hb3.block (gm + 1) (by omega)).trans HMAP1.out)
  unfold numC at hw3
  rw [← hw3]
  clear hw3 m0 m8 m9 m10 m11 m12
  obtain ⟨gu, hgu⟩ : ∃ g, g = w2.heap.size := ⟨_, rfl⟩
  rw [← hgu] at h3 ⊢
  have HR := Lib.hid h3
  clear h3 hgu
  go_wp2_with fail
  refine wp_loop_rounds 7 ?_
  iterate 6
    rw [rounds_succ]
    have k0 := HR.out.num.cell 0; have k1 := HR.out.num.cell 1; have k2 := HR.out.num.cell 2; have k3 := HR.out.num.cell 3; have k4 := HR.out.num.cell 4; have k5 := HR.out.num.cell 5
    unfold numC at k0 k1 k2 k3 k4 k5
    go_wp2_with fail
    refine (pNumL_any _ _ _ _ _ 2 _ HR.out.wr (by omega)).mono ?_
    rintro e w4 ⟨rfl, hp, hb, hf⟩
    have HMAP3 := Lib.hid ((hb.block (gm + 1) (Nat.lt_succ_self _)).trans HMAP3.out)
    have HR := Lib.hid (HR.out.step hp (hb.mono (Nat.le_succ _)) hf)
    clear hp hb hf k0 k1 k2 k3 k4 k5
    go_simp
    go_wp2_with fail
  rw [rounds_succ]
  have m8 := HR.out.msg.cell 8
  unfold respC at m8
  go_wp2_with fail
  refine wp_loop_rounds 2 ?_
  rw [rounds_succ]
  have q0 := HR.out.q.q0; have q1 := HR.out.q.q1; have q2 := HR.out.q.q2
  go_wp2_with fail
  obtain ⟨w5, hw5⟩ : ∃ W, W = w4.alloc (.cells #[.slice (some ⟨gn, 0, none⟩) 1 cn, .int .i64 1, .int .i64 1] 24) := ⟨_, rfl⟩
  obtain ⟨gz, hgz⟩ : ∃ g, g = w4.heap.size := ⟨_, rfl⟩
  have hb5 : Below w4.heap.size w4 w5 := by rw [hw5]; exact (Below.refl _ _).alloc (Nat.le_refl _) _
  have hz5 : Blk w5 gz 24 #[.slice (some ⟨gn, 0, none⟩) 1 cn, .int .i64 1, .int .i64 1] := by rw [hw5, hgz]; exact Blk.new _ _ _
  rw [← hw5, ← hgz]
  have hgn := HR.out.wr.lt
  have HGZ : Hid (gz ≠ gm + 2) := Lib.hid (by omega)
  have HMAP5 := Lib.hid ((hb5.block (gm + 1) (by omega)).trans HMAP3.out)
  have HR5 := Lib.hid (HR.out.below hb5)
  have HZ5 := Lib.hid hz5
  have z0 := hz5.cell 0
  clear hw5 hgz hb5 hz5 hgn q0 q1 q2 m8
  refine (pName1_any (gm + 2) (gm + 2) (gm + 1) gn cn _ s hs hsd w5 HR5.out.wr HMAP5.out (Nat.lt_succ_self _) HR5.out.q.n0 (by have := HR5.out.q.nl; omega) (by omega)).mono ?_
  rintro e w6 ⟨rfl, hp, hb, hf⟩
  have hz6 := hf.blk _ _ _ HZ5.out (by decide) HGZ.out
  have HR6 := Lib.hid (HR5.out.step hp hb hf)
  have HZ6 := Lib.hid hz6
  have z1 := hz6.cell 1
  clear hp hb hf hz6 z0
  go_simp
  go_wp2_with fail
  refine (pNumL_any _ _ _ _ _ 2 _ HR6.out.wr (by omega)).mono ?_
  rintro e w7 ⟨rfl, hp, hb, hf⟩
  have hz7 := hf.blk _ _ _ HZ6.out (by decide) HGZ.out
  have HR7 := Lib.hid (HR6.out.step hp (hb.mono (Nat.le_succ _)) hf)
  have HZ7 := Lib.hid hz7
  have z2 := hz7.cell 2
  clear hp hb hf hz7 z1
  go_simp
  go_wp2_with fail
  refine (pNumL_any _ _ _ _ _ 2 _ HR7.out.wr (by omega)).mono ?_
  rintro e w8 ⟨rfl, hp, hb, hf⟩
  have HR8 := Lib.hid (HR7.out.step hp (hb.mono (Nat.le_succ _)) hf)
  clear hp hb hf z2
  go_simp
  go_wp2_with fail
  rw [rounds_succ]
  go_wp2_with fail
  refine (sections_any gm w8).mono ?_
  rintro e w9 ⟨rfl, hb9, hp9⟩
  have HR9 := Lib.hid (HR8.out.below hb9)
  have m9 := HR9.out.msg.cell 9; have m10 := HR9.out.msg.cell 10; have m11 := HR9.out.msg.cell 11; have m12 := HR9.out.msg.cell 12
  have s0 := hp9.cell 0; have s1 := hp9.cell 1; have s2 := hp9.cell 2
  unfold respC at m9 m10 m11 m12
  clear hb9 hp9
  go_simp
  go_wp2_with fail
  refine wp_loop_rounds 4 ?_
  iterate 3
    rw [rounds_succ]
    go_wp2_with fail
    refine wp_loop_once ?_
    go_wp2_with fail
  rw [rounds_succ]
  go_wp2_with fail
  refine (pBytes_any _ _ _ _ _ HR9.out.wr (by omega)).mono ?_
  rintro e w10 ⟨hq, hb10⟩
  obtain ⟨A, m, c, rfl, hm⟩ := hq.out
  have HF := Lib.hid (HR9.out.fr.trans (hb10.mono (Nat.le_of_lt HR9.out.msg.lt)))
  clear hq hb10 m9 m10 m11 m12 s0 s1 s2
  go_wp2_with fail
  go_ret
  exact ⟨Lib.hid ⟨A, m, c, rfl, by omega⟩, HGM.out ▸ HF.out⟩
end Go.Proofs.YtacmgogobjpmcaaGreat
