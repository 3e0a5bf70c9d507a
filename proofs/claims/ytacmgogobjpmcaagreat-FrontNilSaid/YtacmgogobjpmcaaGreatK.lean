/- Contracts: settings (package walk), a front (package front). -/
import Derived.Test.YtacmgogobjpmcaaGreatJ
import Derived.Test.YtacmgogobjpmcaaGreatI
namespace Go.Proofs.YtacmgogobjpmcaaGreat
open Go.RowKit

theorem Setting1_any (A : Option Addr) (n c : Nat) (w : World) : Calls Tryz.prog 96 #[.slice A n c] w fun e w' => e = .returned (.bool ((n : Int) != 4)) ∧ Below w.heap.size w w' := by
  go_enter Tryz.func96, Tryz.ntmps96
  go_wp2
  all_goals (go_ret; exact ⟨rfl, Below.refl _ _⟩)
theorem Setting2_any (A : Option Addr) (n c : Nat) (ss : List ByteArray) (w : World) (h : Rd w w.heap.size 1 A n (strs ss)) : Calls Tryz.prog 98 #[.slice A n c] w fun e w' => e = .returned (.bool (!soundB ss)) ∧ Below w.heap.size w w' := by
  have hs := NameSound_any A n c ss w h
  have HS := Lib.hid hs; clear hs
  go_enter Tryz.func98, Tryz.ntmps98
  go_wp2_with (refine HS.out.mono ?_; rintro e w' ⟨rfl, rfl⟩)
  go_ret
  exact ⟨rfl, Below.refl _ _⟩
theorem Setting3_any (n m : Int) (w : World) (h1 : 1 ≤ n) (h2 : n ≤ m) : Calls Tryz.prog 100 #[.int .i64 n, .int .i64 m] w fun e w' => e = .returned (.bool true) ∧ w = w' := by
  go_enter Tryz.func100, Tryz.ntmps100
  go_wp2
  go_ret
  exact ⟨rfl, rfl⟩
/-- settings without roots may not be -/
theorem Setting_noroots (Ar : Option Addr) (cr : Nat) (ca st ti tr de pe : Value) (z : Value) (w : World) :
    Calls Tryz.prog 44 #[.agg #[.slice Ar 0 cr, ca, st, ti, tr, de, pe, z]] w fun e w' => e = .returned (.bool false) ∧ Below w.heap.size w w' := by
  go_enter Tryz.func44, Tryz.ntmps44
  go_wp2
  go_ret
  exact ⟨rfl, (Below.refl _ _).alloc (Nat.le_refl _) _⟩

/-- numbers that may be -/
structure Fine (ca st ti tr de pe : Int) : Prop where
  ca : 1 ≤ ca ∧ ca ≤ 4096
  st : 0 ≤ st ∧ st ≤ 36028797018963968
  ti : 1 ≤ ti ∧ ti ≤ 3600
  tr : 1 ≤ tr ∧ tr ≤ 8
  de : 1 ≤ de ∧ de ≤ 86400
  pe : 1 ≤ pe ∧ pe ≤ 256

set_option maxHeartbeats 400000 in
set_option maxRecDepth 20000 in
theorem Setting_ok (Ar Az : Option Addr) (nr cr nz cz : Nat) (rs zs : List Value) (ca st ti tr de pe : Int) (w : World) (hf : Fine ca st ti tr de pe) (hr : Rd w w.heap.size 1 Ar nr rs) (h1 : 1 ≤ nr) (h16 : nr ≤ 16)
    (hr4 : ∀ v ∈ rs, ∃ A c, v = .slice A 4 c) (hz : Rd w w.heap.size 1 Az nz zs) (hzs : ∀ v ∈ zs, ∃ A n c ss, v = .slice A n c ∧ Rd w w.heap.size 1 A n (strs ss) ∧ soundB ss = true) :
    Calls Tryz.prog 44 #[.agg #[.slice Ar nr cr, .int .i64 ca, .int .i64 st, .int .i64 ti, .int .i64 tr, .int .i64 de, .int .i64 pe, .slice Az nz cz]] w fun e w' => e = .returned (.bool true) ∧ Below w.heap.size w w' := by
  obtain ⟨⟨a1, a2⟩, ⟨b1, b2⟩, ⟨c1, c2⟩, ⟨d1, d2⟩, ⟨e1, e2⟩, ⟨f1, f2⟩⟩ := hf
  have ht : (decide (0 ≤ st) && decide (st ≤ 36028797018963968)) = true := by simp [b1, b2]
  have hany : ∀ n, (List.range n).any (fun _ => false) = false := by intro n; rw [List.any_eq_false]; intro x _; simp
  have hmf : ∀ (fn : Fn) (first cap : Array Value) (w : World), (Instr.makeFunc fn first cap).run Tryz.prog w = .ok (.func fn first cap) w := fun _ _ _ _ => rfl
  have hb : Below w.heap.size w (w.alloc (.cells #[.slice Ar nr cr, .int .i64 ca, .int .i64 st, .int .i64 ti, .int .i64 tr, .int .i64 de, .int .i64 pe, .slice Az nz cz] 43)) := (Below.refl _ _).alloc (Nat.le_refl _) _
  have hbk : Blk (w.alloc (.cells #[.slice Ar nr cr, .int .i64 ca, .int .i64 st, .int .i64 ti, .int .i64 tr, .int .i64 de, .int .i64 pe, .slice Az nz cz] 43)) w.heap.size 43 #[.slice Ar nr cr, .int .i64 ca, .int .i64 st, .int .i64 ti, .int .i64 tr, .int .i64 de, .int .i64 pe, .slice Az nz cz] := Blk.new _ _ _
  have hc1 := ContainsB_any 96 #[] (fun _ => false) (enters_of Tryz.func96 rfl rfl) Ar nr cr rs _ ((hr.below hb).here1) (by
    intro k v W hk _
    obtain ⟨A, c, rfl⟩ := hr4 v (List.mem_of_getElem? hk)
    exact Setting1_any A 4 c W)
  rw [hany] at hc1
  have HC1 := Lib.hid hc1; have HT := Lib.hid ht; have HZ := Lib.hid hz; have HZS := Lib.hid hzs; have HB := Lib.hid hb; have HANY := Lib.hid hany; have HBK := Lib.hid hbk
  clear hc1 ht hz hzs hb hany hr hr4 hbk
  go_enter Tryz.func44, Tryz.ntmps44
  go_wp2_with fail
  refine HC1.out.mono ?_
  rintro e w1 ⟨rfl, hb1⟩
  have hbw : Below w.heap.size w w1 := HB.out.trans (hb1.mono (by simp))
  have hbk1 := HBK.out.below hb1 HBK.out.lt
  have k7 := hbk1.cell 7
  have hc2 := ContainsSS_any 98 #[] (fun _ => false) (enters_of Tryz.func98 rfl rfl) Az nz cz zs w1 ((HZ.out.below hbw).here1) (by
    intro k v W hk hbW
    obtain ⟨A, n, c, ss, rfl, hrd, hso⟩ := HZS.out v (List.mem_of_getElem? hk)
    have := Setting2_any A n c ss W (((hrd.below hbw).here1.below hbW).here1)
    rw [hso] at this
    exact this)
  rw [HANY.out] at hc2
  have HC2 := Lib.hid hc2; have HBW := Lib.hid hbw; have HBK1 := Lib.hid hbk1
  clear hc2 hbw hbk1 hb1
  go_wp2_with fail
  refine HC2.out.mono ?_
  rintro e w2 ⟨rfl, hb2⟩
  have hbk2 := HBK1.out.below hb2 HBK1.out.lt
  have c1' := hbk2.cell 1; have c2' := hbk2.cell 2; have c3' := hbk2.cell 3; have c4' := hbk2.cell 4; have c5' := hbk2.cell 5; have c6' := hbk2.cell 6
  have HB2 := Lib.hid hb2; clear hb2 hbk2 k7
  go_wp2_with (first
    | (refine (Setting3_any _ _ _ (by assumption) (by assumption)).mono ?_; rintro e w' ⟨rfl, rfl⟩)
    | (refine (Time_any _ _).mono ?_; rintro e w' ⟨rfl, rfl⟩; rw [HT.out]))
  go_ret
  exact ⟨rfl, HBW.out.trans (HB2.out.mono HBW.out.size)⟩

theorem frontNew_nil (a0 a1 a2 a3 a4 a5 a6 a7 : Value) (w : World) : Calls Tryz.prog 23 #[.pointer none, .agg #[a0, a1, a2, a3, a4, a5, a6, a7]] w fun e w' => e = .returned (.tuple #[.pointer none, .int .i64 1]) ∧ Below w.heap.size w w' := by
  go_enter Tryz.func23, Tryz.ntmps23
  go_wp2
  go_ret2
  exact ⟨rfl, (Below.refl _ _).alloc (Nat.le_refl _) _⟩
theorem frontNew_noroots (gk : Nat) (Ar : Option Addr) (cr : Nat) (ca st ti tr de pe : Value) (z : Value) (w : World) : Calls Tryz.prog 23 #[.pointer (some ⟨gk, 0, none⟩), .agg #[.slice Ar 0 cr, ca, st, ti, tr, de, pe, z]] w fun e w' => e = .returned (.tuple #[.pointer none, .int .i64 1]) ∧ Below w.heap.size w w' := by
  go_enter Tryz.func23, Tryz.ntmps23
  go_wp2_with (refine (Setting_noroots Ar cr ca st ti tr de pe z _).mono ?_; rintro e w' ⟨rfl, hb⟩; have HB := Lib.hid hb; clear hb)
  go_ret2
  exact ⟨rfl, ((Below.refl _ _).alloc (Nat.le_refl _) _).trans (HB.out.mono (by simp))⟩
theorem frontNew_ok (gk : Nat) (Ar Az : Option Addr) (nr cr nz cz : Nat) (rs zs : List Value) (ca st ti tr de pe : Int) (w : World) (hf : Fine ca st ti tr de pe) (hr : Rd w w.heap.size 1 Ar nr rs) (h1 : 1 ≤ nr) (h16 : nr ≤ 16)
    (hr4 : ∀ v ∈ rs, ∃ A c, v = .slice A 4 c) (hz : Rd w w.heap.size 1 Az nz zs) (hzs : ∀ v ∈ zs, ∃ A n c ss, v = .slice A n c ∧ Rd w w.heap.size 1 A n (strs ss) ∧ soundB ss = true) :
    Calls Tryz.prog 23 #[.pointer (some ⟨gk, 0, none⟩), .agg #[.slice Ar nr cr, .int .i64 ca, .int .i64 st, .int .i64 ti, .int .i64 tr, .int .i64 de, .int .i64 pe, .slice Az nz cz]] w fun e w' =>
      Hid (∃ gf, e = .returned (.tuple #[.pointer (some ⟨gf, 0, none⟩), .int .i64 0]) ∧ w.heap.size ≤ gf ∧ Blk w' gf 162 #[.pointer (some ⟨gk, 0, none⟩), .slice Ar nr cr, .int .i64 ca, .int .i64 st, .int .i64 ti, .int .i64 tr, .int .i64 de, .int .i64 pe, .slice Az nz cz, .slice none 0 0]) ∧ Below w.heap.size w w' := by
  have hb0 : Below w.heap.size w (w.alloc (.cells #[.slice Ar nr cr, .int .i64 ca, .int .i64 st, .int .i64 ti, .int .i64 tr, .int .i64 de, .int .i64 pe, .slice Az nz cz] 43)) := (Below.refl _ _).alloc (Nat.le_refl _) _
  have hs := Setting_ok Ar Az nr cr nz cz rs zs ca st ti tr de pe (w.alloc (.cells #[.slice Ar nr cr, .int .i64 ca, .int .i64 st, .int .i64 ti, .int .i64 tr, .int .i64 de, .int .i64 pe, .slice Az nz cz] 43)) hf (hr.below hb0).here1 h1 h16 hr4 (hz.below hb0).here1 (by
    intro v hv
    obtain ⟨A, n, c, ss, e, h, h'⟩ := hzs v hv
    exact ⟨A, n, c, ss, e, (h.below hb0).here1, h'⟩)
  have hbk : Blk (w.alloc (.cells #[.slice Ar nr cr, .int .i64 ca, .int .i64 st, .int .i64 ti, .int .i64 tr, .int .i64 de, .int .i64 pe, .slice Az nz cz] 43)) w.heap.size 43 #[.slice Ar nr cr, .int .i64 ca, .int .i64 st, .int .i64 ti, .int .i64 tr, .int .i64 de, .int .i64 pe, .slice Az nz cz] := Blk.new _ _ _
  have HS := Lib.hid hs; have HB0 := Lib.hid hb0; have HBK := Lib.hid hbk; clear hs hf hr h1 h16 hr4 hz hzs hb0 hbk
  go_enter Tryz.func23, Tryz.ntmps23
  go_wp2_with fail
  refine HS.out.mono ?_
  rintro e w1 ⟨rfl, hb⟩
  have hbk1 := HBK.out.below hb HBK.out.lt
  have c0 := hbk1.cell 0; have c1 := hbk1.cell 1; have c2 := hbk1.cell 2; have c3 := hbk1.cell 3; have c4 := hbk1.cell 4; have c5 := hbk1.cell 5; have c6 := hbk1.cell 6; have c7 := hbk1.cell 7
  have hbw : Below w.heap.size w w1 := HB0.out.trans (hb.mono (by simp))
  have HB := Lib.hid hbw; clear hb hbk1 hbw
  go_wp2
  go_ret2
  exact ⟨⟨w1.heap.size, rfl, HB.out.size, Blk.new _ _ _⟩, HB.out.alloc HB.out.size _⟩

end Go.Proofs.YtacmgogobjpmcaaGreat
