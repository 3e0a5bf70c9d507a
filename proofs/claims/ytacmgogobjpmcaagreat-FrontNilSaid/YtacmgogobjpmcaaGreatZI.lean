/- Contracts: law 21's answers; what a nil front does; FrontNil. -/
import Derived.Test.YtacmgogobjpmcaaGreatZH
import Derived.Test.YtacmgogobjpmcaaGreatL
import Derived.Test.YtacmgogobjpmcaaGreatR
namespace Go.Proofs.YtacmgogobjpmcaaGreat
open Go.RowKit

theorem clientNil_any (a0 a1 a2 : Value) (now : Value) (dr : Value) (w : World) : Calls Tryz.prog 25 #[.pointer none, .agg #[a0, a1, a2], now, dr] w fun e w' => e = .returned (.slice none 0 0) ∧ Below w.heap.size w w' := by
  go_enter Tryz.func25, Tryz.ntmps25
  go_wp2
  go_ret
  exact ⟨rfl, (Below.refl _ _).alloc (Nat.le_refl _) _⟩
theorem upNil_any (a0 a1 a2 : Value) (now : Value) (dr : Value) (w : World) : Calls Tryz.prog 26 #[.pointer none, .agg #[a0, a1, a2], now, dr] w fun e w' => e = .returned (.slice none 0 0) ∧ Below w.heap.size w w' := by
  go_enter Tryz.func26, Tryz.ntmps26
  go_wp2
  go_ret
  exact ⟨rfl, (Below.refl _ _).alloc (Nat.le_refl _) _⟩
theorem tickNil_any (now : Value) (dr : Value) (w : World) : Calls Tryz.prog 27 #[.pointer none, now, dr] w fun e w' => e = .returned (.slice none 0 0) ∧ w' = w := by
  go_enter Tryz.func27, Tryz.ntmps27
  go_wp2
  go_ret
  exact ⟨rfl, rfl⟩
theorem pendNil_any (w : World) : Calls Tryz.prog 28 #[.pointer none] w fun e w' => e = .returned (.int .i64 0) ∧ w' = w := by
  go_enter Tryz.func28, Tryz.ntmps28
  go_wp2
  go_ret
  exact ⟨rfl, rfl⟩
theorem keepNil_any (w : World) : Calls Tryz.prog 29 #[.pointer none] w fun e w' => e = .returned (.pointer none) ∧ w' = w := by
  go_enter Tryz.func29, Tryz.ntmps29
  go_wp2
  go_ret
  exact ⟨rfl, rfl⟩

theorem lowly_refused : lowly (⟨#[114, 101, 102, 117, 115, 101, 100]⟩ : ByteArray) := by
  intro k b hk
  have hall : ∀ b ∈ ([114, 101, 102, 117, 115, 101, 100] : List UInt8), ¬ ((65 : Int) ≤ (b.toNat : Int) ∧ (b.toNat : Int) ≤ 90) := by decide
  exact hall b (List.mem_of_getElem? hk)

set_option maxHeartbeats 2000000 in
set_option maxRecDepth 40000 in
theorem answers21_any (w : World) : Calls Tryz.prog 20 #[] w fun e w' => e = .returned (.bool true) ∧ Below w.heap.size w w' := by
  go_enter Tryz.func20, Tryz.ntmps20
  go_wp2_with fail
  refine (fresh21_any w).mono ?_
  rintro e w1 ⟨gf, gk, gc, gm, gl, g, gs, Ar, Az, cr, cz, zs, rfl, hb1, hk1, hf1, hrz, hz⟩
  obtain ⟨az, vz, rfl, hbz, hxz, hcz⟩ := hrz.at_ (k := 0) (by omega)
  rw [Addr.add_zero'] at hcz
  obtain ⟨An, cn, rfl, hrn⟩ := hz vz (List.mem_of_getElem? hxz)
  obtain ⟨am, sn, rfl, hbn, hxn, hcn⟩ := hrn.strAt (k := 0) (by omega)
  rw [Addr.add_zero'] at hcn
  obtain rfl : (⟨#[114, 101, 102, 117, 115, 101, 100]⟩ : ByteArray) = sn := by injection hxn
  have hf8 := hf1.cell 8
  have hFR : FrontR w1 w1.heap.size gf cn cz az am ⟨#[114, 101, 102, 117, 115, 101, 100]⟩ := ⟨hf8, hcz, hcn, hf1.lt, hbz, hbn⟩
  have HB1 := Lib.hid hb1; have HFR := Lib.hid hFR
  clear hb1 hk1 hf1 hrz hz hbz hxz hcz hrn hbn hxn hcn hf8 hFR
  go_wp2_with fail
  obtain ⟨ga, hga⟩ : ∃ g, g = w1.heap.size := ⟨_, rfl⟩
  obtain ⟨w2, hw2⟩ : ∃ W, W = (w1.alloc (.cells #[.int .u8 1, .int .u8 2, .int .u8 3, .int .u8 4] 5)).alloc (.cells #[.string ⟨#[114, 101, 102, 117, 115, 101, 100]⟩] 9) := ⟨_, rfl⟩
  have hb2 : Below ga w1 w2 := by rw [hw2, hga]; exact ((Below.refl _ _).alloc (Nat.le_refl _) _).alloc (by simp) _
  have ha2 : Blk w2 ga 5 #[.int .u8 1, .int .u8 2, .int .u8 3, .int .u8 4] := by rw [hw2, hga]; exact (Blk.new _ _ _).alloc _
  have hn2 : Blk w2 (ga + 1) 9 #[.string ⟨#[114, 101, 102, 117, 115, 101, 100]⟩] := by rw [hw2, hga]; exact Blk.new' _ _ _ (by simp)
  rw [← hw2, ← hga]
  rw [← hga] at HFR
  have HGA := Lib.hid hga; have HB2 := Lib.hid hb2; have HA2 := Lib.hid ha2; have HN2 := Lib.hid hn2
  clear hw2 hga hb2 ha2 hn2
  refine (ask_any (ga + 1) 1 ⟨#[114, 101, 102, 117, 115, 101, 100]⟩ rfl w2 (HN2.out.cell 0) HN2.out.lt).mono ?_
  rintro e w3 hq
  obtain ⟨Ad, cd, rfl, hcd, hrd, hb3⟩ := hq.out
  have hA3 := Rd.of_blk (n := 4) (HA2.out.below hb3 HA2.out.lt) rfl (by unfold maxLen; omega)
  have hl3 : ga ≤ w3.heap.size := Nat.le_trans (Nat.le_of_lt HA2.out.lt) hb3.size
  have hF3 : FrontR w3 ga gf cn cz az am ⟨#[114, 101, 102, 117, 115, 101, 100]⟩ := (HFR.out.below HB2.out).below (hb3.mono (Nat.le_of_lt HA2.out.lt))
  have HRD := Lib.hid hrd; have HA3 := Lib.hid hA3; have HF3 := Lib.hid (show FrontR w3 w3.heap.size gf cn cz az am ⟨#[114, 101, 102, 117, 115, 101, 100]⟩ from ⟨hF3.f8, hF3.z, hF3.n, Nat.lt_of_lt_of_le hF3.fl hl3, Nat.lt_of_lt_of_le hF3.zl hl3, Nat.lt_of_lt_of_le hF3.nl hl3⟩)
  have HB3 := Lib.hid (HB2.out.trans (hb3.mono (Nat.le_of_lt HA2.out.lt)))
  clear hq hrd hb3 hA3 hF3
  go_simp
  go_wp2_with fail
  refine (client_any gf cn cz 4 cd az am _ Ad _ ⟨#[114, 101, 102, 117, 115, 101, 100]⟩ rfl refused_sound lowly_refused w3 HF3.out HA3.out (by simp [Value.oneCell']) HRD.out hcd).mono ?_
  rintro e w4 ⟨hq, hb4⟩
  obtain ⟨gr, cr', rfl, hc5⟩ := hq.out
  have HB4 := Lib.hid (HB1.out.trans ((HGA.out ▸ HB3.out.trans (hb4.mono hl3) : Below w1.heap.size w1 w4).mono HB1.out.size))
  clear hq hb4 hl3
  go_simp
  go_wp2_with fail
  go_ret
  exact ⟨rfl, HB4.out⟩

set_option maxHeartbeats 2000000 in
set_option maxRecDepth 40000 in
theorem frontNil_more (Ar Az Ab : Option Addr) (nr cr nz cz nb cb : Nat) (v1 v2 v3 v4 v5 v6 : Value) (now : Value) (w : World) (hr : nr ≤ maxLen) (hz : nz ≤ maxLen) (hb : nb ≤ maxLen) (h : 100 < nr ∨ 50 < nz ∨ 2000 < nb) :
    Calls Tryz.prog 4 #[.agg #[.slice Ar nr cr, v1, v2, v3, v4, v5, v6, .slice Az nz cz], .slice Ab nb cb, now] w fun e w' => e = .returned (.bool true) ∧ Below w.heap.size w w' := by
  unfold maxLen at hr hz hb
  by_cases h1 : 100 < nr
  · clear h
    go_enter Tryz.func4, Tryz.ntmps4
    go_wp2_with fail
    refine (answers21_any _).mono ?_
    rintro e w1 ⟨rfl, hb1⟩
    obtain ⟨hc, hf⟩ := bcell hb1
    have HB1 := Lib.hid hb1
    clear hb1
    go_wp2_with fail
    refine (answers21_any _).mono ?_
    rintro e w2 ⟨rfl, hb2⟩
    have HB2 := Lib.hid hb2
    clear hb2 hc hf
    go_wp2_with fail
    go_ret
    have e1 := HB1.out.size
    simp at e1
    exact ⟨rfl, (((Below.refl _ _).alloc (Nat.le_refl _) _).trans (HB1.out.mono (by simp))).trans (HB2.out.mono (by omega))⟩
  by_cases h2 : 50 < nz
  · have h1 : nr ≤ 100 := by omega
    clear h
    go_enter Tryz.func4, Tryz.ntmps4
    go_wp2_with fail
    refine (answers21_any _).mono ?_
    rintro e w1 ⟨rfl, hb1⟩
    obtain ⟨hc, hf⟩ := bcell hb1
    have HB1 := Lib.hid hb1
    clear hb1
    go_wp2_with fail
    refine (answers21_any _).mono ?_
    rintro e w2 ⟨rfl, hb2⟩
    have HB2 := Lib.hid hb2
    clear hb2 hc hf
    go_wp2_with fail
    go_ret
    have e1 := HB1.out.size
    simp at e1
    exact ⟨rfl, (((Below.refl _ _).alloc (Nat.le_refl _) _).trans (HB1.out.mono (by simp))).trans (HB2.out.mono (by omega))⟩
  · have h1 : nr ≤ 100 := by omega
    have h2 : nz ≤ 50 := by omega
    have h3 : 2000 < nb := by omega
    clear h
    go_enter Tryz.func4, Tryz.ntmps4
    go_wp2_with fail
    refine (answers21_any _).mono ?_
    rintro e w1 ⟨rfl, hb1⟩
    obtain ⟨hc, hf⟩ := bcell hb1
    have HB1 := Lib.hid hb1
    clear hb1
    go_wp2_with fail
    refine (answers21_any _).mono ?_
    rintro e w2 ⟨rfl, hb2⟩
    have HB2 := Lib.hid hb2
    clear hb2 hc hf
    go_wp2_with fail
    go_ret
    have e1 := HB1.out.size
    simp at e1
    exact ⟨rfl, (((Below.refl _ _).alloc (Nat.le_refl _) _).trans (HB1.out.mono (by simp))).trans (HB2.out.mono (by omega))⟩

set_option maxHeartbeats 4000000 in
set_option maxRecDepth 40000 in
theorem frontNil_main (Ar Az Ab : Option Addr) (nr cr nz cz nb cb : Nat) (v1 v2 v3 v4 v5 v6 : Value) (now : Value) (xs : List Value) (w : World) (h1 : nr ≤ 100) (h2 : nz ≤ 50) (h3 : nb ≤ 2000) (hx : Rd w w.heap.size 1 Ab nb xs) (hx1 : ∀ u ∈ xs, u.oneCell' = true) :
    Calls Tryz.prog 4 #[.agg #[.slice Ar nr cr, v1, v2, v3, v4, v5, v6, .slice Az nz cz], .slice Ab nb cb, now] w fun e w' => e = .returned (.bool true) ∧ Below w.heap.size w w' := by
  have HX := Lib.hid hx; have HX1 := Lib.hid hx1
  clear hx hx1
  go_enter Tryz.func4, Tryz.ntmps4
  go_wp2_with fail
  obtain ⟨gs, hgs⟩ : ∃ g, g = w.heap.size := ⟨_, rfl⟩
  obtain ⟨w0, hw0⟩ : ∃ W, W = w.alloc (.cells #[.slice Ar nr cr, v1, v2, v3, v4, v5, v6, .slice Az nz cz] 43) := ⟨_, rfl⟩
  have hb0 : Below gs w w0 := by rw [hw0, hgs]; exact (Below.refl _ _).alloc (Nat.le_refl _) _
  have hs0 : Blk w0 gs 43 #[.slice Ar nr cr, v1, v2, v3, v4, v5, v6, .slice Az nz cz] := by rw [hw0, hgs]; exact Blk.new _ _ _
  rw [← hw0, ← hgs]
  rw [← hgs] at HX
  have HGS := Lib.hid hgs; have HB0 := Lib.hid hb0; have HS0 := Lib.hid hs0
  clear hw0 hgs hb0 hs0
  refine (answers21_any w0).mono ?_
  rintro e w1 ⟨rfl, hb1⟩
  have hs1 := HS0.out.below hb1 HS0.out.lt
  have c0 := hs1.cell 0; have c7 := hs1.cell 7
  have HS1 := Lib.hid hs1; have HB1 := Lib.hid (HB0.out.trans (hb1.mono (Nat.le_of_lt HS0.out.lt)))
  clear hb1 hs1
  go_simp
  go_wp2_with fail
  refine (flashNew_any 8 (by omega) (by omega) w1).mono ?_
  rintro e w2 ⟨rfl, hd2, hb2, hz2⟩
  have hko := keepOpen_new hd2 (by omega) 5 5 (by omega) (by omega) (by omega) (by omega)
  have HS2 := Lib.hid (HS1.out.below hb2 HS1.out.lt); have HB2 := Lib.hid (HB1.out.trans (hb2.mono (Nat.le_of_lt HS1.out.lt)))
  have HK := Lib.hid hko; have HZ2 := Lib.hid (Nat.le_of_eq hz2.symm)
  clear hd2 hb2 hz2 hko c0 c7
  go_simp
  go_wp2_with fail
  refine HK.out.mono ?_
  rintro e w3 ⟨hq, hf3⟩
  obtain ⟨gk, gc, gm, gl, rfl, hke, hgk⟩ := hq.out
  have hs3 := HS2.out.fr hf3 HS2.out.lt (by have := HS1.out.lt; simp; omega)
  have hb3 : Below gs w2 w3 := (hf3.mono (B' := gs) (S' := []) (Nat.le_of_lt HS2.out.lt) (by intro k hk hm; have := HS1.out.lt; simp at hm; omega)).to_below (by simp)
  have HS3 := Lib.hid hs3; have HB3 := Lib.hid (HB2.out.trans hb3)
  clear hq hf3 hke hgk hs3 hb3
  go_simp
  go_wp2_with fail
  refine (usual21_any w3).mono ?_
  rintro e w4 ⟨Ar', Az', cr', cz', rs', zs', rfl, hb4, _, _, _, _⟩
  have HS4 := Lib.hid (HS3.out.below hb4 HS3.out.lt); have HB4 := Lib.hid (HB3.out.trans (hb4.mono (Nat.le_of_lt HS3.out.lt)))
  clear hb4
  go_simp
  go_wp2_with fail
  refine (frontNew_nil _ _ _ _ _ _ _ _ w4).mono ?_
  rintro e w5 ⟨rfl, hb5⟩
  have hs5 := HS4.out.below hb5 HS4.out.lt
  have HS5 := Lib.hid hs5; have HB5 := Lib.hid (HB4.out.trans (hb5.mono (Nat.le_of_lt HS4.out.lt)))
  have c0 := hs5.cell 0; have f0 := hs5.frozen 0; have c1 := hs5.cell 1; have c2 := hs5.cell 2; have c3 := hs5.cell 3; have c4 := hs5.cell 4; have c5 := hs5.cell 5; have c6 := hs5.cell 6; have c7 := hs5.cell 7
  clear hb5 hs5
  go_simp
  go_wp2_with fail
  obtain ⟨w6, hw6⟩ : ∃ W, W = w5.setCell ⟨gs, 0, none⟩ (.slice none 0 0) := ⟨_, rfl⟩
  have hs6 : gs < w6.heap.size := by have := HS5.out.lt; rw [hw6]; simpa [World.setCell] using this
  have hb6 : Below gs w w6 := by rw [hw6]; exact HB5.out.setCell (p := ⟨gs, 0, none⟩) (Nat.le_refl _) _
  rw [← hw6]
  clear hw6 c0 f0 c1 c2 c3 c4 c5 c6 c7
  refine (frontNew_noroots gk none 0 v1 v2 v3 v4 v5 v6 _ w6).mono ?_
  rintro e w7 ⟨rfl, hb7⟩
  have HB7 := Lib.hid (hb6.trans (hb7.mono (Nat.le_of_lt hs6)))
  have hs7 : gs < w7.heap.size := Nat.lt_of_lt_of_le hs6 hb7.size
  have HX7 := Lib.hid (HX.out.below HB7.out)
  clear hb7 hs6 hb6
  go_simp
  go_wp2_with (at_builtin; refine wpList_app rfl (.tmp 58) (.tmp 59) _ rfl w7.heap.size _ _ 1 1 Tryz.underlying30 u8_info rfl (by decide) (.slice (some ⟨w7.heap.size, 0, none⟩) 0 0) 0 [] rfl (own_empty w7 _ 1) gs Ab nb cb xs rfl (HX7.out.alloc (Nat.le_of_lt hs7) _) HX1.out (by unfold maxLen; omega) (by omega) (by simp) ?_
               intro v8 w8 hown hg hat
               obtain ⟨A8, c8, rfl⟩ := own_slice hown
               have HB8 : Hid (Below gs w w8) := Lib.hid ((HB7.out.alloc (Nat.le_of_lt hs7) _).grown hg (by simp; omega) (by intro k hk; simp [Value.ownBlock] at hk; omega))
               have hs8 : gs < w8.heap.size := by have := hg.size; simp at this; omega
               clear hown hg hat)
  refine (clientNil_any _ _ _ _ _ _).mono ?_
  rintro e w9 ⟨rfl, hb9⟩
  have hx9 := (Blk.new w8 46 _).below hb9 (Blk.new w8 46 _).lt
  have x0 := hx9.cell 0; have x1 := hx9.cell 1; have x2 := hx9.cell 2
  have HB9 := Lib.hid ((HB8.out.alloc (Nat.le_of_lt hs8) (.cells #[.slice none 0 0, .int .i64 0, .slice A8 nb c8] 46)).trans (hb9.mono (Nat.le_trans (Nat.le_of_lt hs8) (by simp))))
  have hs9 : gs < w9.heap.size := by have := hb9.size; simp at this; omega
  clear hb9 hx9
  go_simp
  go_wp2_with fail
  refine (upNil_any _ _ _ _ _ _).mono ?_
  rintro e w10 ⟨rfl, hb10⟩
  have HB10 := Lib.hid (HB9.out.trans (hb10.mono (Nat.le_of_lt hs9)))
  clear hb10 x0 x1 x2
  go_simp
  go_wp2_with fail
  refine (tickNil_any _ _ _).mono ?_
  rintro e w11 ⟨rfl, rfl⟩
  go_simp
  go_wp2_with fail
  refine (pendNil_any _).mono ?_
  rintro e w11 ⟨rfl, rfl⟩
  go_simp
  go_wp2_with fail
  refine (keepNil_any _).mono ?_
  rintro e w11 ⟨rfl, rfl⟩
  go_simp
  go_wp2_with fail
  go_ret
  exact ⟨rfl, HGS.out ▸ HB10.out⟩
end Go.Proofs.YtacmgogobjpmcaaGreat
