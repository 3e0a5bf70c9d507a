/- Contracts: the references' writer of names. -/
import Derived.Test.YtacmgogobjpmcaaGreatN
import Derived.Test.YtacmgogobjpmcaaGreatZT
import Derived.Deep.RegionHeld3
import Derived.Deep.DrawnRows
import Derived.Lib.ConvBytes
namespace Go.Proofs.YtacmgogobjpmcaaGreat
open Go.RowKit

theorem rest_info : (Tryz.prog.info? 305).map (fun i => (i.zero, i.size, i.bytes)) = some (some (.agg #[.int .i64 0, .slice none 0 0]), 2, 32) := by kernel_rfl
/-- a string's bytes, made anew -/
theorem conv_bytes (s : ByteArray) (w : World) (hs : s.size ≤ maxLen) : ∃ A c w', (convert 9 30 (.string s)).run Tryz.prog w = .ok (.slice A s.size c) w' ∧
    Rd w' w'.heap.size 1 A s.size (bys s.data.toList) ∧ Below w.heap.size w w' := by
  refine ⟨_, _, _, Lib.run_convert_string_bytes (P := Tryz.prog) w 9 30 5 s Tryz.underlying9 Tryz.underlying30 Tryz.underlying5, ⟨by simp [bys], hs, fun _ => ⟨_, rfl, by rw [Lib.bytesWorld_size]; exact Nat.lt_succ_self _, fun j u hu => ?_⟩⟩, ⟨rfl, rfl, rfl, by rw [Lib.bytesWorld_size]; omega, fun i hi => Lib.bytesWorld_at_old w _ s i hi⟩⟩
  have hj : j < s.size := by have := (List.getElem?_eq_some_iff.1 hu).1; simpa [bys] using this
  have hc := Lib.bytesWorld_cell w 5 s j hj
  have he : (Addr.add ⟨w.heap.size, 0, none⟩ j) = ⟨w.heap.size, j, none⟩ := by unfold Addr.add; split <;> simp_all
  rw [he, hc]
  simp [bys, List.getElem?_map] at hu
  obtain ⟨a, ha, rfl⟩ := hu
  simp [List.getD, ha]

theorem putB_le (n : Int) (size : Nat) : (putB n size).length ≤ size := by
  by_cases h : fitsB n size = true
  · rw [putB_length n size h]; omega
  · unfold putB; rw [if_neg h]; simp

theorem two_cells {w : World} {g : Nat} {t : TypeId} {a : Value} {cs : Array Value} (h : Blk w g t cs) (ha : cs[0]? = some a) : w.cell? ⟨g, 0, none⟩ = some a ∧ w.frozen? ⟨g, 1, none⟩ = false :=
  ⟨(h.cell 0).trans ha, h.frozen 1⟩

set_option maxRecDepth 40000 in
/-- no rests: none found -/
theorem rwFind0_any (B g : Nat) (bs : List UInt8) (nv : Value) (w : World) (h : RWr w B g bs 0) :
    Calls Tryz.prog 193 #[.pointer (some ⟨g, 0, none⟩), nv] w fun e w' => e = .returned (.int .i64 (-1)) ∧ w' = w := by
  obtain ⟨A, c, rv, rs, h1, h2, h3, h4⟩ := h
  obtain ⟨A2, c2, rfl⟩ := own_slice h4
  have c1 := h1.cell 1
  clear h1 h2 h3 h4
  go_enter Tryz.func193, Tryz.ntmps193
  go_wp2
  refine wp_loop_once ?_
  go_wp2
  go_ret
  exact ⟨rfl, rfl⟩

set_option maxHeartbeats 1000000 in
set_option maxRecDepth 40000 in
/-- a name of one label -/
theorem rwName1_any (B g : Nat) (bs : List UInt8) (An : Option Addr) (cn : Nat) (s : ByteArray) (w : World) (h : RWr w B g bs 0) (hn : Rd w B 1 An 1 [.string s]) (hm : bs.length ≤ 10000) (hs : s.size ≤ 1000) :
    Calls Tryz.prog 121 #[.pointer (some ⟨g, 0, none⟩), .slice An 1 cn, .bool true] w fun e w' => e = .returned (.tuple #[]) ∧
      RWr w' B g (((bs ++ putB s.size 1) ++ s.data.toList) ++ putB 0 1) 1 ∧ Below B w w' := by
  have H := Lib.hid h; have HN := Lib.hid hn
  obtain ⟨A, c, rv, rs, h1, h2, h3, h4⟩ := h
  have hlt := h1.lt
  obtain ⟨ad, rfl, hab, hac⟩ := hn.cells (by omega)
  have an0 : w.cell? ad = some (.string s) := by have := hac 0 _ rfl; rwa [Addr.add_zero'] at this
  clear h1 h3 h4 hn hac
  go_enter Tryz.func121, Tryz.ntmps121
  go_wp2
  refine wp_loop_rounds 2 ?_
  rw [rounds_succ]
  go_wp2_with fail
  refine (rwFind0_any B g bs _ w H.out).mono ?_
  rintro e w1 ⟨rfl, rfl⟩
  obtain ⟨A0, c0, rv, rs, h1, h2, h3, h4⟩ := H.out
  have k0 := h1.cell 0
  have k1 := h1.cell 1
  have f0 := h1.frozen 1
  have HG := Lib.hid h1; have HR := Lib.hid h4; have HS := Lib.hid h3; have HBW : Hid (B ≤ w1.heap.size) := Lib.hid (by omega)
  clear h1 h3 h4
  obtain ⟨x, hx, hx2⟩ : ∃ x : Int, x = -1 ∧ x < 0 := ⟨-1, rfl, by decide⟩
  rw [← hx]; clear hx
  go_simp
  have h16 : ((bs.length : Int) < 16384) = True := by simp; omega
  go_wp2
  have k00 : w1.cell? ⟨g, 0, none⟩ = some (.slice A0 bs.length c0) := k0
  have k11a := (HG.out.alloc (.cells #[] 9)).drew.cell 1
  have k11 : w1.cell? ⟨g, 1, none⟩ = some rv := k1
  have hS0 : w1.drew.cell? ⟨g, 1, none⟩ = some rv ∧ w1.drew.cell? ⟨g, 0, none⟩ = some (.slice A0 bs.length c0) := ⟨HG.out.drew.cell 1, HG.out.drew.cell 0⟩
  refine region_L 20 (fun w' => w'.cell? ⟨g, 1, none⟩ = some rv ∧ w'.cell? ⟨g, 0, none⟩ = some (.slice A0 bs.length c0)) (by kernel_rfl) ?_
  refine anyL_take (i := 0) (v := ?_) rfl (by kernel_rfl) (by kernel_rfl) (by kernel_rfl) (by kernel_rfl) (fun _ _ _ h => h) hS0 (Or.inl ⟨by rfl, ?_⟩) ?_
  rotate_left
  · intro w' hSw; (try dsimp only at hSw); first | (go_simp; done) | (go_simp; with_reducible rfl)
  try simp only [Act.put, List.setIfInBounds_toArray, List.set_cons_zero, List.set_cons_succ]
  refine anyL_take (i := 1) (v := ?_) rfl (by kernel_rfl) (by kernel_rfl) (by kernel_rfl) (by kernel_rfl) (fun _ _ _ h => h) hS0 (Or.inl ⟨by rfl, ?_⟩) ?_
  rotate_left
  · intro w' hSw; (try dsimp only at hSw); first | (go_simp; done) | (go_simp; with_reducible rfl)
  try simp only [Act.put, List.setIfInBounds_toArray, List.set_cons_zero, List.set_cons_succ]
  refine anyL_take (i := 2) (v := ?_) rfl (by kernel_rfl) (by kernel_rfl) (by kernel_rfl) (by kernel_rfl) (fun _ _ _ h => h) hS0 (Or.inl ⟨by rfl, ?_⟩) ?_
  rotate_left
  · intro w' hSw; (try dsimp only at hSw); first | (go_simp; done) | (go_simp; with_reducible rfl)
  try simp only [Act.put, List.setIfInBounds_toArray, List.set_cons_zero, List.set_cons_succ]
  refine anyL_take (i := 3) (v := ?_) rfl (by kernel_rfl) (by kernel_rfl) (by kernel_rfl) (by kernel_rfl) (fun _ _ _ h => h) hS0 (Or.inl ⟨by rfl, ?_⟩) ?_
  rotate_left
  · intro w' hSw; (try dsimp only at hSw); first | (go_simp; done) | (go_simp; with_reducible rfl)
  try simp only [Act.put, List.setIfInBounds_toArray, List.set_cons_zero, List.set_cons_succ]
  refine anyL_take (i := 4) (v := ?_) rfl (by kernel_rfl) (by kernel_rfl) (by kernel_rfl) (by kernel_rfl) (fun _ _ _ h => h) hS0 (Or.inl ⟨by rfl, ?_⟩) ?_
  rotate_left
  · intro w' hSw; (try dsimp only at hSw); first | (go_simp; done) | (go_simp; with_reducible rfl)
  try simp only [Act.put, List.setIfInBounds_toArray, List.set_cons_zero, List.set_cons_succ]
  refine anyL_take (i := 5) (v := ?_) rfl (by kernel_rfl) (by kernel_rfl) (by kernel_rfl) (by kernel_rfl) (fun _ _ _ h => h) hS0 (Or.inl ⟨by rfl, ?_⟩) ?_
  rotate_left
  · intro w' hSw; (try dsimp only at hSw); first | (go_simp; done) | (go_simp; with_reducible rfl)
  try simp only [Act.put, List.setIfInBounds_toArray, List.set_cons_zero, List.set_cons_succ]
  refine anyL_take (i := 6) (v := ?_) rfl (by kernel_rfl) (by kernel_rfl) (by kernel_rfl) (by kernel_rfl) (fun _ _ _ h => h) hS0 (Or.inl ⟨by rfl, ?_⟩) ?_
  rotate_left
  · intro w' hSw; (try dsimp only at hSw); first | (go_simp; done) | (go_simp; with_reducible rfl)
  try simp only [Act.put, List.setIfInBounds_toArray, List.set_cons_zero, List.set_cons_succ]
  refine anyL_take (i := 7) (v := ?_) rfl (by kernel_rfl) (by kernel_rfl) (by kernel_rfl) (by kernel_rfl) (fun _ _ _ h => h) hS0 (Or.inl ⟨by rfl, ?_⟩) ?_
  rotate_left
  · intro w' hSw; (try dsimp only at hSw); first | (go_simp; done) | (go_simp; with_reducible rfl)
  try simp only [Act.put, List.setIfInBounds_toArray, List.set_cons_zero, List.set_cons_succ]
  refine anyL_take (i := 8) (v := ?_) rfl (by kernel_rfl) (by kernel_rfl) (by kernel_rfl) (by kernel_rfl) (fun _ _ _ h => h) hS0 (Or.inl ⟨by rfl, ?_⟩) ?_
  rotate_left
  · intro w' hSw; (try dsimp only at hSw); first | (go_simp; done) | (go_simp; with_reducible rfl)
  try simp only [Act.put, List.setIfInBounds_toArray, List.set_cons_zero, List.set_cons_succ]
  refine anyL_take (i := 9) (v := ?_) rfl (by kernel_rfl) (by kernel_rfl) (by kernel_rfl) (by kernel_rfl) (fun _ _ _ h => h) hS0 (Or.inl ⟨by rfl, ?_⟩) ?_
  rotate_left
  · intro w' hSw; (try dsimp only at hSw); first | (go_simp; done) | (go_simp; with_reducible rfl)
  try simp only [Act.put, List.setIfInBounds_toArray, List.set_cons_zero, List.set_cons_succ]
  refine anyL_take (i := 11) (v := ?_) rfl (by kernel_rfl) (by kernel_rfl) (by kernel_rfl) (by kernel_rfl) (fun _ _ _ h => h) hS0 (Or.inl ⟨by rfl, ?_⟩) ?_
  rotate_left
  · intro w' hSw; (try dsimp only at hSw); first | (go_simp; done) | (go_simp; with_reducible rfl)
  try simp only [Act.put, List.setIfInBounds_toArray, List.set_cons_zero, List.set_cons_succ]
  refine anyL_take (i := 12) (v := ?_) rfl (by kernel_rfl) (by kernel_rfl) (by kernel_rfl) (by kernel_rfl) (fun _ _ _ h => h) hS0 (Or.inl ⟨by rfl, ?_⟩) ?_
  rotate_left
  · intro w' hSw; (try dsimp only at hSw); first | (go_simp; done) | (go_simp; with_reducible rfl)
  try simp only [Act.put, List.setIfInBounds_toArray, List.set_cons_zero, List.set_cons_succ]
  refine anyL_take (i := 13) (v := ?_) rfl (by kernel_rfl) (by kernel_rfl) (by kernel_rfl) (by kernel_rfl) (fun _ _ _ h => h) hS0 (Or.inl ⟨by rfl, ?_⟩) ?_
  rotate_left
  · intro w' hSw; (try dsimp only at hSw); first | (go_simp; done) | (go_simp; with_reducible rfl)
  try simp only [Act.put, List.setIfInBounds_toArray, List.set_cons_zero, List.set_cons_succ]
  refine anyL_one (i := 10) (by kernel_rfl) rfl (fun K hK => ?_)
  go_simp
  have hS1 : (w1.alloc (.cells #[] 9)).drew.cell? ⟨g, 1, none⟩ = some rv ∧ (w1.alloc (.cells #[] 9)).drew.cell? ⟨g, 0, none⟩ = some (.slice A0 bs.length c0) := ⟨(HG.out.alloc (.cells #[] 9)).drew.cell 1, (HG.out.alloc (.cells #[] 9)).drew.cell 0⟩
  refine hK.out _ _ hS1 ?_
  clear hK K
  try simp only [Act.put, List.setIfInBounds_toArray, List.set_cons_zero, List.set_cons_succ]
  refine anyL_one (i := 14) (by kernel_rfl) rfl (fun K hK => ?_)
  refine step_app rfl (.tmp 44) (.tmp 47) _ (by rfl) w1.heap.size 9 _ 1 16 Tryz.underlying22 str_info rfl (by decide) (.slice (some ⟨w1.heap.size, 0, none⟩) 0 0) 0 [] (by rfl) (own_empty w1 _ 1).drew B (some ad) 1 cn [.string s] (by rfl)
          (HN.out.alloc HBW.out _).drew (by simp [Value.oneCell']) (by unfold maxLen; omega) (by omega) (by simp) ?_
  intro v2 w2 hown hg hat
  obtain ⟨A2, c2, rfl⟩ := own_slice hown
  have hb2 : Below w1.heap.size w1 w2 := (((Below.refl _ _).alloc (Nat.le_refl _) _).drew).grown hg (by simp) (by intro k hk; simp [Value.ownBlock] at hk; omega)
  have hg2 := HG.out.below hb2 HG.out.lt
  have hS2 : w2.cell? ⟨g, 1, none⟩ = some rv ∧ w2.cell? ⟨g, 0, none⟩ = some (.slice A0 bs.length c0) := ⟨hg2.cell 1, hg2.cell 0⟩
  have HG2 := Lib.hid hg2; have HB2 := Lib.hid hb2; have HO2 := Lib.hid hown; have HR2 := Lib.hid (own_below HR.out hb2); have HS2 := Lib.hid (own_below HS.out hb2)
  clear hown hg hat hb2 hg2
  refine hK.out _ _ hS2 ?_
  clear hK K
  try simp only [Act.put, List.setIfInBounds_toArray, List.set_cons_zero, List.set_cons_succ]
  refine anyL_take (i := 15) (v := ?_) rfl (by kernel_rfl) (by kernel_rfl) (by kernel_rfl) (by kernel_rfl) (fun _ _ _ h => h) hS2 (Or.inl ⟨by rfl, ?_⟩) ?_
  rotate_left
  · intro w' hSw; (try dsimp only at hSw); first | (go_simp; done) | (go_simp; with_reducible rfl)
  try simp only [Act.put, List.setIfInBounds_toArray, List.set_cons_zero, List.set_cons_succ]
  refine anyL_one (i := 16) (by kernel_rfl) rfl (fun K hK => ?_)
  go_simp
  have hS3 : (w2.alloc (.cells #[.int .i64 bs.length, .slice A2 1 c2] 305)).cell? ⟨g, 1, none⟩ = some rv ∧ (w2.alloc (.cells #[.int .i64 bs.length, .slice A2 1 c2] 305)).cell? ⟨g, 0, none⟩ = some (.slice A0 bs.length c0) := ⟨(HG2.out.alloc (.cells #[.int .i64 bs.length, .slice A2 1 c2] 305)).cell 1, (HG2.out.alloc (.cells #[.int .i64 bs.length, .slice A2 1 c2] 305)).cell 0⟩
  refine hK.out _ _ hS3 ?_
  clear hK K
  try simp only [Act.put, List.setIfInBounds_toArray, List.set_cons_zero, List.set_cons_succ]
  refine anyL_one (i := 17) (by kernel_rfl) rfl (fun K hK => ?_)
  refine step_app rfl (.tmp 38) (.tmp 50) _ (by rfl) B 305 _ 2 32 Tryz.underlying220 rest_info rfl (by decide) rv 0 rs (by rfl) (own_below HR2.out ((Below.refl _ _).alloc (Nat.le_refl _) _)) (w2.heap.size + 1) (some ⟨w2.heap.size, 0, none⟩) 1 1
          [.int .i64 bs.length, .slice A2 1 c2] (by rfl) (Rd.boxN w2 #[.int .i64 bs.length, .slice A2 1 c2] _) (by simp [Value.oneCell']) (by unfold maxLen; omega) (by omega) (by have := HB2.out.size; simp; omega) ?_
  intro v3 w3 hown hg hat
  obtain ⟨A3, c3, rfl⟩ := own_slice hown
  have hne := own_blk_ne HR2.out HG2.out (by decide)
  have hg3 := (HG2.out.alloc _).grown hg (by intro e; rcases hne with h | h; rw [h] at e; cases e; exact h e.symm)
  have hs3 := (own_below HS2.out ((Below.refl _ _).alloc (Nat.le_refl _) _)).kept hg (own_own_ne HS2.out HR2.out (by decide))
  have hb3 : Below B w1 w3 := ((HB2.out.mono HBW.out).alloc (by have := HB2.out.size; have := HBW.out; omega) _).grown hg (by have := HB2.out.size; have := HBW.out; simp; omega) (fun k hk => (HR2.out.lt k hk).1)
  have hS4 : w3.cell? ⟨g, 1, none⟩ = some rv ∧ w3.cell? ⟨g, 0, none⟩ = some (.slice A0 bs.length c0) := ⟨hg3.cell 1, hg3.cell 0⟩
  have kf3 := hg3.frozen 1
  have k13 := hg3.cell 1
  have HG3 := Lib.hid hg3; have HS3 := Lib.hid hs3; have HB3 := Lib.hid hb3; have HO3 := Lib.hid hown
  clear hown hg hat hne hg3 hs3 hb3
  refine hK.out _ _ hS4 ?_
  clear hK K
  try simp only [Act.put, List.setIfInBounds_toArray, List.set_cons_zero, List.set_cons_succ]
  refine anyL_one (i := 18) (by kernel_rfl) rfl (fun K hK => ?_)
  go_simp
  refine hK.out _ _ hS4 ?_
  clear hK K
  try simp only [Act.put, List.setIfInBounds_toArray, List.set_cons_zero, List.set_cons_succ]
  refine anyL_take (i := 19) (v := ?_) rfl (by kernel_rfl) (by kernel_rfl) (by kernel_rfl) (by kernel_rfl) (fun _ _ _ h => h) hS4 (Or.inl ⟨by rfl, ?_⟩) ?_
  rotate_left
  · intro w' hSw; (try dsimp only at hSw); first | (go_simp; done) | (go_simp; with_reducible rfl)
  try simp only [Act.put, List.setIfInBounds_toArray, List.set_cons_zero, List.set_cons_succ]
  refine anyL_last (by kernel_rfl) rfl (by kernel_rfl) (fun K hK => ?_)
  go_simp
  refine hK.out _ _ ?_
  clear hK K
  all_goals
    obtain ⟨W, hW⟩ : ∃ W, W = w3.setCell ⟨g, 1, none⟩ (.slice A3 1 c3) := ⟨_, rfl⟩
    rw [← hW]
    have hB3 : Below B w1 W := by rw [hW]; exact HB3.out.setCell (p := ⟨g, 1, none⟩) h2 _
    have hRW : RWr W B g bs 1 := by
      rw [hW]
      refine ⟨A0, c0, .slice A3 1 c3, rs ++ [.int .i64 bs.length, .slice A2 1 c2], by simpa using HG3.out.set_ 1 (.slice A3 1 c3), h2, own_set HS3.out (own_blk_ne HS3.out HG3.out (by decide)) _, own_set (xs := rs ++ [.int .i64 bs.length, .slice A2 1 c2]) HO3.out (own_blk_ne HO3.out HG3.out (by decide)) _⟩
    have hNW := HN.out.below hB3
    obtain ⟨_, e, _, hac⟩ := hNW.cells (by omega)
    injection e with e; subst e
    have an3 : W.cell? ad = some (.string s) := by have := hac 0 _ rfl; rwa [Addr.add_zero'] at this
    have HBW3 := Lib.hid hB3; have HRW := Lib.hid hRW; have HNW := Lib.hid hNW
    clear hW hB3 hRW hNW hac an0 k00 k0 k1 f0 k11 k11a k13 kf3 hS0 hS1 hS2 hS3 hS4
    go_wp2_with fail
    refine (rwNum_any B g 1 bs s.size 1 W HRW.out (by omega) (by omega)).mono ?_
    rintro e w4 ⟨rfl, hr4, hb4⟩
    have hNW := HNW.out.below hb4
    obtain ⟨_, e, _, hac⟩ := hNW.cells (by omega)
    injection e with e; subst e
    have an4 : w4.cell? ad = some (.string s) := by have := hac 0 _ rfl; rwa [Addr.add_zero'] at this
    have HR4 := Lib.hid hr4; have HB4 := Lib.hid hb4
    clear hr4 hb4 hNW hac an3
    obtain ⟨A5, c5, w5, hcv, hr5, hb5⟩ := conv_bytes s w4 (by unfold maxLen; omega)
    have HR5 := Lib.hid hr5; have HB5 := Lib.hid hb5
    clear hr5 hb5
    go_wp2_with fail
    refine (rwRaw_any B g 1 (bs ++ putB s.size 1) A5 s.size c5 s.data.toList w5 (HR4.out.below HB5.out) HR5.out (by have := putB_le (s.size : Int) 1; simp only [List.length_append]; omega)).mono ?_
    rintro e w6 ⟨rfl, hr6, hb6⟩
    have HR6 := Lib.hid hr6; have HB6 := Lib.hid hb6
    clear hr6 hb6 hcv an4
    go_wp2_with fail
    rw [rounds_succ]
    go_wp2_with fail
    refine (rwNum_any B g 1 _ 0 1 w6 HR6.out (by have := putB_le (s.size : Int) 1; have : s.data.toList.length = s.size := (by simp); simp only [List.length_append]; omega) (by omega)).mono ?_
    rintro e w7 ⟨rfl, hr7, hb7⟩
    have HR7 := Lib.hid hr7; have HB7 := Lib.hid hb7
    clear hr7 hb7
    go_wp2
    go_end0
    refine ⟨rfl, HR7.out, ?_⟩
    have e1 := HBW3.out.size; have e2 := HB4.out.size; have e3 := HBW.out; have e4 := HB5.out.size
    exact (((HBW3.out.trans HB4.out).trans (HB5.out.mono (by omega))).trans HB6.out).trans HB7.out
end Go.Proofs.YtacmgogobjpmcaaGreat
