/- Contracts: a block is saved on a new device (package super). -/
import Derived.Test.YtacmgogobjpmcaaGreatG
namespace Go.Proofs.YtacmgogobjpmcaaGreat
open Go.RowKit

set_option maxHeartbeats 400000 in
set_option maxRecDepth 20000 in
theorem numbers_any (b : Nat) (w : World) :
    Calls Tryz.prog 221 #[.pointer (some ⟨b, 0, none⟩)] w fun e w' => e = .returned (.agg #[.pointer (some ⟨b, 0, none⟩), .pointer (some ⟨b, 1, none⟩), .pointer (some ⟨b, 2, none⟩), .pointer (some ⟨b, 3, none⟩), .pointer (some ⟨b, 4, none⟩)]) ∧ Below w.heap.size w w' := by
  go_enter Tryz.func221, Tryz.ntmps221
  go_wp2
  go_region
  all_goals go_wp2
  have hb : Blk (w.alloc (.cells #[.pointer (some ⟨b, 0, none⟩), .pointer (some ⟨b, 1, none⟩), .pointer (some ⟨b, 2, none⟩), .pointer (some ⟨b, 3, none⟩), .pointer (some ⟨b, 4, none⟩)] 333)).drew w.heap.size 333 #[.pointer (some ⟨b, 0, none⟩), .pointer (some ⟨b, 1, none⟩), .pointer (some ⟨b, 2, none⟩), .pointer (some ⟨b, 3, none⟩), .pointer (some ⟨b, 4, none⟩)] := (Blk.new _ _ _).drew
  have d0 := hb.cell 0; have d1 := hb.cell 1; have d2 := hb.cell 2; have d3 := hb.cell 3; have d4 := hb.cell 4
  refine bodyPost_ret (v := .agg #[.pointer (some ⟨b, 0, none⟩), .pointer (some ⟨b, 1, none⟩), .pointer (some ⟨b, 2, none⟩), .pointer (some ⟨b, 3, none⟩), .pointer (some ⟨b, 4, none⟩)]) (by simp [results, Tryz.results221, go_sem]) rfl ⟨rfl, ?_⟩
  exact ((Below.refl _ _).alloc (Nat.le_refl _) _).drew

theorem index5 (b k : Nat) (hk : k < 5) (w : World) : (Instr.index 333 (.agg #[.pointer (some ⟨b, 0, none⟩), .pointer (some ⟨b, 1, none⟩), .pointer (some ⟨b, 2, none⟩), .pointer (some ⟨b, 3, none⟩), .pointer (some ⟨b, 4, none⟩)]) (.int .i64 (k : Int))).run Tryz.prog w = .ok (.pointer (some ⟨b, k, none⟩)) w := by
  rcases k with _|_|_|_|_|k
  · kernel_rfl
  · kernel_rfl
  · kernel_rfl
  · kernel_rfl
  · kernel_rfl
  · omega

section
variable {w : World} {g gs n : Nat}
set_option maxHeartbeats 1000000 in
set_option maxRecDepth 20000 in
theorem superSave_new (h : Dev w g gs n (zeroSec n) (.slice none 0 0) 0 false) (hn : 2 ≤ n) :
    Calls Tryz.prog 139 #[.pointer (some ⟨g, 0, none⟩), .agg #[.int .i64 0, .int .i64 1, .int .i64 0, .int .i64 0, .int .i64 0]] w fun e w' => e = .returned (.int .i64 0) ∧ Hid (∃ cur', Dev w' g gs n cur' (.slice none 0 0) 0 false) ∧ Fr w.heap.size [g, gs] w w' := by
  have hn4 := h.nle
  go_enter Tryz.func139, Tryz.ntmps139
  go_wp2_with fail
  have hb0 : Blk (w.alloc (.cells #[.int .i64 0, .int .i64 1, .int .i64 0, .int .i64 0, .int .i64 0] 240)) w.heap.size 240 #[.int .i64 0, .int .i64 1, .int .i64 0, .int .i64 0, .int .i64 0] := Blk.new _ _ _
  refine (superLoad_new (h.alloc _) hn).mono ?_
  rintro e w1 ⟨rfl, hb1⟩
  have hd1 := (h.alloc (.cells #[.int .i64 0, .int .i64 1, .int .i64 0, .int .i64 0, .int .i64 0] 240)).below hb1
  have hb01 := hb0.below hb1 hb0.lt
  have hs1 := hb1.size
  have HB1 := Lib.hid hb1; have HB01 := Lib.hid hb01; have HD1 := Lib.hid hd1
  clear hb1 hb01 hd1 hb0
  go_wp2_with fail
  refine (numbers_any _ _).mono ?_
  rintro e w2 ⟨rfl, hb2⟩
  have hb02 := (HB01.out.alloc (.cells #[.int .i64 0, .int .i64 0, .int .i64 0, .int .i64 0, .int .i64 0] 240)).below hb2 (by have := HB01.out.lt; simp; omega)
  have hd2 := (HD1.out.alloc (.cells #[.int .i64 0, .int .i64 0, .int .i64 0, .int .i64 0, .int .i64 0] 240)).below hb2
  have hall : Below w.heap.size w w2 := ((((Below.refl _ _).alloc (Nat.le_refl _) _).trans (HB1.out.mono (by simp))).alloc (by simp at hs1; omega) _).trans (hb2.mono (by simp at hs1 ⊢; omega))
  have HB02 := Lib.hid hb02; have HD2 := Lib.hid hd2; have HALL := Lib.hid hall
  clear hb2 hb02 hd2 hall hs1
  go_wp2
  go_loopw [7, 9, 27] (fun v _ i wr => ∃ k : Nat, k ≤ 5 ∧ i = .int .i64 k ∧ Hid (Below w2.heap.size w2 wr ∧ ∃ bs, bs.length = 7 * k ∧ wr.ownsRow w2.heap.size 5 1 v bs.length (bys bs))) (fun _ _ i _ => 5 - (intOf i).toNat)
  case atStart => exact ⟨0, by omega, rfl, Below.refl _ _, [], rfl, World.ownsRow_nil _ _ _ _⟩
  case round =>
    obtain ⟨k, hk, rfl, hq⟩ := hrel
    obtain ⟨hbl, bs, hl, hown⟩ := hq.out
    obtain ⟨A, c, rfl⟩ := own_slice hown
    by_cases hlt : k < 5
    · have hix := index5 w.heap.size k hlt
      have hbk := HB02.out.below hbl HB02.out.lt
      obtain ⟨x, hx, hxr⟩ : ∃ x : Int, wr.cell? ⟨w.heap.size, k, none⟩ = some (.int .i64 x) ∧ fitsB x 7 = true := by
        rw [hbk.cell]
        rcases k with _|_|_|_|_|k
        · exact ⟨_, rfl, by decide⟩
        · exact ⟨_, rfl, by decide⟩
        · exact ⟨_, rfl, by decide⟩
        · exact ⟨_, rfl, by decide⟩
        · exact ⟨_, rfl, by decide⟩
        · omega
      have hpl : (putB x 7).length = 7 := putB_length x 7 hxr
      have HBL := Lib.hid hbl; have HO := Lib.hid hown; have HL := Lib.hid hl; have HP := Lib.hid hpl; have HXR := Lib.hid hxr
      clear hbl hown hl hpl hxr hbk hq
      go_wp2_with (first
        | (refine (numFits_any _ _ _).mono ?_; rintro e w' ⟨rfl, rfl⟩; rw [HXR.out])
        | (refine (numPut_any _ _ _ bs _ 7 _ (Rd.of_own HO.out) (by have := HL.out; omega)).mono ?_; rintro e w3 hput; obtain ⟨v2, rfl, hv2, hb2⟩ := hput.out; have HV2 := Lib.hid hv2; have HB2 := Lib.hid hb2; clear hput hv2 hb2))
      go_roundw
      case rel =>
        refine ⟨k + 1, by omega, by go_num, HBL.out.trans (HB2.out.mono HBL.out.size), bs ++ putB x 7, ?_, own_base HV2.out HBL.out.size⟩
        rw [List.length_append, HL.out, HP.out]; omega
      case measure => simp [intOf]; omega
    · have ek : k = 5 := by omega
      subst ek
      have hbk := HB02.out.below hbl HB02.out.lt
      have c0 := hbk.cell 0
      have hdw := HD2.out.below hbl
      have hl' : bs.length = 35 := hl
      rw [hl'] at hown
      have hsl := seal_ok 1 0 0 0 1 A 35 c bs wr (Rd.of_own hown) (by omega) (by
        intro k x y hx hy
        rcases k with _|_|_|_|_|_|k <;> simp [szs] at hx hy <;> subst hx <;> subst hy <;> decide) (by decide) (by decide) (by decide)
      have hbw := HALL.out.trans (hbl.mono HALL.out.size)
      have HS := Lib.hid hsl; have HBK := Lib.hid hbk; have HDW := Lib.hid hdw; have HL := Lib.hid hl'; have HBW := Lib.hid hbw
      clear hsl hbk hdw hl hl' hbw hbl hown hq
      rw [HL.out]
      go_wp2_with fail
      refine HS.out.mono ?_
      rintro e w4 hq4
      obtain ⟨A4, c4, cs4, rfl, ho4, hb4⟩ := hq4.out
      have hd4 := HDW.out.below hb4
      have hbk4 := HBK.out.below hb4 HBK.out.lt
      have hbw4 : Below w.heap.size w w4 := HBW.out.trans (hb4.mono HBW.out.size)
      have hs5 := devSync0_any hd4
      have HD4 := Lib.hid hd4; have HS5 := Lib.hid hs5; have HO4 := Lib.hid ho4; have HBK4 := Lib.hid hbk4; have HBW4 := Lib.hid hbw4
      clear hd4 hs5 ho4 hbk4 hbw4 hb4 hq4 c0
      go_wp2_with fail
      refine HS5.out.mono ?_
      rintro e w5 ⟨rfl, hw5⟩
      have hd5 : Dev w5 g gs n (zeroSec n) (.slice none 0 0) 0 false := by rw [hw5]; exact HD4.out.setU _
      have hbk5 := HBK4.out.far (p := ⟨g, 1, none⟩) (by have := h.blk.lt; show w.heap.size ≠ g; omega) (.slice none 0 0)
      rw [← hw5] at hbk5
      have ho5 : w5.ownsRow wr.heap.size 5 1 (.slice A4 512 c4) 512 (bys cs4) := by
        rw [hw5]; exact ownsRow_setCell_below HO4.out (a := ⟨g, 1, none⟩) (by have := HDW.out.blk.lt; exact this) _
      have hf5 : Fr w.heap.size [g, gs] w w5 := by rw [hw5]; exact (Fr.of_below HBW4.out).setCell (.inr (by simp)) _
      have hwr := devWrite0_any hd5 0 (by omega) A4 512 c4 cs4 (Rd.of_own ho5) (by omega)
      have c0 := hbk5.cell 0
      have HD5 := Lib.hid hd5; have HBK5 := Lib.hid hbk5; have HF5 := Lib.hid hf5; have HWR := Lib.hid hwr
      clear hd5 hbk5 ho5 hf5 hwr hw5
      go_wp2_with fail
      refine HWR.out.mono ?_
      rintro e w6 ⟨rfl, hw6, hf6⟩
      have hs7 := devSync1_any _ 0 (by omega) hw6
      have HS7 := Lib.hid hs7; have HF6 := Lib.hid hf6
      clear hs7 hw6 hf6 c0
      go_wp2_with fail
      refine HS7.out.mono ?_
      rintro e w7 ⟨rfl, hd7, hf7⟩
      have HF7 := Lib.hid hf7; clear hf7
      go_wp2
      go_ret
      refine ⟨rfl, hd7, ?_⟩
      have k5 := HF5.out.size
      have k6 := HF6.out.size
      refine (HF5.out.trans (HF6.out.mono (by omega) ?_)).trans (HF7.out.mono (by omega) (fun k _ hk => hk))
      intro k _ hk; simp at hk ⊢; exact .inl hk
end
end Go.Proofs.YtacmgogobjpmcaaGreat
