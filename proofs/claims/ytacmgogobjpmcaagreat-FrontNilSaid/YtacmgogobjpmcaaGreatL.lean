/- Contracts: law 21's helpers. -/
import Derived.Test.YtacmgogobjpmcaaGreatK
namespace Go.Proofs.YtacmgogobjpmcaaGreat
open Go.RowKit

/-- law 21's settings -/
structure Usual21 (w w' : World) (e : Ending) : Prop where
  mk :: (out : ∃ Ar Az cr cz rs zs, e = .returned (.agg #[.slice Ar 1 cr, .int .i64 500, .int .i64 1000, .int .i64 2, .int .i64 3, .int .i64 60, .int .i64 4, .slice Az 1 cz]) ∧ Below w.heap.size w w' ∧
    Rd w' w'.heap.size 1 Ar 1 rs ∧ (∀ v ∈ rs, ∃ A c, v = .slice A 4 c) ∧ Rd w' w'.heap.size 1 Az 1 zs ∧ (∀ v ∈ zs, ∃ A c, v = .slice A 1 c ∧ Rd w' w'.heap.size 1 A 1 (strs [⟨#[114, 101, 102, 117, 115, 101, 100]⟩])))
theorem usual21_any (w : World) : Calls Tryz.prog 24 #[] w fun e w' => Usual21 w w' e := by
  go_enter Tryz.func24, Tryz.ntmps24
  go_wp2
  obtain ⟨W, hW⟩ : ∃ W, W = ((((w.alloc (.cells #[.slice (some ⟨w.heap.size + 1 + 1, 0, none⟩) 1 1, .int .i64 500, .int .i64 1000, .int .i64 2, .int .i64 3, .int .i64 60, .int .i64 4, .slice (some ⟨w.heap.size + 1 + 1 + 1 + 1, 0, none⟩) 1 1] 43)).alloc
    (.cells #[.int .u8 10, .int .u8 0, .int .u8 0, .int .u8 1] 5)).alloc (.cells #[.slice (some ⟨w.heap.size + 1, 0, none⟩) 4 4] 30)).alloc (.cells #[.string ⟨#[114, 101, 102, 117, 115, 101, 100]⟩] 9)).alloc (.cells #[.slice (some ⟨w.heap.size + 1 + 1 + 1, 0, none⟩) 1 1] 22) := ⟨_, rfl⟩
  rw [← hW]
  have b0 : Blk W w.heap.size 43 #[.slice (some ⟨w.heap.size + 1 + 1, 0, none⟩) 1 1, .int .i64 500, .int .i64 1000, .int .i64 2, .int .i64 3, .int .i64 60, .int .i64 4, .slice (some ⟨w.heap.size + 1 + 1 + 1 + 1, 0, none⟩) 1 1] := by
    rw [hW]; exact ((((Blk.new _ _ _).alloc _).alloc _).alloc _).alloc _
  have b2 : Blk W (w.heap.size + 1 + 1) 30 #[.slice (some ⟨w.heap.size + 1, 0, none⟩) 4 4] := by rw [hW]; exact ((Blk.new' _ _ _ (by simp)).alloc _).alloc _
  have b3 : Blk W (w.heap.size + 1 + 1 + 1) 9 #[.string ⟨#[114, 101, 102, 117, 115, 101, 100]⟩] := by rw [hW]; exact (Blk.new' _ _ _ (by simp)).alloc _
  have b4 : Blk W (w.heap.size + 1 + 1 + 1 + 1) 22 #[.slice (some ⟨w.heap.size + 1 + 1 + 1, 0, none⟩) 1 1] := by rw [hW]; exact Blk.new' _ _ _ (by simp)
  have hbel : Below w.heap.size w W := by rw [hW]; exact (((((Below.refl _ _).alloc (Nat.le_refl _) _).alloc (by simp) _).alloc (by simp; omega) _).alloc (by simp; omega) _).alloc (by simp; omega) _
  have c0 := b0.cell 0; have c1 := b0.cell 1; have c2 := b0.cell 2; have c3 := b0.cell 3; have c4 := b0.cell 4; have c5 := b0.cell 5; have c6 := b0.cell 6; have c7 := b0.cell 7
  refine bodyPost_ret (v := .agg #[.slice (some ⟨w.heap.size + 1 + 1, 0, none⟩) 1 1, .int .i64 500, .int .i64 1000, .int .i64 2, .int .i64 3, .int .i64 60, .int .i64 4, .slice (some ⟨w.heap.size + 1 + 1 + 1 + 1, 0, none⟩) 1 1]) (by simp [results, Tryz.results24, go_sem, c0, c1, c2, c3, c4, c5, c6, c7]) rfl
    ⟨_, _, _, _, _, _, rfl, hbel, Rd.of_blk b2 rfl (by unfold maxLen; omega), ?_, Rd.of_blk b4 rfl (by unfold maxLen; omega), ?_⟩
  · intro v hv; simp at hv; exact ⟨_, _, hv⟩
  · intro v hv; simp at hv; exact ⟨_, _, hv, Rd.of_blk b3 rfl (by unfold maxLen; omega)⟩

/-- a front that knows nothing, as law 21 has it -/
structure Fresh21 (w w' : World) (e : Ending) : Prop where
  mk :: (out : ∃ gf gk gc gm gl g gs Ar Az cr cz zs, e = .returned (.pointer (some ⟨gf, 0, none⟩)) ∧ Below w.heap.size w w' ∧ KeepE w' gk gc gm gl g gs 200 500 1000 ∧
    Blk w' gf 162 #[.pointer (some ⟨gk, 0, none⟩), .slice Ar 1 cr, .int .i64 500, .int .i64 1000, .int .i64 2, .int .i64 3, .int .i64 60, .int .i64 4, .slice Az 1 cz, .slice none 0 0] ∧
    Rd w' w'.heap.size 1 Az 1 zs ∧ (∀ v ∈ zs, ∃ A c, v = .slice A 1 c ∧ Rd w' w'.heap.size 1 A 1 (strs [⟨#[114, 101, 102, 117, 115, 101, 100]⟩])))
theorem refused_sound : soundB [⟨#[114, 101, 102, 117, 115, 101, 100]⟩] = true := by decide

theorem KeepE.below {w w' : World} {gk gc gm gl g gs n : Nat} {most stale : Int} (h : KeepE w gk gc gm gl g gs n most stale) (hb : Below w.heap.size w w') : KeepE w' gk gc gm gl g gs n most stale := by
  obtain ⟨h1, h2, h3, cur, h4⟩ := h
  refine ⟨h1.below hb h1.lt, ⟨h2.1.below hb h2.1.lt, ?_⟩, h3.below hb (Blk.lt h3), cur, h4.below hb⟩
  exact (hb.block _ (Array.getElem?_eq_some_iff.1 h2.2).1).trans h2.2

set_option maxHeartbeats 400000 in
set_option maxRecDepth 20000 in
theorem fresh21_any (w : World) : Calls Tryz.prog 63 #[] w fun e w' => Fresh21 w w' e := by
  go_enter Tryz.func63, Tryz.ntmps63
  go_wp2_with fail
  refine (flashNew_any 200 (by omega) (by omega) w).mono ?_
  rintro e w1 ⟨rfl, hd1, hb1, hs1⟩
  have hko := keepOpen_new hd1 (by omega) 500 1000 (by omega) (by omega) (by omega) (by omega)
  have HK := Lib.hid hko; have HB1 := Lib.hid hb1; have HS1 := Lib.hid hs1
  clear hko hd1 hb1 hs1
  go_wp2_with fail
  refine HK.out.mono ?_
  rintro e w2 ⟨hq, hf2⟩
  obtain ⟨gk, gc, gm, gl, rfl, hke, hgk⟩ := hq.out
  have HKE := Lib.hid hke; have HF2 := Lib.hid hf2
  clear hq hke hf2
  go_wp2_with fail
  refine (usual21_any w2).mono ?_
  rintro e w3 ⟨Ar, Az, cr, cz, rs, zs, rfl, hb3, hrr, hr4, hrz, hz⟩
  have hfn := frontNew_ok gk Ar Az 1 cr 1 cz rs zs 500 1000 2 3 60 4 w3 ⟨by omega, by omega, by omega, by omega, by omega, by omega⟩ hrr (by omega) (by omega) hr4 hrz (by
    intro v hv
    obtain ⟨A, c, e, hrd⟩ := hz v hv
    exact ⟨A, 1, c, _, e, hrd, refused_sound⟩)
  have HFN := Lib.hid hfn; have HB3 := Lib.hid hb3; have HRZ := Lib.hid hrz; have HZ := Lib.hid hz
  clear hfn hb3 hrr hr4 hrz hz
  go_wp2_with fail
  refine HFN.out.mono ?_
  rintro e w4 ⟨hq, hb4⟩
  obtain ⟨gf, rfl, hgf, hbf⟩ := hq.out
  have HB4 := Lib.hid hb4; have HBF := Lib.hid hbf
  clear hq hb4 hbf
  go_wp2
  go_ret
  have k1 := HB1.out.size
  have k2 := HF2.out.size
  have k3 := HB3.out.size
  have hs := HS1.out
  have hall : Below w.heap.size w w4 := ((HB1.out.trans ((HF2.out.mono (S' := []) k1 (by intro k hk hm; simp at hm; omega)).to_below (by simp))).trans (HB3.out.mono (by omega))).trans (HB4.out.mono (by omega))
  refine ⟨gf, gk, gc, gm, gl, _, _, Ar, Az, cr, cz, zs, rfl, hall, (HKE.out.below HB3.out).below HB4.out, HBF.out, (HRZ.out.below HB4.out).here1, ?_⟩
  intro v hv
  obtain ⟨A, c, e, hrd⟩ := HZ.out v hv
  exact ⟨A, c, e, (hrd.below HB4.out).here1⟩
end Go.Proofs.YtacmgogobjpmcaaGreat
