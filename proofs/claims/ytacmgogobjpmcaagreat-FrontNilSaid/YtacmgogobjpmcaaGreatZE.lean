/- Contracts: the program's wname Name of one label; Num, Raw by how many bytes. -/
import Derived.Test.YtacmgogobjpmcaaGreatZD
import Derived.StillTailTactics
import Derived.StringKeys
namespace Go.Proofs.YtacmgogobjpmcaaGreat
open Go.RowKit Go.Maps

/-- a writer of at most n bytes -/
structure PWl (w : World) (B g n : Nat) (mv : Value) : Prop where
  mk :: (out : ∃ bs : List UInt8, bs.length ≤ n ∧ PWr w B g bs mv)
theorem PWl.below {w w' : World} {B g n : Nat} {mv : Value} (h : PWl w B g n mv) (hb : Below w.heap.size w w') : PWl w' B g n mv := by
  obtain ⟨bs, h1, h2⟩ := h
  exact ⟨bs, h1, h2.below hb⟩
theorem PWl.more {w : World} {B g n n' : Nat} {mv : Value} (h : PWl w B g n mv) (hn : n ≤ n') : PWl w B g n' mv := by
  obtain ⟨bs, h1, h2⟩ := h
  exact ⟨bs, by omega, h2⟩
theorem PWl.drew {w : World} {B g n : Nat} {mv : Value} (h : PWl w B g n mv) : PWl w.drew B g n mv := h.below (Below.refl _ _).drew
theorem PWl.map {w w' : World} {B g n b : Nat} {mv : Value} (h : PWl w B g n mv) (hg : w.grownBy w' (some b)) (hb : b < B) : PWl w' B g n mv := by
  obtain ⟨bs, h1, A, c, k1, k2, k3⟩ := h
  refine ⟨bs, h1, A, c, k1.grown hg (by intro e; injection e with e; omega), k2, k3.kept hg ?_⟩
  right
  intro e
  have := (k3.lt _ e).1
  omega
theorem PWl.lt {w : World} {B g n : Nat} {mv : Value} (h : PWl w B g n mv) : g < w.heap.size ∧ B ≤ g := by
  obtain ⟨bs, h1, A, c, k1, k2, k3⟩ := h
  exact ⟨k1.lt, k2⟩

theorem pNumL_any (B g n : Nat) (mv : Value) (v : Int) (size : Nat) (w : World) (h : PWl w B g n mv) (hm : n + size ≤ 1000000) :
    Calls Tryz.prog 233 #[.pointer (some ⟨g, 0, none⟩), .int .i64 v, .int .i64 size] w fun e w' => e = .returned (.tuple #[]) ∧ PWl w' B g (n + size) mv ∧ Below B w w' ∧ WFr g w w' := by
  obtain ⟨bs, h1, h2⟩ := h
  refine (pNum_any B g bs mv v size w h2 (by omega)).mono ?_
  rintro e w1 ⟨rfl, h3, hb, hf⟩
  exact ⟨rfl, ⟨_, by have := putB_le v size; rw [List.length_append]; omega, h3⟩, hb, hf⟩
theorem pRawL_any (B g n : Nat) (mv : Value) (A : Option Addr) (m c : Nat) (xs : List UInt8) (w : World) (h : PWl w B g n mv) (hx : Rd w w.heap.size 1 A m (bys xs)) (hm : n + m ≤ 1000000) :
    Calls Tryz.prog 288 #[.pointer (some ⟨g, 0, none⟩), .slice A m c] w fun e w' => e = .returned (.tuple #[]) ∧ PWl w' B g (n + m) mv ∧ Below B w w' ∧ WFr g w w' := by
  obtain ⟨bs, h1, h2⟩ := h
  refine (pRaw_any B g bs mv A m c xs w h2 hx (by omega)).mono ?_
  rintro e w1 ⟨rfl, h3, hb, hf⟩
  exact ⟨rfl, ⟨_, by have := hx.byLen; rw [List.length_append]; omega, h3⟩, hb, hf⟩

set_option maxHeartbeats 2000000 in
set_option maxRecDepth 40000 in
theorem pName1_any (B g b gn cn n : Nat) (s : ByteArray) (hs : s.size = 7) (hsd : soundB [s] = true) (w : World) (h : PWl w B g n (.map (some b))) (hb : w.heap[b]? = some (.map #[] 0)) (hbB : b < B) (hn : w.cell? ⟨gn, 0, none⟩ = some (.string s)) (hnB : gn < b) (hm : n ≤ 1000) :
    Calls Tryz.prog 235 #[.pointer (some ⟨g, 0, none⟩), .slice (some ⟨gn, 0, none⟩) 1 cn, .bool true] w fun e w' => e = .returned (.int .i64 0) ∧ PWl w' B g (n + 9) (.map (some b)) ∧ Below b w w' ∧ WFr g w w' := by
  have H := Lib.hid h
  have hlt : b < w.heap.size := (Array.getElem?_eq_some_iff.1 hb).1
  have hsn := NameSound_any (some ⟨gn, 0, none⟩) 1 cn [s] w (rd1 hn (by omega))
  rw [hsd] at hsn
  have HSN := Lib.hid hsn
  clear h hsn
  go_enter Tryz.func235, Tryz.ntmps235
  go_wp2_with fail
  refine HSN.out.mono ?_
  rintro e w1 ⟨rfl, rfl⟩
  go_simp
  go_wp2_with fail
  refine wp_loop_rounds 2 ?_
  rw [rounds_succ]
  go_wp2_with fail
  refine (wRest1_any gn cn s hs w hn).mono ?_
  rintro e w1 ⟨hq, hb1⟩
  obtain ⟨r, rfl, hrs⟩ := hq.out
  have hmap := (hb1.block b hlt).trans hb
  have h1 := H.out.below hb1
  have hn1 := (World.cell?_of_block (hb1.block gn (by omega))).trans hn
  have H1 := Lib.hid h1
  obtain ⟨bs, hln, A, c, k1, k2, k3⟩ := h1
  have c0 := k1.cell 0
  have c1 := k1.cell 1
  have hkey : keyOf Tryz.prog 9 (.string r) = some (.string r.data.toList) := WideMaps.keyOf_string_mk Tryz.underlying9 (by unfold maxLen; omega)
  have HM := Lib.hid hmap; have HK := Lib.hid k1; have HB1 := Lib.hid hb1; have HO := Lib.hid k3
  clear hmap k1 k3 hb1 hq
  have hmiss : Maps.has (.map [] : DataW Unit) (.string r.data.toList) = false := rfl
  have h16 : ((bs.length : Int) < 16384) = True := by simp; omega
  go_simp
  go_wp2_with (first
    | (at_lookup; refine wpList_lookup_own_ok_int _ rfl _ _ 387 rfl 9 3 .i64 skey Tryz.underlying387 Tryz.underlying3 (zint _) b 0 (.map [] : DataW Unit) rfl (map0 HM.out) _ _ rfl hkey ?_
       intro cc hat hwc
       rw [hmiss]
       clear hat hwc))
  go_still_tail 10, (by kernel_rfl)
  obtain ⟨w2, hw2⟩ : ∃ W, W = w1.drew := ⟨_, rfl⟩
  change wpList _ _ _ _ _ w1.drew
  rw [← hw2]
  have hmap2 : w2.ownsMap (H := Unit) Tryz.prog 9 (plainElem Tryz.prog 3) b 0 (.map []) := by rw [hw2]; exact map0 (w := w1.drew) HM.out
  have h2 : PWl w2 B g n (.map (some b)) := by rw [hw2]; exact H1.out.drew
  have hb2 : Below w.heap.size w w2 := by rw [hw2]; exact HB1.out.drew
  have hn2 : w2.cell? ⟨gn, 0, none⟩ = some (.string s) := by rw [hw2]; exact hn1
  have hmb2 : Hid (w2.heap[b]? = some (.map #[] 0)) := Lib.hid (by rw [hw2]; exact HM.out)
  have HM2 := Lib.hid hmap2; have H2 := Lib.hid h2; have HB2 := Lib.hid hb2
  clear hmap2 h2 hb2 hw2 hn1 c0 c1
  go_wp2_with (at_mapUpdate; refine wpList_mapUpdate_own _ rfl _ _ _ 387 rfl 9 3 skey Tryz.underlying387 _ b 0 _ rfl HM2.out (by unfold maxLen; omega) _ _ _ rfl rfl hkey _ [] (plainElem_int Tryz.underlying3 (by exact WalkArith.wf_i64 (by omega))) ?_; intro w3 hown3 hg3)
  have h3 := H2.out.map hg3 hbB
  have hb3 : Below b w w3 := (HB2.out.mono (Nat.le_of_lt hlt)).grown hg3 (by have := HB2.out.size; omega) (by intro k hk; injection hk with hk; omega)
  have hf3 : WFr g w w3 := ((WFr.refl g w).below HB2.out).trans ⟨fun k t cs hk _ _ => hk.grown hg3 (by intro e; injection e with e; subst e; have h := hmb2.out; unfold Blk at hk; rw [hk] at h; cases h)⟩
  have H3 := Lib.hid h3; have HB3 := Lib.hid hb3; have HF3 := Lib.hid hf3
  clear h3 hb3 hf3 hown3 hg3 hn2
  refine (pNumL_any B g n _ 7 1 w3 H3.out (by omega)).mono ?_
  rintro e w4 ⟨rfl, h4, hb4, hf4⟩
  have H4 := Lib.hid h4; have HB4 := Lib.hid (HB3.out.trans (hb4.mono (Nat.le_of_lt hbB))); have HF4 := Lib.hid (HF3.out.trans hf4)
  clear h4 hb4 hf4
  obtain ⟨A5, c5, w5, hcv, hr5, hb5⟩ := conv_bytes s w4 (by unfold maxLen; omega)
  have hlt4 : b < w4.heap.size := by have := HB4.out.size; omega
  have H5 := Lib.hid (H4.out.below hb5); have HR5 := Lib.hid hr5; have HB5 := Lib.hid (HB4.out.trans (hb5.mono (Nat.le_of_lt hlt4))); have HF5 := Lib.hid (HF4.out.below hb5)
  clear hr5 hb5
  go_simp
  go_wp2_with fail
  rw [hs] at HR5
  refine (pRawL_any B g (n + 1) _ A5 7 c5 s.data.toList w5 H5.out HR5.out (by omega)).mono ?_
  rintro e w6 ⟨rfl, h6, hb6, hf6⟩
  have H6 := Lib.hid h6; have HB6 := Lib.hid (HB5.out.trans (hb6.mono (Nat.le_of_lt hbB))); have HF6 := Lib.hid (HF5.out.trans hf6)
  clear h6 hb6 hf6 hcv
  go_simp
  go_wp2_with fail
  rw [rounds_succ]
  go_wp2_with fail
  refine (pNumL_any B g _ _ 0 1 w6 H6.out (by omega)).mono ?_
  rintro e w7 ⟨rfl, h7, hb7, hf7⟩
  have H7 := Lib.hid h7; have HB7 := Lib.hid (HB6.out.trans (hb7.mono (Nat.le_of_lt hbB))); have HF7 := Lib.hid (HF6.out.trans hf7)
  clear h7 hb7 hf7
  go_simp
  go_wp2_with fail
  go_ret
  exact ⟨rfl, H7.out, HB7.out, HF7.out⟩
end Go.Proofs.YtacmgogobjpmcaaGreat
