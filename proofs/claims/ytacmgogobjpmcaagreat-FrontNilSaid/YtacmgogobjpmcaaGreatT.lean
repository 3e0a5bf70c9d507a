/- Contracts: the program's msg reader on the small question's bytes. -/
import Derived.Test.YtacmgogobjpmcaaGreatS
namespace Go.Proofs.YtacmgogobjpmcaaGreat
open Go.RowKit

theorem two_cells' {w : World} {g : Nat} {t : TypeId} {a b : Value} (h : Blk w g t #[a, b]) : w.cell? ⟨g, 0, none⟩ = some a ∧ w.cell? ⟨g, 1, none⟩ = some b :=
  ⟨h.cell 0, h.cell 1⟩
theorem Fr.drewN' {w w' : World} {n : Nat} {B : Nat} {S : List Nat} (h : Fr B S (w.drewN n) w') : Fr B S w w' := ⟨h.os, h.tape, h.output, h.size, h.block⟩

/-- a reader at block r, over bytes bs, at a place -/
structure RdrAt (r n c : Nat) (A : Option Addr) (bs : List UInt8) (at_ : Nat) (w : World) : Prop where
  blk : Blk w r 267 #[.slice A n c, .int .i64 at_]
  rd : Rd w r 1 A n (bys bs)
  cap : n ≤ c
theorem RdrAt.fr {r n c at_ B : Nat} {A : Option Addr} {bs : List UInt8} {w w' : World} {S : List Nat} (h : RdrAt r n c A bs at_ w) (hf : Fr B S w w') (hB : r < B) (hs : ∀ k ∈ S, r < k) : RdrAt r n c A bs at_ w' :=
  ⟨h.blk.fr hf hB (fun hm => by have := hs r hm; omega), h.rd.fr hf (by omega) (fun k hk => by have := hs k hk; omega), h.cap⟩

set_option maxHeartbeats 1000000 in
set_option maxRecDepth 40000 in
theorem rdrNum_any (r n c : Nat) (A : Option Addr) (bs : List UInt8) (k : Nat) (w : World) (h : RdrAt r n c A bs k w) (hk : k + 2 ≤ n) :
    Calls Tryz.prog 237 #[.pointer (some ⟨r, 0, none⟩)] w fun e w' => e = .returned (.int .i64 (beN ((bs.drop k).take 2))) ∧ RdrAt r n c A bs (k + 2) w' ∧ Fr w.heap.size [r] w w' := by
  have hmx := h.rd.max; unfold maxLen at hmx
  have c0 := h.blk.cell 0
  have c1 := h.blk.cell 1
  have f1 := h.blk.frozen 1
  have hlt := h.blk.lt
  have H := Lib.hid h
  clear h
  go_enter Tryz.func237, Tryz.ntmps237
  go_wp2_with fail
  go_region_held3 (fun w' => w'.cell? ⟨r, 0, none⟩ = some (.slice A n c) ∧ w'.cell? ⟨r, 1, none⟩ = some (.int .i64 k)) (first | exact two_cells' H.out.blk | exact two_cells' H.out.blk.drew)
    (first | (go_at_call 73; refine (numGet_any A n c bs w.drew (H.out.rd.more (Nat.le_of_lt H.out.blk.lt)).drew H.out.cap k 2 (by omega) (by omega) hk).mono ?_; rintro e w9 ⟨rfl, rfl⟩))
  go_wp2_with fail
  go_ret
  refine ⟨rfl, ⟨?_, ?_, H.out.cap⟩, ?_⟩
  · have := (H.out.blk.set_ 1 (.int .i64 (k + 2 : Nat))).drew
    simpa using this
  · exact (H.out.rd.setCell (p := ⟨r, 1, none⟩) (Nat.le_refl _) _).drew
  · exact ((Fr.refl w.heap.size [r] w).setCell (p := ⟨r, 1, none⟩) (.inr (List.mem_singleton.2 rfl)) _).drew

theorem ask_21 (s : ByteArray) (hs : s.size = 7) : beN (((askBytes s).drop 21).take 2) = 1 ∧ beN (((askBytes s).drop 23).take 2) = 1 := by
  have hl : s.data.toList.length = 7 := by simpa using hs
  have h1 : (askBytes s).drop 21 = [0, 1, 0, 1] := by
    unfold askBytes
    simp [List.drop_append, hl]
  have h2 : (askBytes s).drop 23 = [0, 1] := by
    unfold askBytes
    simp [List.drop_append, hl]
  rw [h1, h2]; exact ⟨rfl, rfl⟩

set_option maxHeartbeats 1000000 in
set_option maxRecDepth 40000 in
theorem rdrQuestion_any (r c : Nat) (A : Option Addr) (s : ByteArray) (hs : s.size = 7) (w : World) (h : RdrAt r 25 c A (askBytes s) 12 w) :
    Calls Tryz.prog 238 #[.pointer (some ⟨r, 0, none⟩)] w fun e w' => Hid (∃ A' c', e = .returned (.agg #[.slice A' 1 c', .int .i64 1, .int .i64 1]) ∧ w'.ownsRow w.heap.size 9 1 (.slice A' 1 c') 1 [.string s] ∧
      RdrAt r 25 c A (askBytes s) 25 w' ∧ Fr w.heap.size [r] w w') := by
  have hq := ask_21 s hs
  obtain ⟨q1, q2⟩ := hq
  have hlt := h.blk.lt
  obtain ⟨w0, hw0⟩ : ∃ W, W = w.alloc (.cells #[.slice none 0 0, .int .i64 0, .int .i64 0] 24) := ⟨_, rfl⟩
  have hb0 : Below w.heap.size w w0 := by rw [hw0]; exact (Below.refl _ _).alloc (Nat.le_refl _) _
  have h0 := h.fr (Fr.of_below (S := []) hb0) hlt (by simp)
  have hs0 : w0.heap.size = w.heap.size + 1 := by rw [hw0]; simp
  have hq0 : Blk w0 w.heap.size 24 #[.slice none 0 0, .int .i64 0, .int .i64 0] := by rw [hw0]; exact Blk.new _ _ _
  have c0 := h0.blk.cell 0
  have c1 := h0.blk.cell 1
  have H0 := Lib.hid h0; have HQ0 := Lib.hid hq0; have HB0 := Lib.hid hb0
  clear h h0 hq0 hb0
  go_enter Tryz.func238, Tryz.ntmps238
  go_wp2_with fail
  rw [← hw0]
  clear hw0
  go_region_held3 (fun w' => w'.cell? ⟨r, 0, none⟩ = some (.slice A 25 c) ∧ w'.cell? ⟨r, 1, none⟩ = some (.int .i64 12)) (first | exact two_cells' H0.out.blk | exact two_cells' H0.out.blk.drew | exact two_cells' H1.out.blk)
    (first
     | (go_at_call 287; refine (wGetAsk_any A c s hs w0.drew (H0.out.rd.more (Nat.le_of_lt H0.out.blk.lt)).drew H0.out.cap).mono ?_
        rintro e w1 hr
        obtain ⟨A', c', rfl, hcc, ho1, hb1⟩ := hr.out
        have hf1 : Fr w0.heap.size [r] w0 w1 := ((Fr.refl _ _ w0).drew).below hb1
        have h1 := H0.out.fr (Fr.of_below (S := []) (((Below.refl _ w0).drew).trans hb1)) H0.out.blk.lt (by simp)
        have k0 := h1.blk.cell 0
        have k1 := h1.blk.cell 1
        have f1 := h1.blk.frozen 1
        have HF1 := Lib.hid hf1; have H1 := Lib.hid h1; have HO1 := Lib.hid ho1; have HQ1 := Lib.hid (HQ0.out.fr hf1 (by omega) (by simp; omega)); have HC1 := Lib.hid hcc
        clear hr ho1 hb1 hf1 h1 hcc))
  go_wp2_with fail
  obtain ⟨w2, hw2⟩ : ∃ W, W = w1.setCell ⟨r, 1, none⟩ (.int .i64 21) := ⟨_, rfl⟩
  rw [← hw2]
  have hf2 : Fr w0.heap.size [r] w0 w2 := by rw [hw2]; exact HF1.out.setCell (p := ⟨r, 1, none⟩) (.inr (List.mem_singleton.2 rfl)) _
  have h2 : RdrAt r 25 c A (askBytes s) 21 w2 := by rw [hw2]; exact ⟨by simpa using H1.out.blk.set_ 1 (.int .i64 21), H1.out.rd.setCell (p := ⟨r, 1, none⟩) (Nat.le_refl _) _, H1.out.cap⟩
  have ho2 := own_set HO1.out (own_blk_ne HO1.out H1.out.blk (by decide)) (p := ⟨r, 1, none⟩) (.int .i64 21)
  rw [← hw2] at ho2
  have HF2 := Lib.hid hf2; have H2 := Lib.hid h2; have HO2 := Lib.hid ho2
  clear hw2 hf2 h2 ho2 k0 k1 f1
  have hn := rdrNum_any r 25 c A (askBytes s) 21 w2 H2.out (by omega)
  rw [q1] at hn
  refine hn.mono ?_
  clear hn
  rintro e w3 ⟨rfl, h3, hf3⟩
  have H3 := Lib.hid h3
  have HF3 := Lib.hid (HF2.out.trans (hf3.mono HF2.out.size (by intro k _ hk; exact hk)))
  have ho3 : w3.ownsRow w0.heap.size 9 1 (.slice A' 1 c') 1 [.string s] := HO2.out.kept (row := some r) ⟨hf3.os, hf3.tape, hf3.output, hf3.size, fun k hk hne => hf3.block k hk (by simp; intro e; exact hne (by rw [e]))⟩ (own_blk_ne HO2.out H2.out.blk (by decide))
  have HO3 := Lib.hid ho3
  clear h3 hf3 ho3
  go_wp2_with fail
  have HS : Hid (w.heap.size + 1 ≤ w3.heap.size) := Lib.hid (by have := HF3.out.size; omega)
  obtain ⟨w4, hw4⟩ : ∃ W, W = w3.alloc (.cells #[.slice A' 1 c', .int .i64 1, .int .i64 0] 24) := ⟨_, rfl⟩
  rw [← hw4]
  have hb4 : Below w3.heap.size w3 w4 := by rw [hw4]; exact (Below.refl _ _).alloc (Nat.le_refl _) _
  have hs4 : w4.heap.size = w3.heap.size + 1 := by rw [hw4]; simp
  have h4 := H3.out.fr (Fr.of_below (S := []) hb4) H3.out.blk.lt (by simp)
  have hp4 : Blk w4 w3.heap.size 24 #[.slice A' 1 c', .int .i64 1, .int .i64 0] := by rw [hw4]; exact Blk.new _ _ _
  have H4 := Lib.hid h4; have HO4 := Lib.hid (own_below HO3.out hb4); have HP4 := Lib.hid hp4
  have HF4 := Lib.hid (HF3.out.trans (Fr.of_below (S := [r]) (hb4.mono (show w0.heap.size ≤ w3.heap.size by have := HS.out; omega))))
  clear hw4 hb4 h4 hp4
  have hn := rdrNum_any r 25 c A (askBytes s) 23 w4 H4.out (by omega)
  rw [q2] at hn
  refine hn.mono ?_
  clear hn
  rintro e w5 ⟨rfl, h5, hf5⟩
  have H5 := Lib.hid h5
  have hrp : r < w3.heap.size := by have := HS.out; omega
  have hp5 := HP4.out.fr hf5 (by omega) (by simp; omega)
  have HF5 := Lib.hid (HF4.out.trans (hf5.mono HF4.out.size (by intro k _ hk; exact hk)))
  have hq5 := HQ0.out.fr HF5.out (by omega) (by simp; omega)
  have ho5 : w5.ownsRow w0.heap.size 9 1 (.slice A' 1 c') 1 [.string s] := HO4.out.kept (row := some r) ⟨hf5.os, hf5.tape, hf5.output, hf5.size, fun k hk hne => hf5.block k hk (by simp; intro e; exact hne (by rw [e]))⟩ (own_blk_ne HO4.out H4.out.blk (by decide))
  have p0 := hp5.cell 0; have p1 := hp5.cell 1; have p2 := hp5.cell 2; have pf := hp5.frozen 2
  have z0 := hq5.cell 0; have z1 := hq5.cell 1; have z2 := hq5.cell 2; have zf0 := hq5.frozen 0; have zf1 := hq5.frozen 1; have zf2 := hq5.frozen 2
  have HO5 := Lib.hid ho5; have HP5 := Lib.hid hp5; have HQ5 := Lib.hid hq5
  have hss := HS.out
  have hne : ¬ (w.heap.size = w3.heap.size) := by omega
  have hne' : ¬ (w3.heap.size = w.heap.size) := by omega
  clear h5 hf5 ho5 hp5 hq5 c0 c1
  go_wp2_with fail
  refine bodyPost_ret (v := .agg #[.slice A' 1 c', .int .i64 1, .int .i64 1]) (by simp [results, Tryz.results238, go_sem, z0, z1, z2, p0, p1, p2, hne, hne']) rfl ?_
  have np := own_blk_ne HO5.out HP5.out (by decide)
  have nq := own_blk_ne HO5.out HQ5.out (by decide)
  have hff := (Fr.of_below (S := [r]) HB0.out).trans (HF5.out.mono (show w.heap.size ≤ w0.heap.size by omega) (by intro k _ hk; exact hk))
  refine Lib.hid ⟨A', c', rfl, ?_, ?_, ?_⟩
  · refine own_base (own_set (own_set (own_set (own_set HO5.out (p := ⟨w3.heap.size, 2, none⟩) np _) (p := ⟨w.heap.size, 0, none⟩) nq _) (p := ⟨w.heap.size, 1, none⟩) nq _) (p := ⟨w.heap.size, 2, none⟩) nq _) (by omega)
  · refine H5.out.fr (B := w.heap.size) (S := []) ((((Fr.refl _ _ w5).setCell (p := ⟨w3.heap.size, 2, none⟩) (.inl (by simp; omega)) _).setCell (p := ⟨w.heap.size, 0, none⟩) (.inl (Nat.le_refl _)) _).setCell (p := ⟨w.heap.size, 1, none⟩) (.inl (Nat.le_refl _)) _ |>.setCell (p := ⟨w.heap.size, 2, none⟩) (.inl (Nat.le_refl _)) _) hlt (by simp)
  · exact (((hff.setCell (p := ⟨w3.heap.size, 2, none⟩) (.inl (by simp; omega)) _).setCell (p := ⟨w.heap.size, 0, none⟩) (.inl (Nat.le_refl _)) _).setCell (p := ⟨w.heap.size, 1, none⟩) (.inl (Nat.le_refl _)) _).setCell (p := ⟨w.heap.size, 2, none⟩) (.inl (Nat.le_refl _)) _
end Go.Proofs.YtacmgogobjpmcaaGreat
