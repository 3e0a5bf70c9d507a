/- Contracts: a sector of a new device is opened (package sector); the two places for a block (package super). -/
import Derived.Test.YtacmgogobjpmcaaGreatE
import Derived.Test.YtacmgogobjpmcaaGreatC
namespace Go.Proofs.YtacmgogobjpmcaaGreat
open Go.RowKit

theorem repl_set (n k : Nat) (x : Value) : (List.replicate n x).toArray.setIfInBounds k x = (List.replicate n x).toArray := by
  apply Array.ext'; simp
theorem beN_zeros (m at_ k : Nat) : beN (((zeros m).drop at_).take k) = 0 := by
  have : ((zeros m).drop at_).take k = zeros (min k (m - at_)) := by
    unfold zeros; rw [List.drop_replicate, List.take_replicate]
  rw [this]
  generalize min k (m - at_) = j
  induction j with
  | zero => rfl
  | succ j ih =>
    unfold zeros at ih ⊢
    rw [List.replicate_succ']
    unfold beN at ih ⊢
    rw [List.foldl_append, ih]; rfl

theorem bytesClone_any (A : Option Addr) (n c : Nat) (xs : List Value) (w : World) (h : Rd w w.heap.size 1 A n xs) (h1 : ∀ u ∈ xs, u.oneCell' = true) (hn : n ≤ 140737488355328) :
    Calls Tryz.prog 74 #[.slice A n c] w fun e w' => ∃ v, e = .returned v ∧ Cloned 5 n A xs w v w' := by
  have qT : ∀ (w : World) (a : Option Addr) (n c n' c' : Nat), (binOp .eql 30 (.slice a n c) (.slice none n' c')).run Tryz.prog w = .ok (.bool a.isNone) w := fun w a n c n' c' => Lib.run_eql_slice_nil w _ _ a n c n' c' Tryz.underlying30
  rcases A with _ | ad
  · have hz : n = 0 := by
      rcases Nat.eq_zero_or_pos n with h0 | h0
      · exact h0
      · obtain ⟨_, e, _⟩ := h.cells h0; cases e
    subst hz
    obtain rfl : xs = [] := List.eq_nil_of_length_eq_zero (by simpa using h.len)
    go_enter Tryz.func74, Tryz.ntmps74
    go_wp2
    go_ret
    exact ⟨_, rfl, World.ownsRow_nil _ _ _ _, Below.refl _ _, fun _ => rfl⟩
  · go_enter Tryz.func74, Tryz.ntmps74
    go_wp2_with (at_builtin; refine wpList_app rfl (.tmp 5) (.tmp 6) _ rfl w.heap.size _ _ 1 1 Tryz.underlying30 u8_info rfl (by decide) (.slice (some ⟨w.heap.size, 0, none⟩) 0 0) 0 [] rfl (own_empty w _ 1) w.heap.size (some ad) n c xs rfl (h.below ((Below.refl _ _).alloc (Nat.le_refl _) _)) h1 (by unfold maxLen; omega) (by omega) (by simp) ?_; intro v' w' hown hg hat)
    go_ret
    exact ⟨v', rfl, by simpa using hown, ((Below.refl _ _).alloc (Nat.le_refl _) _).grown hg (by simp) (by intro k hk; simp [Value.ownBlock] at hk; omega), fun e => by cases e⟩

set_option maxHeartbeats 400000 in
set_option maxRecDepth 20000 in
theorem sectorOpen_zero (A : Option Addr) (c : Nat) (w : World) (hr : Rd w w.heap.size 1 A 512 (bys (zeros 512))) (hc : 512 ≤ c) :
    Calls Tryz.prog 227 #[.slice A 512 c] w fun e w' => e = .returned (.tuple #[.agg #[.int .i64 0, .int .i64 0, .int .i64 0, .int .i64 0, .int .i64 0], .slice none 0 0, .int .i64 14]) ∧ Below w.heap.size w w' := by
  obtain ⟨ad, rfl, _, _⟩ := hr.cells (by omega)
  go_enter Tryz.func227, Tryz.ntmps227
  go_wp2_with fail
  refine (sizes_any _).mono ?_; rintro e w' ⟨rfl, rfl⟩
  go_wp2
  obtain ⟨W, hW⟩ : ∃ W, W = ((w.alloc (.cells #[.int .i64 0, .int .i64 0, .int .i64 0, .int .i64 0, .int .i64 0] 253)).alloc (.cells #[.int .i64 0, .int .i64 0, .int .i64 0, .int .i64 0, .int .i64 0, .int .i64 0] 384)).alloc (.cells (intsV szs).toArray 3) := ⟨_, rfl⟩
  rw [← hW]
  have hb0 : Blk W w.heap.size 253 #[.int .i64 0, .int .i64 0, .int .i64 0, .int .i64 0, .int .i64 0] := by rw [hW]; exact ((Blk.new _ _ _).alloc _).alloc _
  have hb1 : Blk W (w.heap.size + 1) 384 (List.replicate 6 (Value.int .i64 0)).toArray := by rw [hW]; exact (Blk.new' _ _ _ (by simp)).alloc _
  have hb2 : Blk W (w.heap.size + 2) 3 (intsV szs).toArray := by rw [hW]; exact Blk.new' _ _ _ (by simp)
  have hbel : Below w.heap.size w W := by rw [hW]; exact (((Below.refl _ _).alloc (Nat.le_refl _) _).alloc (by simp) _).alloc (by simp; omega) _
  have hWs : W.heap.size = w.heap.size + 3 := by rw [hW]; simp
  have HW := Lib.hid hW; clear hW
  go_loopw [6, 7, 8, 16] (fun a _ _ i wr => ∃ k : Nat, k ≤ 6 ∧ i = .int .i64 k ∧ a = .int .i64 (((szN.take k).sum : Nat) : Int) ∧ Hid (Fr W.heap.size [w.heap.size + 1] W wr ∧ Blk wr (w.heap.size + 1) 384 (List.replicate 6 (Value.int .i64 0)).toArray)) (fun _ _ _ i _ => 6 - (intOf i).toNat)
  case atStart => exact ⟨0, by omega, rfl, rfl, Fr.refl _ _ _, hb1⟩
  case round =>
    obtain ⟨k, hk, rfl, rfl, hq⟩ := hrel
    obtain ⟨hf, hbk⟩ := hq.out
    have hr' : Rd wr w.heap.size 1 (some ad) 512 (bys (zeros 512)) := (hr.below hbel).fr hf (by omega) (by intro k hk; simp at hk; omega)
    by_cases hlt : k < 6
    · have hb2' := hb2.fr hf (by omega) (by simp)
      have hs2 := Rd.of_blk (n := 6) hb2' rfl (by unfold maxLen; omega)
      obtain ⟨ad2, y, e1, _, hy, hc2⟩ := intsV_at hs2 (show k < 6 by omega)
      injection e1 with e1; subst e1
      rw [add0] at hc2
      obtain ⟨yn, hyn, hy7, hsum⟩ := szs_N hy
      subst hyn
      have hle := szN_le (k + 1)
      have hle0 := szN_le k
      have hy1 : 1 ≤ yn := by
        rcases k with _|_|_|_|_|_|k <;> simp [szs] at hy <;> omega
      have hg := numGet_any (some ad) 512 c (zeros 512) wr hr'.here1 hc (szN.take k).sum yn hy1 hy7 (by omega)
      rw [beN_zeros] at hg
      have ck : wr.cell? ⟨w.heap.size + 1, k, none⟩ = some (.int .i64 0) := by
        rw [hbk.cell, List.getElem?_toArray, List.getElem?_replicate, if_pos hlt]
      have fk := hbk.frozen k
      have hset : (List.replicate 6 (Value.int .i64 0)).toArray.setIfInBounds k (Value.int .i64 0) = (List.replicate 6 (Value.int .i64 0)).toArray := repl_set 6 k _
      have hbk' := hbk.set_ k (.int .i64 0)
      rw [hset] at hbk'
      have HG := Lib.hid hg; have HF := Lib.hid hf; have HB := Lib.hid hbk'; have HS := Lib.hid hsum
      clear hg hf hbk hbk' hsum hs2 hb2' hy hq hset hr'
      go_wp2_with (refine HG.out.mono ?_; rintro e w' ⟨rfl, rfl⟩)
      go_roundw
      case rel => exact ⟨k + 1, by omega, by go_num, by rw [HS.out]; go_num, HF.out.setCell (.inr (by simp)) _, HB.out⟩
      case measure => simp [intOf]; omega
    · have a0 := hbk.cell 0; have a1 := hbk.cell 1; have a2 := hbk.cell 2; have a3 := hbk.cell 3; have a4 := hbk.cell 4; have a5 := hbk.cell 5
      have hh := hb0.fr hf (by omega) (by simp)
      have b0 := hh.cell 0; have b1 := hh.cell 1; have b2 := hh.cell 2; have b3 := hh.cell 3; have b4 := hh.cell 4
      have f0 := hh.frozen 0; have f1 := hh.frozen 1; have f2 := hh.frozen 2; have f3 := hh.frozen 3; have f4 := hh.frozen 4
      have HF := Lib.hid hf; have HB := Lib.hid hbk; have HH := Lib.hid hh; have HR := Lib.hid hr'
      clear hf hbk hh hr' hq
      go_wp2_with fail
      obtain ⟨W2, hW2⟩ : ∃ W2, W2 = ((((wr.setCell ⟨w.heap.size, 0, none⟩ (.int .i64 0)).setCell ⟨w.heap.size, 1, none⟩ (.int .i64 0)).setCell ⟨w.heap.size, 2, none⟩ (.int .i64 0)).setCell ⟨w.heap.size, 3, none⟩ (.int .i64 0)).setCell ⟨w.heap.size, 4, none⟩ (.int .i64 0) := ⟨_, rfl⟩
      rw [← hW2]
      have hh2 : Blk W2 w.heap.size 253 #[.int .i64 0, .int .i64 0, .int .i64 0, .int .i64 0, .int .i64 0] := by
        rw [hW2]
        have := ((((HH.out.set_ 0 (.int .i64 0)).set_ 1 (.int .i64 0)).set_ 2 (.int .i64 0)).set_ 3 (.int .i64 0)).set_ 4 (.int .i64 0)
        simpa using this
      have hf2 : Below w.heap.size wr W2 := by
        rw [hW2]
        iterate 5 (refine Below.setCell ?_ (by exact Nat.le_refl _) _)
        exact Below.refl _ _
      have hs2 : W2.heap.size = wr.heap.size := by rw [hW2]; simp [World.setCell]
      clear hW2 a0 a1 a2 a3 a4 a5 b0 b1 b2 b3 b4 f0 f1 f2 f3 f4
      refine (bytesClone_any _ 0 _ [] W2 Rd.nil (by simp) (by omega)).mono ?_
      rintro e w3 ⟨v3, rfl, hv3⟩
      obtain ⟨A3, c3, rfl⟩ := own_slice hv3.own
      have hb3 := hv3.below
      have hh3 := hh2.below hb3 hh2.lt
      have b0 := hh3.cell 0; have b1 := hh3.cell 1; have b2 := hh3.cell 2; have b3 := hh3.cell 3; have b4 := hh3.cell 4
      have hsl := seal_zero 0 0 0 0 (by
        intro k x y hx hy
        rcases k with _|_|_|_|_|k <;> simp [szs] at hx hy <;> subst hx <;> subst hy <;> decide) A3 0 c3 w3
      have HS := Lib.hid hsl; have HB3 := Lib.hid hb3; have HH3 := Lib.hid hh3; have HF2 := Lib.hid hf2; have HS2 := Lib.hid hs2; have HH2 := Lib.hid hh2
      clear hsl hb3 hh3 hf2 hs2 hh2 hv3
      go_wp2_with fail
      refine HS.out.mono ?_
      rintro e w4 ⟨rfl, hb4⟩
      have hh4 := HH3.out.below hb4 HH3.out.lt
      have d0 := hh4.cell 0; have d1 := hh4.cell 1; have d2 := hh4.cell 2; have d3 := hh4.cell 3; have d4 := hh4.cell 4
      have f0 := hh4.frozen 0; have f1 := hh4.frozen 1; have f2 := hh4.frozen 2; have f3 := hh4.frozen 3; have f4 := hh4.frozen 4
      have HB4 := Lib.hid hb4; have HH4 := Lib.hid hh4; clear hb4 hh4 b0 b1 b2 b3 b4
      go_wp2
      refine bodyPost_ret (v := .tuple #[.agg #[.int .i64 0, .int .i64 0, .int .i64 0, .int .i64 0, .int .i64 0], .slice none 0 0, .int .i64 14]) (by simp [results, Tryz.results227, go_sem, d0, d1, d2, d3, d4]) rfl ⟨rfl, ?_⟩
      have e2 := HS2.out
      have e1 := HF.out.size
      have e3 := HB3.out.size
      have hall : Below w.heap.size w w4 := (((hbel.trans ((HF.out.mono (S' := []) (by omega) (by intro k hk hm; simp at hm; omega)).to_below (by simp))).trans HF2.out).trans (HB3.out.mono (by omega))).trans (HB4.out.mono (by omega))
      iterate 5 (refine Below.setCell ?_ (by exact Nat.le_refl _) _)
      exact hall
end Go.Proofs.YtacmgogobjpmcaaGreat
