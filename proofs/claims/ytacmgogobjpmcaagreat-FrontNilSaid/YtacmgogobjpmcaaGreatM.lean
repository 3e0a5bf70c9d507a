/- Contracts: the references' numbers (ref01), the references' writer (ref03). -/
import Derived.Test.YtacmgogobjpmcaaGreatD
namespace Go.Proofs.YtacmgogobjpmcaaGreat
open Go.RowKit

theorem pow_step (n : Int) (j : Nat) : n / 2 ^ (8 * j) / 256 = n / 2 ^ (8 * (j + 1)) := by
  rw [Int.ediv_ediv_of_nonneg (by exact_mod_cast Nat.zero_le _)]
  congr 1
  rw [Nat.mul_add, Nat.mul_one, Int.pow_add]; rfl
theorem pow_nonneg' (n : Int) (h : 0 ≤ n) (j : Nat) : 0 ≤ n / 2 ^ (8 * j) := Int.ediv_nonneg h (by exact_mod_cast Nat.zero_le _)
theorem pow_le' (n : Int) (h : 0 ≤ n) (j : Nat) : n / 2 ^ (8 * j) ≤ n := Int.ediv_le_self _ h

theorem rFits_any (n : Int) (size : Nat) (w : World) (hn : n ≤ 9223372036854775807) : Calls Tryz.prog 117 #[.int .i64 n, .int .i64 size] w fun e w' => e = .returned (.bool (fitsB n size)) ∧ w = w' := by
  by_cases hg : 1 ≤ size ∧ size ≤ 7 ∧ 0 ≤ n
  · obtain ⟨h1, h2, h3⟩ := hg
    have e : fitsB n size = (n / 2 ^ (8 * size) == 0) := by
      unfold fitsB
      rw [show ((8 * (size : Int)).toNat) = 8 * size by omega]
      simp [h3]; omega
    rw [e]; clear e
    go_enter Tryz.func117, Tryz.ntmps117
    go_wp2
    go_loop [0, 5] (fun v i => ∃ k : Nat, k ≤ size ∧ i = .int .i64 k ∧ v = .int .i64 (n / 2 ^ (8 * k))) (fun _ i => size - (intOf i).toNat)
    case atStart => exact ⟨0, Nat.zero_le _, rfl, by simp⟩
    case round =>
      obtain ⟨k, hk, rfl, rfl⟩ := hrel
      have hs := pow_step n k
      have h0 := pow_nonneg' n h3 k
      have hle := pow_le' n h3 k
      have HS := Lib.hid hs; clear hs
      by_cases hlt : k < size
      · go_wp2
        go_round
        case rel => exact ⟨k + 1, by omega, by go_num, by rw [HS.out]⟩
        case measure => simp [intOf]; omega
      · have : k = size := by omega
        subst this
        go_wp2
        go_ret
        exact ⟨rfl, rfl⟩
  · have e : fitsB n size = false := by
      rw [Bool.eq_false_iff]
      intro h
      obtain ⟨a, b, c, _⟩ := (fitsB_iff n size).1 h
      exact hg ⟨by omega, by omega, c⟩
    rw [e]
    by_cases h1 : 1 ≤ size
    · by_cases h2 : size ≤ 7
      · have h3 : n < 0 := by omega
        clear hg e
        go_enter Tryz.func117, Tryz.ntmps117
        go_wp2
        go_ret
        exact ⟨rfl, rfl⟩
      · clear hg e
        go_enter Tryz.func117, Tryz.ntmps117
        go_wp2
        go_ret
        exact ⟨rfl, rfl⟩
    · clear hg e
      go_enter Tryz.func117, Tryz.ntmps117
      go_wp2
      go_ret
      exact ⟨rfl, rfl⟩

/-- a number's bytes, the last j of them written -/
def partB (n : Int) (size j : Nat) : List UInt8 := zeros (size - j) ++ (beB n size).drop (size - j)
theorem partB_length (n : Int) (size j : Nat) (h : j ≤ size) : (partB n size j).length = size := by
  simp only [partB, List.length_append, zeros_length, List.length_drop, beB_length]; omega
theorem partB_set (n : Int) (size j : Nat) (h : j < size) : ((bys (partB n size j)).toArray.setIfInBounds (size - 1 - j) (.int .u8 (n / 2 ^ (8 * j) % 256))) = (bys (partB n size (j + 1))).toArray := by
  have hb : Value.int .u8 (n / 2 ^ (8 * j) % 256) = .int .u8 ((byteAt n j).toNat : Int) := by rw [byteAt_val]
  apply Array.ext'
  rw [hb]
  simp only [Array.toList_setIfInBounds]
  apply List.ext_getElem?
  intro k
  rw [List.getElem?_set]
  simp only [bys, List.length_map, partB_length n size j (by omega), List.getElem?_map]
  have hbe : ∀ i, i < size → (beB n size)[i]? = some (byteAt n (size - 1 - i)) := by
    intro i hi; unfold beB; rw [List.getElem?_map, List.getElem?_range hi]; rfl
  have hz : ∀ m i, i < m → (zeros m)[i]? = some 0 := by
    intro m i hi; unfold zeros; rw [List.getElem?_replicate, if_pos hi]
  by_cases e : size - 1 - j = k
  · subst e
    rw [if_pos rfl, if_pos (by omega)]
    unfold partB
    rw [List.getElem?_append_right (by rw [zeros_length]; omega), zeros_length, List.getElem?_drop, hbe _ (by omega)]
    have : size - 1 - (size - (j + 1) + (size - 1 - j - (size - (j + 1)))) = j := by omega
    rw [this]; rfl
  · rw [if_neg e]
    unfold partB
    by_cases hk : k < size - 1 - j
    · rw [List.getElem?_append_left (by rw [zeros_length]; omega), List.getElem?_append_left (by rw [zeros_length]; omega), hz _ _ (by omega), hz _ _ (by omega)]
    · rw [List.getElem?_append_right (by rw [zeros_length]; omega), List.getElem?_append_right (by rw [zeros_length]; omega), zeros_length, zeros_length, List.getElem?_drop, List.getElem?_drop]
      have : size - j + (k - (size - j)) = size - (j + 1) + (k - (size - (j + 1))) := by omega
      rw [this]
theorem partB_all (n : Int) (size : Nat) : partB n size size = beB n size := by simp [partB, zeros]

set_option maxHeartbeats 400000 in
set_option maxRecDepth 20000 in
theorem rPut_any (A : Option Addr) (m c : Nat) (bs : List UInt8) (n : Int) (size : Nat) (w : World) (h : Rd w w.heap.size 1 A m (bys bs)) (hm : m ≤ 1000000000) (hn : n ≤ 9223372036854775807) :
    Calls Tryz.prog 192 #[.slice A m c, .int .i64 n, .int .i64 size] w fun e w' => Hid (∃ v, e = .returned v ∧ w'.ownsRow w.heap.size 5 1 v (bs ++ putB n size).length (bys (bs ++ putB n size)) ∧ Below w.heap.size w w') := by
  have hl := h.byLen
  have hF := rFits_any n size
  have HR := Lib.hid (h.alloc (Nat.le_refl _) (.cells #[] 5))
  cases hf : fitsB n size
  · have e : bs ++ putB n size = bs := by simp [putB, hf]
    rw [e]
    rw [hf] at hF
    have HF := Lib.hid hF; clear hF hf e
    go_enter Tryz.func192, Tryz.ntmps192
    go_wp2_with (first
      | (at_builtin; refine wpList_app rfl (.tmp 10) (.tmp 11) _ rfl w.heap.size _ _ 1 1 Tryz.underlying30 u8_info rfl (by decide) (.slice (some ⟨w.heap.size, 0, none⟩) 0 0) 0 [] rfl (own_empty w _ 1) w.heap.size A m c (bys bs) rfl HR.out (bys_one _) (by unfold maxLen; omega) (by omega) (by simp) ?_
         intro v' w' hown hg hat; have HO := Lib.hid hown; have HG := Lib.hid hg; clear hown hg hat)
      | (refine (HF.out _ hn).mono ?_; rintro e w' ⟨rfl, rfl⟩))
    go_ret
    have ho := HO.out
    rw [Nat.zero_add, List.nil_append] at ho
    exact ⟨_, rfl, by rw [hl]; exact ho, ((Below.refl _ _).alloc (Nat.le_refl _) _).grown HG.out (by simp) (by intro k hk; simp [Value.ownBlock] at hk; omega)⟩
  · have e : putB n size = beB n size := by simp [putB, hf]
    rw [e]
    obtain ⟨s1, s7, n0, _⟩ := (fitsB_iff n size).1 hf
    rw [hf] at hF
    have hmk : ∀ w, (Instr.makeSlice 30 (.int .i64 (size : Int)) (.int .i64 (size : Int))).run Tryz.prog w = .ok (.slice (some ⟨w.heap.size, 0, none⟩) size size) (w.alloc (.cells (bys (zeros size)).toArray 5)) := fun w => makeBytes_eq .i64 .i64 size size (by omega) (by omega) w
    have HF := Lib.hid hF; clear hF hf e
    go_enter Tryz.func192, Tryz.ntmps192
    go_wp2_with (first
      | (at_builtin; refine wpList_app rfl (.tmp 10) (.tmp 11) _ rfl w.heap.size _ _ 1 1 Tryz.underlying30 u8_info rfl (by decide) (.slice (some ⟨w.heap.size, 0, none⟩) 0 0) 0 [] rfl (own_empty w _ 1) w.heap.size A m c (bys bs) rfl HR.out (bys_one _) (by unfold maxLen; omega) (by omega) (by simp) ?_
         intro v1 w1 hown hg hat; have HO := Lib.hid hown; have HG := Lib.hid hg; clear hown hg hat)
      | (refine (HF.out _ hn).mono ?_; rintro e w' ⟨rfl, rfl⟩))
    have hs1 := HG.out.size
    obtain ⟨gd, hgd⟩ : ∃ gd, gd = w1.heap.size := ⟨_, rfl⟩
    rw [← hgd]
    have hbd : Blk (w1.alloc (.cells (bys (zeros size)).toArray 5)) gd 5 (bys (partB n size 0)).toArray := by
      have : partB n size 0 = zeros size := by simp [partB, List.drop_of_length_le, beB_length]
      rw [this]; exact Blk.new' _ _ _ hgd
    obtain ⟨W, hW⟩ : ∃ W, W = w1.alloc (.cells (bys (zeros size)).toArray 5) := ⟨_, rfl⟩
    rw [← hW] at hbd ⊢
    have hoW : W.ownsRow w.heap.size 5 1 v1 m (bys bs) := by
      have := HO.out.alloc (.cells (bys (zeros size)).toArray 5)
      rw [← hW, Nat.zero_add, List.nil_append] at this; exact this
    have hbW : Below w.heap.size w W := by
      rw [hW]; exact (((Below.refl _ _).alloc (Nat.le_refl _) _).grown HG.out (by simp) (by intro k hk; simp [Value.ownBlock] at hk; omega)).alloc (by simp at hs1; omega) _
    have hv1 : ∀ k, v1.ownBlock = some k → k < gd := by intro k hk; rw [hgd]; exact (HO.out.lt k hk).2
    have hg0 : w.heap.size ≤ gd := by rw [hgd]; simp at hs1; omega
    have HBD := Lib.hid hbd; have HOW := Lib.hid hoW; have HBW := Lib.hid hbW; have HV1 := Lib.hid hv1
    clear hW hbd hoW hbW hs1 hgd hv1
    go_loopw [1, 9] (fun v i wr => ∃ j : Nat, j ≤ size ∧ i = .int .i64 ((size : Int) - 1 - j) ∧ v = .int .i64 (n / 2 ^ (8 * j)) ∧ Hid (Blk wr gd 5 (bys (partB n size j)).toArray ∧ wr.ownsRow w.heap.size 5 1 v1 m (bys bs) ∧ Below w.heap.size w wr)) (fun _ i _ => (intOf i + 1).toNat)
    case atStart => exact ⟨0, by omega, by simp, by simp, HBD.out, HOW.out, HBW.out⟩
    case round =>
      obtain ⟨j, hj, rfl, rfl, hq⟩ := hrel
      obtain ⟨hb, ho, hbl⟩ := hq.out
      have hst := pow_step n j
      have h0 := pow_nonneg' n n0 j
      have hle := pow_le' n n0 j
      by_cases hlt : j < size
      · have e1 : (size : Int) - 1 - j = ((size - 1 - j : Nat) : Int) := by omega
        have hset := partB_set n size j hlt
        have hb' := hb.set_ (size - 1 - j) (.int .u8 (n / 2 ^ (8 * j) % 256))
        rw [hset] at hb'
        have fz := hb.frozen (size - 1 - j)
        obtain ⟨x, hx⟩ : ∃ x, wr.cell? ⟨gd, size - 1 - j, none⟩ = some x := by
          rw [hb.cell]
          have : size - 1 - j < (bys (partB n size j)).toArray.size := by rw [List.size_toArray, bys_length, partB_length _ _ _ (by omega)]; omega
          exact ⟨_, Array.getElem?_eq_getElem this⟩
        have HB' := Lib.hid hb'; have HO' := Lib.hid ho; have HBL := Lib.hid hbl; have HST := Lib.hid hst; have HSET := Lib.hid hset
        clear hset hb' hb ho hbl hst hq
        rw [e1]
        go_wp2
        go_roundw
        case rel =>
          refine ⟨j + 1, by omega, by first | (congr 1; done) | (congr 1; omega), by rw [HST.out], HB'.out, ?_, HBL.out.setCell (p := ⟨gd, _, none⟩) hg0 _⟩
          exact HO'.out.kept (row := some gd) ⟨rfl, rfl, rfl, by simp [World.setCell], fun k _ hk => Below.heap_setCell _ _ _ _ (by intro e; exact hk (by rw [e]))⟩ (by
            rcases hv : v1.ownBlock with _ | b
            · exact .inl rfl
            · right; rw [← hv]; intro e; have := HV1.out gd e; omega)
        case measure => simp [intOf] <;> omega
      · have ej : j = size := by omega
        subst ej
        have hrd := Rd.of_blk hb (n := j) (by rw [List.size_toArray, bys_length, partB_length _ _ _ (by omega)]) (by unfold maxLen; omega)
        simp only [partB_all] at hrd
        have HRD := Lib.hid hrd; have HO' := Lib.hid ho; have HBL := Lib.hid hbl
        clear hrd ho hbl hb hq hst
        go_wp2_with (at_builtin; refine wpList_app rfl (.tmp 34) (.tmp 35) _ rfl w.heap.size _ _ 1 1 Tryz.underlying30 u8_info rfl (by decide) v1 m (bys bs) rfl HO'.out _ _ j j (bys (beB n j)) rfl HRD.out (bys_one _) (by unfold maxLen; omega) (by omega) HBL.out.size ?_
                     intro v3 w3 hown hg hat; have HO3 := Lib.hid hown; have HG3 := Lib.hid hg; clear hown hg hat)
        go_ret
        refine ⟨_, rfl, ?_, HBL.out.grown HG3.out HBL.out.size (fun k hk => (HO'.out.lt k hk).1)⟩
        rw [List.length_append, hl, beB_length, bys_append]
        exact HO3.out
end Go.Proofs.YtacmgogobjpmcaaGreat
