/- Contracts: the program's wname.Get on the small question's bytes. -/
import Derived.Test.YtacmgogobjpmcaaGreatR
namespace Go.Proofs.YtacmgogobjpmcaaGreat
open Go.RowKit

/-- a string of the bytes that a slice reads -/
theorem bytes_str {w : World} {B m c : Nat} {A : Option Addr} {bs : List UInt8} (h : Rd w B 1 A m (bys bs)) (h0 : 0 < m) :
    (convert 30 9 (.slice A m c)).run Tryz.prog w = .ok (.string ⟨bs.toArray⟩) w := by
  obtain ⟨ad, rfl, _, hc⟩ := h.cells h0
  have hl := h.byLen
  subst hl
  exact run_convert_bytes_back w _ _ 5 ad c bs Tryz.underlying30 Tryz.underlying5 Tryz.underlying9 (fun j hj => hc j _ (by simp [bys, List.getElem?_eq_getElem hj]))

def askName (s : ByteArray) : List UInt8 := ((askBytes s).drop 13).take 7
theorem askName_eq (s : ByteArray) (hs : s.size = 7) : (⟨(askName s).toArray⟩ : ByteArray) = s := by
  have hl : s.data.toList.length = 7 := by simpa using hs
  have : askName s = s.data.toList := by
    unfold askName askBytes
    simp [hl]
  rw [this]
theorem bys_cut (bs : List UInt8) (k m : Nat) : ((bys bs).drop k).take m = bys ((bs.drop k).take m) := by simp [bys, List.map_drop, List.map_take]
theorem ask12 (s : ByteArray) : beN (((askBytes s).drop 12).take 1) = 7 := by simp [askBytes, beN]
theorem ask20 (s : ByteArray) (hs : s.size = 7) : beN (((askBytes s).drop 20).take 1) = 0 := by
  have hl : s.data.toList.length = 7 := by simpa using hs
  have : (askBytes s).drop 20 = [0, 0, 1, 0, 1] := by
    unfold askBytes
    simp [hl]
  rw [this]; rfl

set_option maxHeartbeats 1000000 in
set_option maxRecDepth 40000 in
theorem wGetAsk_any (A : Option Addr) (c : Nat) (s : ByteArray) (hs : s.size = 7) (w : World) (h : Rd w w.heap.size 1 A 25 (bys (askBytes s))) (hc : 25 ≤ c) :
    Calls Tryz.prog 287 #[.slice A 25 c, .int .i64 12] w fun e w' => Hid (∃ A' c', e = .returned (.tuple #[.slice A' 1 c', .int .i64 21, .int .i64 0]) ∧ 1 ≤ c' ∧ w'.ownsRow w.heap.size 9 1 (.slice A' 1 c') 1 [.string s] ∧ Below w.heap.size w w') := by
  have H := Lib.hid h
  obtain ⟨ad, rfl, _, _⟩ := h.cells (by omega)
  clear h
  have hcv : (convert 30 9 (.slice (some { block := ad.block, off := ad.off + 13 }) 7 (c - 13))).run Tryz.prog w = .ok (.string s) w := by
    have h1 := H.out.cut (k := 13) (m := 20) (cap := c) (by omega) (by omega) hc
    rw [if_neg (by omega), Nat.mul_one, Nat.mul_one, bys_cut] at h1
    have h2 := bytes_str (c := c - 13) h1 (by omega)
    rw [show (⟨(((askBytes s).drop 13).take (20 - 13)).toArray⟩ : ByteArray) = s from askName_eq s hs] at h2
    exact h2
  go_enter Tryz.func287, Tryz.ntmps287
  go_wp2_with fail
  refine wp_loop_rounds 2 ?_
  rw [rounds_succ]
  go_wp2_with fail
  have hg := numGet_any (some ad) 25 c _ w H.out hc 12 1 (by omega) (by omega) (by omega)
  rw [ask12] at hg
  refine hg.mono ?_
  clear hg
  rintro e w1 ⟨rfl, rfl⟩
  go_simp
  go_wp2_with (first
    | (at_builtin; refine wpList_app rfl (.tmp 28) (.tmp 38) _ rfl w.heap.size _ _ 1 16 Tryz.underlying22 str_info rfl (by decide) (.slice none 0 0) 0 [] rfl (World.ownsRow_nil _ _ _ _) (w.heap.size + 1) (some ⟨w.heap.size, 0, none⟩) 1 1 [.string s] rfl (Rd.box1 w (.string s) _) (by simp [Value.oneCell']) (by unfold maxLen; omega) (by omega) (by simp) ?_
       intro v2 w2 hown hg hat
       obtain ⟨A2, c2, rfl⟩ := own_slice hown
       have hb2 : Below w.heap.size w w2 := ((Below.refl _ w).alloc (Nat.le_refl _) _).grown hg (by simp) (by intro k hk; simp [Value.ownBlock] at hk)
       have hcap2 := own_cap hown
       have HO2 := Lib.hid hown; have HB2 := Lib.hid hb2; have H2 := Lib.hid ((H.out.below hb2).more hb2.size); have HC2 := Lib.hid hcap2
       clear hown hg hat hb2 hcv hcap2))
  rw [rounds_succ]
  go_wp2_with fail
  have hg := numGet_any (some ad) 25 c _ w2 H2.out hc 20 1 (by omega) (by omega) (by omega)
  rw [ask20 s hs] at hg
  refine hg.mono ?_
  clear hg
  rintro e w3 ⟨rfl, rfl⟩
  go_simp
  go_wp2
  refine bodyPost_ret (v := .tuple #[.slice A2 1 c2, .int .i64 21, .int .i64 0]) (by simp [results, Tryz.results287, go_sem]) rfl ?_
  refine Lib.hid ⟨A2, c2, rfl, by have := HC2.out; omega, ?_, HB2.out⟩
  simpa using HO2.out
end Go.Proofs.YtacmgogobjpmcaaGreat
