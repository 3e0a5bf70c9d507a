/- Contracts: the program's wname.rest of one label; wname.New. -/
import Derived.Test.YtacmgogobjpmcaaGreatZB
import Derived.Lib.AppendStr
namespace Go.Proofs.YtacmgogobjpmcaaGreat
open Go.RowKit

set_option maxHeartbeats 1000000 in
set_option maxRecDepth 20000 in
theorem wRest1_any (gn cn : Nat) (s : ByteArray) (hs : s.size = 7) (w : World) (h : w.cell? ⟨gn, 0, none⟩ = some (.string s)) :
    Calls Tryz.prog 290 #[.slice (some ⟨gn, 0, none⟩) 1 cn] w fun e w' => Hid (∃ r : ByteArray, e = .returned (.string r) ∧ r.size ≤ 100) ∧ Below w.heap.size w w' := by
  obtain ⟨i, hi, hz1, hz2, hz3⟩ := info_parts u8_info
  go_enter Tryz.func290, Tryz.ntmps290
  go_wp2_with fail
  refine wp_loop_rounds 2 ?_
  rw [rounds_succ]
  go_wp2_with (first
    | (at_builtin; refine wpList_app rfl (.tmp 12) (.tmp 16) _ rfl w.heap.size _ _ 1 1 Tryz.underlying30 u8_info rfl (by decide) (.slice none 0 0) 0 [] rfl (World.ownsRow_nil _ _ _ _) (w.heap.size + 1) (some ⟨w.heap.size, 0, none⟩) 1 1 [.int .u8 7] rfl (Rd.box1 w (.int .u8 7) _) (by simp [Value.oneCell']) (by unfold maxLen; omega) (by omega) (by simp) ?_
       intro v2 w2 hown hg hat
       obtain ⟨A2, c2, rfl⟩ := own_slice hown
       have hb2 : Below w.heap.size w w2 := ((Below.refl _ w).alloc (Nat.le_refl _) _).grown hg (by simp) (by intro k hk; simp [Value.ownBlock] at hk)
       have hown' : w2.ownsRow w.heap.size 5 1 (.slice A2 1 c2) 1 [.int .u8 7] := by simpa using hown
       have HO2 := Lib.hid hown'; have HB2 := Lib.hid hb2; clear hown hown' hg hat hb2)
    | (at_builtin; refine Lib.wpList_append_own_string _ rfl (.tmp 18) (.tmp 19) _ _ rfl w.heap.size _ i Tryz.underlying30 Tryz.underlying9 hi hz1 hz2 hz3 (.slice A2 1 c2) 1 [.int .u8 7] rfl HO2.out s rfl (by unfold maxLen; omega) (by omega) HB2.out.size ?_
       intro v3 w3 hown hg hat
       obtain ⟨A3, c3, rfl⟩ := own_slice hown
       have hb3 : Below w.heap.size w w3 := HB2.out.grown hg HB2.out.size (fun k hk => (HO2.out.lt k hk).1)
       have hcb : (convert 30 9 (.slice A3 (1 + s.size) c3)).run Tryz.prog w3 = .ok (.string ⟨(7 :: s.data.toList).toArray⟩) w3 := bytes_str (bs := 7 :: s.data.toList) (Rd.of_own hown) (by omega)
       rw [hs] at hcb
       have HO3 := Lib.hid hown; have HB3 := Lib.hid hb3; clear hown hg hat hb3))
  rw [rounds_succ]
  go_wp2_with fail
  go_ret
  have hl : s.data.toList.length = 7 := by simpa using hs
  have h8 : (⟨(7 :: s.data.toList).toArray⟩ : ByteArray).size ≤ 100 := by
    show (7 :: s.data.toList).toArray.size ≤ 100
    rw [List.size_toArray, List.length_cons, hl]; omega
  exact ⟨Lib.hid ⟨_, rfl, h8⟩, HB3.out⟩
end Go.Proofs.YtacmgogobjpmcaaGreat
