/- Contracts: numbers and names. -/
import Derived.Test.YtacmgogobjpmcaaGreatProg
import Derived.Test.YtacmgogobjpmcaaGreatA
namespace Go.Proofs.YtacmgogobjpmcaaGreat
open Go.RowKit

theorem Time_any (t : Int) (w : World) : Calls Tryz.prog 101 #[.int .i64 t] w fun e w' => e = .returned (.bool (decide (0 ≤ t) && decide (t ≤ 36028797018963968))) ∧ w = w' := by
  go_enter Tryz.func101, Tryz.ntmps101
  go_wp2
  all_goals (go_ret; simp [*])
  all_goals omega

def nsize (ss : List ByteArray) : Nat := ss.foldl (fun a s => a + (1 + s.size)) 1
theorem nsize_take (ss : List ByteArray) (k : Nat) (s : ByteArray) (h : ss[k]? = some s) : nsize (ss.take (k + 1)) = nsize (ss.take k) + (1 + s.size) := by
  unfold nsize
  rw [List.take_add_one, h]; simp [List.foldl_append]
theorem nsize_le (ss : List ByteArray) (k : Nat) (hs : ∀ (k : Nat) (s : ByteArray), ss[k]? = some s → s.size ≤ 1000) : nsize (ss.take k) ≤ 1 + 1001 * k := by
  induction k with
  | zero => simp [nsize]
  | succ k ih =>
    by_cases hk : k < ss.length
    · have e := List.getElem?_eq_getElem hk
      rw [nsize_take _ _ _ e]
      have := hs _ _ e
      omega
    · rw [List.take_of_length_le (by omega)]
      rw [List.take_of_length_le (by omega)] at ih
      omega

set_option maxHeartbeats 400000 in
theorem Size_any (A : Option Addr) (n c : Nat) (ss : List ByteArray) (w : World) (h : Rd w w.heap.size 1 A n (strs ss)) (hn : n ≤ 1000) (hs : ∀ (k : Nat) (s : ByteArray), ss[k]? = some s → s.size ≤ 1000) :
    Calls Tryz.prog 176 #[.slice A n c] w fun e w' => e = .returned (.int .i64 (nsize ss)) ∧ w = w' := by
  go_enter Tryz.func176, Tryz.ntmps176
  go_wp2
  go_loop [3, 5, 8] (fun z _ i => ∃ k : Nat, k ≤ n ∧ i = .int .i64 k ∧ z = .int .i64 (nsize (ss.take k))) (fun _ _ i => n - (intOf i).toNat)
  case atStart => exact ⟨0, Nat.zero_le _, rfl, by simp [nsize]⟩
  case round =>
    obtain ⟨k, hk, rfl, rfl⟩ := hrel
    by_cases hlt : k < n
    · obtain ⟨ad, s, rfl, hb, hx, hc⟩ := h.strAt hlt
      have hsz := hs _ _ hx
      have hle := nsize_le ss k hs
      have hst := nsize_take ss k s hx
      have HS : Hid (nsize (ss.take (k + 1)) = nsize (ss.take k) + (1 + s.size)) := hst
      clear hst hx
      go_wp2
      go_round
      case rel => exact ⟨k + 1, by omega, by go_num, by rw [HS.out]; go_num⟩
      case measure => simp [intOf]; omega
    · go_wp2
      go_ret
      have : ss.length ≤ k := by rw [h.strLen]; omega
      exact ⟨by rw [List.take_of_length_le this]; rfl, rfl⟩

theorem isEmpty_toList (s : ByteArray) : s.toList.isEmpty = (s.size == 0) := by
  rw [ByteArray.toList_eq, Array.isEmpty_toList]; rfl

theorem NameSound1_any (s : ByteArray) (w : World) : Calls Tryz.prog 175 #[.string s] w fun e w' => e = .returned (.bool (s.size == 0 || decide (63 < s.size))) ∧ w = w' := by
  rw [← isEmpty_toList, show decide (63 < s.size) = decide (63 < (s.size : Int)) from decide_eq_decide.2 (by omega)]
  go_enter Tryz.func175, Tryz.ntmps175
  go_wp2
  all_goals (go_ret; simp [*])

/-- slices.IndexFunc over strings, by a closure that only computes -/
theorem IndexStr_any (g : Nat) (cap : Array Value) (p : ByteArray → Bool) (hg : Enters Tryz.prog g) (A : Option Addr) (n c : Nat) (ss : List ByteArray) (w : World) (h : Rd w w.heap.size 1 A n (strs ss))
    (H : ∀ s, s ∈ ss → Calls Tryz.prog g (#[.string s] ++ cap) w fun e w' => e = .returned (.bool (p s)) ∧ w = w') :
    Calls Tryz.prog 250 #[.slice A n c, .func (.func g) #[] cap] w fun e w' => e = .returned (.int .i64 (idxI p ss)) ∧ w = w' := by
  have HH := Lib.hid H; clear H
  unfold Enters at hg
  have hmx := h.max; unfold maxLen at hmx
  go_enter Tryz.func250, Tryz.ntmps250
  go_wp2
  go_loop [5, 8] (fun _ i => ∃ k : Nat, k ≤ n ∧ i = .int .i64 k ∧ Hid (∀ s ∈ ss.take k, p s = false)) (fun _ i => n - (intOf i).toNat)
  case atStart => exact ⟨0, Nat.zero_le _, rfl, by simp [Hid]⟩
  case round =>
    obtain ⟨k, hk, rfl, hq⟩ := hrel
    by_cases hlt : k < n
    · obtain ⟨ad, s, rfl, hb, hx, hc⟩ := h.strAt hlt
      have HX := Lib.hid hx
      clear hx
      go_wp2_with fail
      refine (HH.out s (List.mem_of_getElem? HX.out)).mono ?_
      rintro e w' ⟨rfl, rfl⟩
      by_cases hp : p s = true
      · go_wp2
        go_ret
        exact ⟨by rw [idxI_at HX.out hp hq.out]; rfl, rfl⟩
      · have hp' : p s = false := by simpa using hp
        clear hp
        go_wp2
        go_round
        case rel => exact ⟨k + 1, by omega, by go_num, take_snoc' HX.out hp' hq.out⟩
        case measure => simp [intOf]; omega
    · go_wp2
      go_ret
      exact ⟨by rw [idxI_none (fun s hs => hq.out s (by rw [List.take_of_length_le (by rw [h.strLen]; omega)]; exact hs))]; rfl, rfl⟩

theorem ContainsStr_any (g : Nat) (cap : Array Value) (p : ByteArray → Bool) (hg : Enters Tryz.prog g) (A : Option Addr) (n c : Nat) (ss : List ByteArray) (w : World) (h : Rd w w.heap.size 1 A n (strs ss))
    (H : ∀ s, s ∈ ss → Calls Tryz.prog g (#[.string s] ++ cap) w fun e w' => e = .returned (.bool (p s)) ∧ w = w') :
    Calls Tryz.prog 174 #[.slice A n c, .func (.func g) #[] cap] w fun e w' => e = .returned (.bool (ss.any p)) ∧ w = w' := by
  have HH := Lib.hid H; clear H
  rw [← idxI_ge]
  go_enter Tryz.func174, Tryz.ntmps174
  go_wp2_with fail
  refine (IndexStr_any g cap p hg A n c ss w h HH.out).mono ?_
  rintro e w' ⟨rfl, rfl⟩
  go_wp2
  go_ret
  exact ⟨rfl, rfl⟩

/-- may it be a name? -/
def soundB (ss : List ByteArray) : Bool := decide (ss.length ≤ 255) && !(ss.any fun s => s.size == 0 || decide (63 < s.size)) && decide (nsize ss ≤ 255)
theorem NameSound_any (A : Option Addr) (n c : Nat) (ss : List ByteArray) (w : World) (h : Rd w w.heap.size 1 A n (strs ss)) :
    Calls Tryz.prog 99 #[.slice A n c] w fun e w' => e = .returned (.bool (soundB ss)) ∧ w = w' := by
  have hl := h.strLen
  have hc := ContainsStr_any 175 #[] (fun s => s.size == 0 || decide (63 < s.size)) (enters_of Tryz.func175 rfl rfl) A n c ss w h (fun s _ => NameSound1_any s w)
  by_cases h1 : n ≤ 255
  · cases h2 : ss.any fun s => s.size == 0 || decide (63 < s.size)
    · rw [h2] at hc
      have hsz := Size_any A n c ss w h (by omega) (fun k s hk => by
        have := List.any_eq_false.1 h2 s (List.mem_of_getElem? hk)
        simp at this; omega)
      have e : soundB ss = decide ((nsize ss : Int) ≤ 255) := by
        unfold soundB; rw [h2, hl]; simp [h1]; omega
      rw [e]
      have HC := Lib.hid hc; have HS := Lib.hid hsz; clear hc hsz e h2 hl
      go_enter Tryz.func99, Tryz.ntmps99
      go_wp2_with fail
      refine HC.out.mono ?_; rintro e w' ⟨rfl, rfl⟩
      go_wp2_with fail
      refine HS.out.mono ?_; rintro e w' ⟨rfl, rfl⟩
      go_wp2
      go_ret
      exact ⟨rfl, rfl⟩
    · rw [h2] at hc
      have e : soundB ss = false := by unfold soundB; rw [h2]; simp
      rw [e]
      have HC := Lib.hid hc; clear hc e h2 hl
      go_enter Tryz.func99, Tryz.ntmps99
      go_wp2_with fail
      refine HC.out.mono ?_; rintro e w' ⟨rfl, rfl⟩
      go_wp2
      go_ret
      exact ⟨rfl, rfl⟩
  · have e : soundB ss = false := by unfold soundB; rw [hl]; simp [h1]
    rw [e]; clear hc e hl
    go_enter Tryz.func99, Tryz.ntmps99
    go_wp2
    go_ret
    exact ⟨rfl, rfl⟩

theorem u8_info : (Tryz.prog.info? 5).map (fun i => (i.zero, i.size, i.bytes)) = some (some (.int .u8 0), 1, 1) := by kernel_rfl
theorem str_info : (Tryz.prog.info? 9).map (fun i => (i.zero, i.size, i.bytes)) = some (some (.string ByteArray.empty), 1, 16) := by kernel_rfl
theorem bytes_info : (Tryz.prog.info? 30).map (fun i => (i.zero, i.size, i.bytes)) = some (some (.slice none 0 0), 1, 24) := by kernel_rfl
theorem strs_info : (Tryz.prog.info? 22).map (fun i => (i.zero, i.size, i.bytes)) = some (some (.slice none 0 0), 1, 24) := by kernel_rfl
theorem int_info : (Tryz.prog.info? 3).map (fun i => (i.zero, i.size, i.bytes)) = some (some (.int .i64 0), 1, 8) := by kernel_rfl

theorem own_empty (w : World) (e : TypeId) (size : Nat) : (w.alloc (.cells #[] e)).ownsRow w.heap.size e size (.slice (some ⟨w.heap.size, 0, none⟩) 0 0) 0 [] :=
  World.ownsRow_made w #[] 0 (Nat.le_refl _) (by unfold maxLen; omega) (by simp)

/-- what slices.Clone leaves -/
structure Cloned (e : TypeId) (n : Nat) (A : Option Addr) (xs : List Value) (w : World) (v : Value) (w' : World) : Prop where
  own : w'.ownsRow w.heap.size e 1 v n xs
  below : Below w.heap.size w w'
  isnil : A = none → v = .slice none 0 0

theorem Clone_bytes (A : Option Addr) (n c : Nat) (xs : List Value) (w : World) (h : Rd w w.heap.size 1 A n xs) (h1 : ∀ u ∈ xs, u.oneCell' = true) (hn : n ≤ 140737488355328) :
    Calls Tryz.prog 249 #[.slice A n c] w fun e w' => ∃ v, e = .returned v ∧ Cloned 5 n A xs w v w' := by
  have qT : ∀ (w : World) (a : Option Addr) (n c n' c' : Nat), (binOp .eql 30 (.slice a n c) (.slice none n' c')).run Tryz.prog w = .ok (.bool a.isNone) w := fun w a n c n' c' => Lib.run_eql_slice_nil w _ _ a n c n' c' Tryz.underlying30
  rcases A with _ | ad
  · have hz : n = 0 := by
      rcases Nat.eq_zero_or_pos n with h0 | h0
      · exact h0
      · obtain ⟨_, e, _⟩ := h.cells h0; cases e
    subst hz
    obtain rfl : xs = [] := List.eq_nil_of_length_eq_zero (by simpa using h.len)
    go_enter Tryz.func249, Tryz.ntmps249
    go_wp2
    go_ret
    exact ⟨_, rfl, World.ownsRow_nil _ _ _ _, Below.refl _ _, fun _ => rfl⟩
  · go_enter Tryz.func249, Tryz.ntmps249
    go_wp2_with (at_builtin; refine wpList_app rfl (.tmp 5) (.tmp 6) _ rfl w.heap.size _ _ 1 1 Tryz.underlying30 u8_info rfl (by decide) (.slice (some ⟨w.heap.size, 0, none⟩) 0 0) 0 [] rfl (own_empty w _ 1) w.heap.size (some ad) n c xs rfl (h.below ((Below.refl _ _).alloc (Nat.le_refl _) _)) h1 (by unfold maxLen; omega) (by omega) (by simp) ?_; intro v' w' hown hg hat)
    go_ret
    exact ⟨v', rfl, by simpa using hown, ((Below.refl _ _).alloc (Nat.le_refl _) _).grown hg (by simp) (by intro k hk; simp [Value.ownBlock] at hk; omega), fun e => by cases e⟩

/-- so many bytes 0 -/
def zeros (n : Nat) : List UInt8 := List.replicate n 0
theorem zeros_length (n : Nat) : (zeros n).length = n := List.length_replicate ..
theorem zeros_at (n j : Nat) (h : j < n) : (bys (zeros n))[j]? = some (.int .u8 0) := by
  unfold bys zeros
  rw [List.getElem?_map, List.getElem?_replicate, if_pos h]; rfl
theorem zeros_lt (n j : Nat) (x : Value) (h : (bys (zeros n))[j]? = some x) : j < n ∧ x = .int .u8 0 := by
  have hl := (List.getElem?_eq_some_iff.1 h).1
  rw [bys_length, zeros_length] at hl
  rw [zeros_at n j hl] at h
  exact ⟨hl, by injection h with h; exact h.symm⟩
theorem madeBytes (n : Nat) : madeCells (Value.int .u8 0).cells n = (bys (zeros n)).toArray := by
  apply Array.ext'
  show (madeCells #[.int .u8 0] n).toList = _
  rw [toList_madeCells_one]
  simp [bys, zeros]
theorem makeBytes_eq (kl kc : IntKind) (n c : Nat) (hn : n ≤ c) (hc : c ≤ 281474976710656) (w : World) : (Instr.makeSlice 30 (.int kl (n : Int)) (.int kc (c : Int))).run Tryz.prog w = .ok (.slice (some ⟨w.heap.size, 0, none⟩) n c) (w.alloc (.cells (bys (zeros c)).toArray 5)) := by
  have h := make_eq Tryz.underlying30 u8_info kl kc n c hn (by omega) (by omega) w
  rw [Nat.mul_one, madeBytes] at h
  exact h
end Go.Proofs.YtacmgogobjpmcaaGreat
