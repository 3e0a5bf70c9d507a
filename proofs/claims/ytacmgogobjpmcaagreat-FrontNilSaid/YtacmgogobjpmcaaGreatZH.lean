/- Contracts: front.Client on the refused question. -/
import Derived.Test.YtacmgogobjpmcaaGreatZG
import Derived.Test.YtacmgogobjpmcaaGreatZS
namespace Go.Proofs.YtacmgogobjpmcaaGreat
open Go.RowKit

/-- a front whose zones are one name of one label -/
structure FrontR (w : World) (B gf cm cz : Nat) (az am : Addr) (s : ByteArray) : Prop where
  f8 : w.cell? ⟨gf, 8, none⟩ = some (.slice (some az) 1 cz)
  z : w.cell? az = some (.slice (some am) 1 cm)
  n : w.cell? am = some (.string s)
  fl : gf < B
  zl : az.block < B
  nl : am.block < B
theorem FrontR.below {w w' : World} {B gf cm cz : Nat} {az am : Addr} {s : ByteArray} (h : FrontR w B gf cm cz az am s) (hb : Below B w w') : FrontR w' B gf cm cz az am s :=
  ⟨(World.cell?_of_block (hb.block gf h.fl)).trans h.f8, (World.cell?_of_block (hb.block az.block h.zl)).trans h.z, (World.cell?_of_block (hb.block am.block h.nl)).trans h.n, h.fl, h.zl, h.nl⟩

def dgC (Aa : Option Addr) (ca : Nat) (Ab : Option Addr) (cb : Nat) : Array Value := #[.slice Aa 4 ca, .int .i64 5, .slice Ab 25 cb]

def clientZ : Array Value :=
  #[.slice none 0 0, .int .i64 0, .int .i64 0, .bool false, .int .i64 0, .bool false, .bool false, .bool false, .bool false, .int .i64 0, .slice none 0 0, .slice none 0 0, .slice none 0 0, .slice none 0 0, .bool false, .int .i64 0]
theorem cell2 {w : World} {g : Nat} {t : TypeId} {cs : Array Value} (h : Blk w g t cs) : w.cell? ⟨g, 0, none⟩ = cs[0]? ∧ w.cell? ⟨g, 1, none⟩ = cs[1]? := ⟨h.cell 0, h.cell 1⟩

def clientA (A2 : Option Addr) (c2 : Nat) : Array Value := #[.slice A2 4 c2, .int .i64 5, .int .i64 0, .bool false, .int .i64 0, .bool false, .bool false, .bool false, .bool false, .int .i64 0, .slice none 0 0, .slice none 0 0, .slice none 0 0, .slice none 0 0, .bool false, .int .i64 0]
theorem sets_A (A2 : Option Addr) (c2 : Nat) : sets clientZ 0 [.slice A2 4 c2, .int .i64 5, .int .i64 0, .bool false, .int .i64 0, .bool false, .bool false, .bool false, .bool false, .int .i64 0, .slice none 0 0, .slice none 0 0, .slice none 0 0, .slice none 0 0, .bool false, .int .i64 0] = clientA A2 c2 := by
  simp [sets, clientZ, clientA]
theorem sets_C (A2 : Option Addr) (c2 gq cq : Nat) : sets (clientA A2 c2) 2 [.int .i64 7, .bool false, .int .i64 0, .bool false, .bool false, .bool true, .bool false, .int .i64 0, .slice (some ⟨gq, 0, none⟩) 1 cq, .slice none 0 0, .slice none 0 0, .slice none 0 0, .bool false, .int .i64 0] = clientC A2 4 c2 gq cq := by
  simp [sets, clientA, clientC]
def askC (gq cq : Nat) : Array Value := #[.int .i64 7, .bool false, .int .i64 0, .bool false, .bool false, .bool true, .bool false, .int .i64 0, .slice (some ⟨gq, 0, none⟩) 1 cq, .slice none 0 0, .slice none 0 0, .slice none 0 0, .bool false, .int .i64 0]
/-- Client's world behind its first steps -/
structure CliW (gd gk ca cb c2 : Nat) (Aa Ab A2 : Option Addr) (xa : List Value) (w wk : World) : Prop where
  k : Blk wk gk 168 (clientA A2 c2)
  d : Blk wk gd 46 (dgC Aa ca Ab cb)
  fr : Below gd w wk
  a : wk.ownsRow 0 5 1 (.slice A2 4 c2) 4 xa
  gk : gd < gk

set_option maxHeartbeats 4000000 in
set_option maxRecDepth 40000 in
theorem client_any (gf cm cz ca cb : Nat) (az am : Addr) (Aa Ab : Option Addr) (xa : List Value) (s : ByteArray) (hs : s.size = 7) (hsd : soundB [s] = true) (hl : lowly s) (w : World) (hf : FrontR w w.heap.size gf cm cz az am s)
    (ha : Rd w w.heap.size 1 Aa 4 xa) (ha1 : ∀ u ∈ xa, u.oneCell' = true) (hd : Rd w w.heap.size 1 Ab 25 (bys (askBytes s))) (hcb : 25 ≤ cb) :
    Calls Tryz.prog 25 #[.pointer (some ⟨gf, 0, none⟩), .agg #[.slice Aa 4 ca, .int .i64 5, .slice Ab 25 cb], .int .i64 0, .int .u64 1] w fun e w' =>
      Hid (∃ g c, e = .returned (.slice (some ⟨g, 0, none⟩) 1 c) ∧ w'.cell? ⟨g, 1, none⟩ = some (.int .i64 5)) ∧ Below w.heap.size w w' := by
  have q2 := (ask_nums s).2.1
  have HF := Lib.hid hf; have HA := Lib.hid ha; have HA1 := Lib.hid ha1; have HD := Lib.hid hd; have HQ2 := Lib.hid q2; have HL := Lib.hid hl
  clear hf ha ha1 hd q2 hl
  go_enter Tryz.func25, Tryz.ntmps25
  go_wp2_with fail
  obtain ⟨gd, hgd⟩ : ∃ g, g = w.heap.size := ⟨_, rfl⟩
  obtain ⟨w0, hw0⟩ : ∃ W, W = w.alloc (.cells (dgC Aa ca Ab cb) 46) := ⟨_, rfl⟩
  have hb0 : Below gd w w0 := by rw [hw0, hgd]; exact (Below.refl _ _).alloc (Nat.le_refl _) _
  have hm0 : Blk w0 gd 46 (dgC Aa ca Ab cb) := by rw [hw0, hgd]; exact Blk.new _ _ _
  unfold dgC at hw0
  rw [← hw0, ← hgd]
  rw [← hgd] at HF HA HD
  have HGD := Lib.hid hgd; have HB0 := Lib.hid hb0; have HM0 := Lib.hid hm0
  have HD0 := Lib.hid (HD.out.below hb0)
  clear hw0 hgd hb0 hm0
  have hg := numGet_any Ab 25 cb _ w0 (HD0.out.more (Nat.le_of_lt HM0.out.lt)) hcb 2 2 (by omega) (by omega) (by omega)
  rw [HQ2.out] at hg
  refine hg.mono ?_
  clear hg
  rintro e w1 ⟨rfl, rfl⟩
  go_simp
  go_wp2_with fail
  go_upto_region 7 with fail
  go_cut [11] (fun t wx => Hid (∃ gk c2 A2, t = .pointer (some ⟨gk, 0, none⟩) ∧ CliW gd gk ca cb c2 Aa Ab A2 xa w wx))
  case first =>
    have k0 : w0.cell? ⟨gd, 0, none⟩ = some (.slice Aa 4 ca) := HM0.out.cell 0
    have k1 : w0.cell? ⟨gd, 1, none⟩ = some (.int .i64 5) := HM0.out.cell 1
    have kl := HM0.out.lt
    have n1 : ¬ (gd = w0.heap.size) := by omega
    have n2 : ¬ (w0.heap.size = gd) := by omega
    go_region_held3 (fun w' => w'.cell? ⟨gd, 0, none⟩ = some (.slice Aa 4 ca) ∧ w'.cell? ⟨gd, 1, none⟩ = some (.int .i64 5))
      (first | (with_reducible exact ⟨k0, k1⟩) | go_keep)
      (first
       | (go_at_call 74
          have hC := bytesClone_hid Aa 4 ca xa w0.drew ((HA.out.below HB0.out).drew.more (Nat.le_of_lt HM0.out.lt)) HA1.out (by omega)
          with_reducible refine hC.mono ?_
          rintro e w2 hq
          obtain ⟨v2, rfl, hcl⟩ := hq.out
          obtain ⟨A2, c2, rfl⟩ := own_slice hcl.own
          have HM2 := Lib.hid (HM0.out.drew.below hcl.below HM0.out.lt); have HB2 := Lib.hid (show Below w0.heap.size w0 w2 from (Below.refl _ _).drew.trans hcl.below)
          have HO2 := Lib.hid hcl.own
          have k0 : w2.cell? ⟨gd, 0, none⟩ = some (.slice Aa 4 ca) := HM2.out.cell 0
          have k1 : w2.cell? ⟨gd, 1, none⟩ = some (.int .i64 5) := HM2.out.cell 1
          have kl : gd < w2.heap.size := HM2.out.lt
          clear hcl hq hC)
       | (go_at_call 74
          have hc0 : Blk (w0.alloc (.cells clientZ 168)).drew w0.heap.size 168 clientZ := (Blk.new _ _ _).drew
          have hc2 : Below w0.heap.size w0 (w0.alloc (.cells clientZ 168)).drew := ((Below.refl _ _).alloc (Nat.le_refl _) _).drew
          have hC := bytesClone_hid Aa 4 ca xa (w0.alloc (.cells clientZ 168)).drew ((((HA.out.below HB0.out)).below (hc2.mono (Nat.le_of_lt HM0.out.lt))).more (by have := hc2.size; have := HM0.out.lt; omega)) HA1.out (by omega)
          unfold clientZ at hC
          with_reducible refine hC.mono ?_
          rintro e w2 hq
          obtain ⟨v2, rfl, hcl⟩ := hq.out
          obtain ⟨A2, c2, rfl⟩ := own_slice hcl.own
          have HM2 := Lib.hid ((HM0.out.alloc _).drew.below hcl.below (Nat.lt_of_lt_of_le HM0.out.lt hc2.size)); have HB2 := Lib.hid (show Below w0.heap.size w0 w2 from hc2.trans (hcl.below.mono hc2.size))
          have HO2 := Lib.hid hcl.own
          have HNE : Hid (gd ≠ w0.heap.size) := Lib.hid (Nat.ne_of_lt HM0.out.lt)
          have k0 : w2.cell? ⟨gd, 0, none⟩ = some (.slice Aa 4 ca) := HM2.out.cell 0
          have k1 : w2.cell? ⟨gd, 1, none⟩ = some (.int .i64 5) := HM2.out.cell 1
          have hc2 := hc0.below hcl.below hc0.lt
          have HC2 := Lib.hid hc2
          have uc0 : w2.cell? ⟨w0.heap.size, 0, none⟩ = some (.slice none 0 0) := hc2.cell 0; have uf0 : w2.frozen? ⟨w0.heap.size, 0, none⟩ = false := hc2.frozen 0; have uc1 : w2.cell? ⟨w0.heap.size, 1, none⟩ = some (.int .i64 0) := hc2.cell 1; have uf1 : w2.frozen? ⟨w0.heap.size, 1, none⟩ = false := hc2.frozen 1; have uc2 : w2.cell? ⟨w0.heap.size, 2, none⟩ = some (.int .i64 0) := hc2.cell 2; have uf2 : w2.frozen? ⟨w0.heap.size, 2, none⟩ = false := hc2.frozen 2; have uc3 : w2.cell? ⟨w0.heap.size, 3, none⟩ = some (.bool false) := hc2.cell 3; have uf3 : w2.frozen? ⟨w0.heap.size, 3, none⟩ = false := hc2.frozen 3; have uc4 : w2.cell? ⟨w0.heap.size, 4, none⟩ = some (.int .i64 0) := hc2.cell 4; have uf4 : w2.frozen? ⟨w0.heap.size, 4, none⟩ = false := hc2.frozen 4; have uc5 : w2.cell? ⟨w0.heap.size, 5, none⟩ = some (.bool false) := hc2.cell 5; have uf5 : w2.frozen? ⟨w0.heap.size, 5, none⟩ = false := hc2.frozen 5; have uc6 : w2.cell? ⟨w0.heap.size, 6, none⟩ = some (.bool false) := hc2.cell 6; have uf6 : w2.frozen? ⟨w0.heap.size, 6, none⟩ = false := hc2.frozen 6; have uc7 : w2.cell? ⟨w0.heap.size, 7, none⟩ = some (.bool false) := hc2.cell 7; have uf7 : w2.frozen? ⟨w0.heap.size, 7, none⟩ = false := hc2.frozen 7; have uc8 : w2.cell? ⟨w0.heap.size, 8, none⟩ = some (.bool false) := hc2.cell 8; have uf8 : w2.frozen? ⟨w0.heap.size, 8, none⟩ = false := hc2.frozen 8; have uc9 : w2.cell? ⟨w0.heap.size, 9, none⟩ = some (.int .i64 0) := hc2.cell 9; have uf9 : w2.frozen? ⟨w0.heap.size, 9, none⟩ = false := hc2.frozen 9; have uc10 : w2.cell? ⟨w0.heap.size, 10, none⟩ = some (.slice none 0 0) := hc2.cell 10; have uf10 : w2.frozen? ⟨w0.heap.size, 10, none⟩ = false := hc2.frozen 10; have uc11 : w2.cell? ⟨w0.heap.size, 11, none⟩ = some (.slice none 0 0) := hc2.cell 11; have uf11 : w2.frozen? ⟨w0.heap.size, 11, none⟩ = false := hc2.frozen 11; have uc12 : w2.cell? ⟨w0.heap.size, 12, none⟩ = some (.slice none 0 0) := hc2.cell 12; have uf12 : w2.frozen? ⟨w0.heap.size, 12, none⟩ = false := hc2.frozen 12; have uc13 : w2.cell? ⟨w0.heap.size, 13, none⟩ = some (.slice none 0 0) := hc2.cell 13; have uf13 : w2.frozen? ⟨w0.heap.size, 13, none⟩ = false := hc2.frozen 13; have uc14 : w2.cell? ⟨w0.heap.size, 14, none⟩ = some (.bool false) := hc2.cell 14; have uf14 : w2.frozen? ⟨w0.heap.size, 14, none⟩ = false := hc2.frozen 14; have uc15 : w2.cell? ⟨w0.heap.size, 15, none⟩ = some (.int .i64 0) := hc2.cell 15; have uf15 : w2.frozen? ⟨w0.heap.size, 15, none⟩ = false := hc2.frozen 15
          clear hcl hq hc0 hc2 hC))
    · obtain ⟨gk, hgk⟩ : ∃ g, g = w2.heap.size := ⟨_, rfl⟩
      obtain ⟨wk, hwk⟩ : ∃ W, W = w2.alloc (.cells (clientA A2 c2) 168) := ⟨_, rfl⟩
      have hC : CliW gd gk ca cb c2 Aa Ab A2 xa w wk := by
        rw [hwk, hgk]
        exact ⟨Blk.new _ _ _, HM2.out.alloc _, (HB0.out.trans (HB2.out.mono (Nat.le_of_lt HM0.out.lt))).alloc (Nat.le_of_lt HM2.out.lt) _, (own_base HO2.out (Nat.zero_le _)).alloc _, HM2.out.lt⟩
      unfold clientA at hwk
      rw [← hwk, ← hgk]
      have HC := Lib.hid hC
      clear hwk hgk hC
      go_simp
      go_wp2_with fail
      go_meet
      exact Lib.hid ⟨gk, c2, A2, rfl, HC.out⟩
    · obtain ⟨gk, hgk⟩ : ∃ g, g = w0.heap.size := ⟨_, rfl⟩
      obtain ⟨wk, hwk⟩ : ∃ W, W = w2.setCells w0.heap.size 0 [.slice A2 4 c2, .int .i64 5, .int .i64 0, .bool false, .int .i64 0, .bool false, .bool false, .bool false, .bool false, .int .i64 0, .slice none 0 0, .slice none 0 0, .slice none 0 0, .slice none 0 0, .bool false, .int .i64 0] := ⟨_, rfl⟩
      have hC : CliW gd gk ca cb c2 Aa Ab A2 xa w wk := by
        obtain ⟨hg, hs⟩ := setCells_grown w2 w0.heap.size 0 [.slice A2 4 c2, .int .i64 5, .int .i64 0, .bool false, .int .i64 0, .bool false, .bool false, .bool false, .bool false, .int .i64 0, .slice none 0 0, .slice none 0 0, .slice none 0 0, .slice none 0 0, .bool false, .int .i64 0]
        have hb := HC2.out.sets_ 0 [.slice A2 4 c2, .int .i64 5, .int .i64 0, .bool false, .int .i64 0, .bool false, .bool false, .bool false, .bool false, .int .i64 0, .slice none 0 0, .slice none 0 0, .slice none 0 0, .slice none 0 0, .bool false, .int .i64 0]
        rw [sets_A] at hb
        rw [hwk, hgk]
        refine ⟨?_, HM2.out.grown hg (by intro e; injection e with e; exact HNE.out e), ?_, ?_, HM0.out.lt⟩
        · exact hb
        · exact (HB0.out.trans (HB2.out.mono (Nat.le_of_lt HM0.out.lt))).grown hg (Nat.le_of_lt HM2.out.lt) (by intro k hk; injection hk with hk; have := HM0.out.lt; omega)
        · exact own_base (HO2.out.kept hg (own_blk_ne HO2.out HC2.out (by decide))) (Nat.zero_le _)
      simp only [World.setCells, Nat.reduceAdd, Nat.zero_add] at hwk
      rw [← hwk, ← hgk]
      have HC := Lib.hid hC
      clear hwk hgk hC
      go_simp
      go_wp2_with fail
      go_meet
      exact Lib.hid ⟨gk, c2, A2, rfl, HC.out⟩
  case rest =>
    obtain ⟨gk, c2, A2, rfl, hC⟩ := hcut.out
    have d2 := hC.d.cell 2
    unfold dgC at d2
    have HC := Lib.hid hC
    clear hcut hC
    go_wp2_with fail
    refine (Decode_any cb Ab s hs wc (((HD.out.below HC.out.fr)).more (Nat.le_of_lt HC.out.d.lt)) hcb).mono ?_
    rintro e w5 hq
    obtain ⟨Aq, cq, A', c', rfl, hoq, hon, hb5⟩ := hq.out
    obtain ⟨gq, _, hvq, hgq, hgq5⟩ := hoq.form (by omega)
    injection hvq with hAq hl1 hc1
    subst hAq
    subst hc1
    obtain ⟨gn, _, hvn, hgn, hgn5⟩ := hon.form (by omega)
    injection hvn with hAn hl2 hc2
    subst hAn
    subst hc2
    have hcn := own_cap hon
    have hq5 : OneQ w5.heap.size gq gn c' s w5 := by
      have h1 := hoq.cells (g := gq) rfl
      have h2 := hon.cells (g := gn) rfl
      exact ⟨by have := h1 0 _ rfl; rwa [add0] at this, by have := h1 1 _ rfl; rwa [add0] at this, by have := h1 2 _ rfl; rwa [add0] at this, by have := h2 0 _ rfl; rwa [add0] at this, hgq5, hgn5⟩
    have hfr5 := HC.out.fr.trans (hb5.mono (Nat.le_of_lt HC.out.d.lt))
    have hk5 := HC.out.k.below hb5 HC.out.k.lt
    have HAK : Hid (∀ w7 : World, (w5.alloc (.cells (askC gq cq) 29)).grownBy w7 (some gk) → Rd w7 w7.heap.size 1 A2 4 xa) := by
      refine Lib.hid fun w7 hg7 => ?_
      have h6 := (own_below HC.out.a hb5).alloc (.cells (askC gq cq) 29)
      exact Rd.of_own (h6.kept hg7 (own_blk_ne h6 (hk5.alloc _) (by decide)))
    have hne : gk < w5.heap.size := hk5.lt
    have HK5 := Lib.hid hk5; have HQ5 := Lib.hid hq5; have HFR5 := Lib.hid hfr5; have HLT5 : Hid (gk < w5.heap.size) := Lib.hid hne
    have HCN := Lib.hid hcn; have HGQ := Lib.hid hgq; have HGN := Lib.hid hgn
    clear hq hoq hon hb5 hk5 hq5 hfr5 hne hcn d2 hgq hgq5 hgn hgn5
    unfold askM
    go_simp
    go_wp2_with (refine wpList_sto rfl 29 (.tmp 69) (.tmp 68) rfl (HK5.out.alloc _) 2 #[.int .i64 7, .bool false, .int .i64 0, .bool false, .bool false, .bool true, .bool false, .int .i64 0, .slice (some ⟨gq, 0, none⟩) 1 cq, .slice none 0 0, .slice none 0 0, .slice none 0 0, .bool false, .int .i64 0] rfl rfl (by simp [clientA]) (by kernel_rfl) (by simp [Value.oneCell']) ?_
                 intro w7 hk7 hg7 hs7
                 have hk7 : Blk w7 gk 168 (clientC A2 4 c2 gq cq) := by have := hk7; rwa [sets_C] at this
                 obtain ⟨gm, hgm⟩ : ∃ g, g = w5.heap.size := ⟨_, rfl⟩
                 rw [← hgm]
                 have hb6 : Below gm w5 (w5.alloc (.cells (askC gq cq) 29)) := by rw [hgm]; exact (Below.refl _ _).alloc (Nat.le_refl _) _
                 have hm7 : Blk w7 gm 29 (askC gq cq) := by rw [hgm]; exact (Blk.new w5 29 (askC gq cq)).grown hg7 (by have := HLT5.out; intro e; injection e; omega)
                 have hs7 : gm < w7.heap.size := hm7.lt
                 have hfr7 : Below gd w w7 := (HFR5.out.trans (hb6.mono (by have := HLT5.out; have := HC.out.gk; omega))).grown hg7 (by have := HLT5.out; have := HC.out.gk; simp; omega) (by intro k hk; injection hk with hk; have := HC.out.gk; omega)
                 have hnq : some gq ≠ some gk := by have := HGQ.out; have := HC.out.k.lt; intro e; injection e; omega
                 have hnn : some gn ≠ some gk := by have := HGN.out; have := HC.out.k.lt; intro e; injection e; omega
                 have hs6 : w5.heap.size ≤ w7.heap.size := by have := hg7.size; simp at this; omega
                 have hq7 : OneQ w7.heap.size gq gn c' s w7 := by
                   have h5 := HQ5.out
                   have eq1 := (hg7.block gq (by have := h5.ql; simp; omega) hnq).trans (Below.heap_alloc w5 _ gq h5.ql)
                   have eq2 := (hg7.block gn (by have := h5.nl; simp; omega) hnn).trans (Below.heap_alloc w5 _ gn h5.nl)
                   exact ⟨(World.cell?_of_block eq1).trans h5.q0, (World.cell?_of_block eq1).trans h5.q1, (World.cell?_of_block eq1).trans h5.q2, (World.cell?_of_block eq2).trans h5.n0, Nat.lt_of_lt_of_le h5.ql hs6, Nat.lt_of_lt_of_le h5.nl hs6⟩
                 have ha7 : Rd w7 w7.heap.size 1 A2 4 xa := HAK.out w7 hg7
                 have m0 : w7.cell? ⟨gm, 0, none⟩ = some (.int .i64 7) := hm7.cell 0
                 have m1 : w7.cell? ⟨gm, 1, none⟩ = some (.bool false) := hm7.cell 1
                 have m2 : w7.cell? ⟨gm, 2, none⟩ = some (.int .i64 0) := hm7.cell 2
                 have m3 : w7.cell? ⟨gm, 3, none⟩ = some (.bool false) := hm7.cell 3
                 have m4 : w7.cell? ⟨gm, 4, none⟩ = some (.bool false) := hm7.cell 4
                 have m5 : w7.cell? ⟨gm, 5, none⟩ = some (.bool true) := hm7.cell 5
                 have m6 : w7.cell? ⟨gm, 6, none⟩ = some (.bool false) := hm7.cell 6
                 have m7 : w7.cell? ⟨gm, 7, none⟩ = some (.int .i64 0) := hm7.cell 7
                 have m8 : w7.cell? ⟨gm, 8, none⟩ = some (.slice (some ⟨gq, 0, none⟩) 1 cq) := hm7.cell 8
                 have m9 : w7.cell? ⟨gm, 9, none⟩ = some (.slice none 0 0) := hm7.cell 9
                 have m10 : w7.cell? ⟨gm, 10, none⟩ = some (.slice none 0 0) := hm7.cell 10
                 have m11 : w7.cell? ⟨gm, 11, none⟩ = some (.slice none 0 0) := hm7.cell 11
                 have m12 : w7.cell? ⟨gm, 12, none⟩ = some (.bool false) := hm7.cell 12
                 have m13 : w7.cell? ⟨gm, 13, none⟩ = some (.int .i64 0) := hm7.cell 13
                 have HM7 := Lib.hid hm7; have HK7 := Lib.hid hk7; have HFR7 := Lib.hid hfr7; have HQ7 := Lib.hid hq7; have HA7 := Lib.hid ha7
                 clear hm7 hk7 hfr7 hq7 ha7 hs7 hs6 hb6 hgm hnq hnn hg7)
    have hf7 := HF.out.below HFR7.out
    have hl7 : gd < w7.heap.size := by have := HC.out.gk; have := HK7.out.lt; omega
    refine (code_any gf gq cq gn c' cm cz az am s (by omega) (by omega) HL.out w7 HQ7.out.q0 HQ7.out.q1 HQ7.out.q2 HQ7.out.n0 HCN.out HQ7.out.ql HQ7.out.nl (by have := hf7.fl; omega) hf7.n hf7.z (by have := hf7.nl; omega) (by have := hf7.zl; omega) hf7.f8).mono ?_
    rintro e w8 ⟨rfl, hb8⟩
    have HM8 := Lib.hid (HM7.out.below hb8 HM7.out.lt); have HK8 := Lib.hid (HK7.out.below hb8 HK7.out.lt); have HFR8 := Lib.hid (HFR7.out.trans (hb8.mono (Nat.le_of_lt hl7)))
    have HQ8 := Lib.hid ((HQ7.out.below hb8).more hb8.size); have HA8 := Lib.hid ((HA7.out.below hb8).more hb8.size)
    have hl8 : gd < w8.heap.size := Nat.lt_of_lt_of_le hl7 hb8.size
    have m8 : w8.cell? ⟨gm, 8, none⟩ = some (.slice (some ⟨gq, 0, none⟩) 1 cq) := HM8.out.cell 8
    have k0 : w8.cell? ⟨gk, 0, none⟩ = some (.slice A2 4 c2) := HK8.out.cell 0; have k1 : w8.cell? ⟨gk, 1, none⟩ = some (.int .i64 5) := HK8.out.cell 1; have k2 : w8.cell? ⟨gk, 2, none⟩ = some (.int .i64 7) := HK8.out.cell 2; have k3 : w8.cell? ⟨gk, 3, none⟩ = some (.bool false) := HK8.out.cell 3; have k4 : w8.cell? ⟨gk, 4, none⟩ = some (.int .i64 0) := HK8.out.cell 4; have k5 : w8.cell? ⟨gk, 5, none⟩ = some (.bool false) := HK8.out.cell 5; have k6 : w8.cell? ⟨gk, 6, none⟩ = some (.bool false) := HK8.out.cell 6; have k7 : w8.cell? ⟨gk, 7, none⟩ = some (.bool true) := HK8.out.cell 7; have k8 : w8.cell? ⟨gk, 8, none⟩ = some (.bool false) := HK8.out.cell 8; have k9 : w8.cell? ⟨gk, 9, none⟩ = some (.int .i64 0) := HK8.out.cell 9; have k10 : w8.cell? ⟨gk, 10, none⟩ = some (.slice (some ⟨gq, 0, none⟩) 1 cq) := HK8.out.cell 10; have k11 : w8.cell? ⟨gk, 11, none⟩ = some (.slice none 0 0) := HK8.out.cell 11; have k12 : w8.cell? ⟨gk, 12, none⟩ = some (.slice none 0 0) := HK8.out.cell 12; have k13 : w8.cell? ⟨gk, 13, none⟩ = some (.slice none 0 0) := HK8.out.cell 13; have k14 : w8.cell? ⟨gk, 14, none⟩ = some (.bool false) := HK8.out.cell 14; have k15 : w8.cell? ⟨gk, 15, none⟩ = some (.int .i64 0) := HK8.out.cell 15
    clear m0 m1 m2 m3 m4 m5 m6 m7 m9 m10 m11 m12 m13 hb8 hf7 hl7
    go_simp
    go_wp2_with fail
    have hR := respond_any A2 4 c2 xa gq cq gn c' s hs hsd w8 HA8.out HA1.out (by omega) HQ8.out
    unfold clientV at hR
    refine hR.mono ?_
    clear hR
    rintro e w9 ⟨hq, hb9⟩
    obtain ⟨A3, n3, c3, A4, n4, c4, rfl⟩ := hq.out
    have HFR9 := Lib.hid (HFR8.out.trans (hb9.mono (Nat.le_of_lt hl8)))
    have hl9 : gd < w9.heap.size := Nat.lt_of_lt_of_le hl8 hb9.size
    clear hq hb9 m8 k0 k1 k2 k3 k4 k5 k6 k7 k8 k9 k10 k11 k12 k13 k14 k15
    go_simp
    go_wp2_with fail
    go_ret
    exact ⟨Lib.hid ⟨w9.heap.size, 1, rfl, (Blk.new w9 _ _).cell 1⟩, HGD.out ▸ HFR9.out.alloc (Nat.le_of_lt hl9) _⟩
end Go.Proofs.YtacmgogobjpmcaaGreat
