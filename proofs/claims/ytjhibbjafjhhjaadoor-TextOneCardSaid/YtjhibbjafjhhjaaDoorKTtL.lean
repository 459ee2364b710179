/- The walk of TextOne. -/
import Derived.Test.YtjhibbjafjhhjaaDoorKTtJ
namespace Go.Proofs.YtjhibbjafjhhjaaDoor
open Go.RowKit Go.Shelf
set_option maxRecDepth 100000
theorem info_flaw : (Tryd.prog.info? 41).map (fun i => (i.zero, i.size, i.bytes)) = some (some (.agg #[.int .i64 0, .slice none 0 0, .int .i64 0]), 3, 40) := by kernel_rfl
theorem info_seen : (Tryd.prog.info? 44).map (fun i => (i.zero, i.size, i.bytes)) = some (some (.agg #[.int .i64 0, .slice none 0 0, .int .i64 0, .slice none 0 0]), 4, 64) := by kernel_rfl
theorem wf_u8b {n : Int} (h : (Lit.int .u8 n).wf = true) : 0 <= n /\ n < 256 := by
 simp only [Lit.wf, Bool.and_eq_true, decide_eq_true_eq] at h
 have h1 : IntKind.u8.min = 0 := by decide
 have h2 : IntKind.u8.max = 256 - 1 := by decide
 omega
set_option maxHeartbeats 16000000 in
theorem walkTextOne (a b c : Int) (stopped : Bool) (w : World) (ha : (Lit.int .u8 a).wf = true) (hb : (Lit.int .u8 b).wf = true) (hc : (Lit.int .u8 c).wf = true) (ht : Tab w) :
  Calls Tryd.prog 4 #[.int .u8 a, .int .u8 b, .int .u8 c, .bool stopped] w (TrTe w) := by
 have HT := Lib.hid ht
 obtain ⟨a0, a1⟩ := wf_u8b ha
 obtain ⟨b0, b1'⟩ := wf_u8b hb
 obtain ⟨c0, c1⟩ := wf_u8b hc
 obtain ⟨na, hna⟩ : ∃ n : Nat, a % 10 = (n : Int) := ⟨(a % 10).toNat, by omega⟩
 obtain ⟨nb, hnb⟩ : ∃ n : Nat, b % 10 = (n : Int) := ⟨(b % 10).toNat, by omega⟩
 obtain ⟨nc, hnc⟩ : ∃ n : Nat, c % 10 = (n : Int) := ⟨(c % 10).toNat, by omega⟩
 have na9 : na <= 9 := by omega
 have nb9 : nb <= 9 := by omega
 have nc9 : nc <= 9 := by omega
 have na9z : (na : Int) <= 9 := by omega
 have nb9z : (nb : Int) <= 9 := by omega
 have nc9z : (nc : Int) <= 9 := by omega
 clear ht ha hb hc
 refine (callsIn_wide (n := 0)).1 ?_
 refine callsIn_of_wp Tryd.func4 rfl trivial ?_ rfl
 simp only [Tryd.ntmps4, List.size_toArray, List.length_cons, List.length_nil, Nat.reduceAdd, Nat.reduceSub, Array.replicate_succ, Array.replicate_zero, List.push_toArray, List.append_toArray, List.nil_append, List.cons_append]
 gi_wp2_with fail
 refine (callsIn_wide.2 (known25_any w HT.out)).mono ?_
 rintro e w1 ⟨rfl, b1⟩
 have HB1 := Lib.hid b1
 have hM0 : OneM w w1.heap.size 0 0 0 (.slice none 0 0) (.slice none 0 0) (.slice none 0 0) 0 (w1.alloc (.cells #[.slice none 0 0, .slice none 0 0, .slice none 0 0, .slice none 0 0, .int .i64 0] 30)) :=
  ⟨GwM.nil _ _ _ _ _, GwM.nil _ _ _ _ _, GwM.nil _ _ _ _ _, Blk.new _ _ _, b1.alloc b1.size _⟩
 have HM := Lib.hid hM0
 have HWR : Hid (w.heap.size <= w1.heap.size) := b1.size
 clear b1 hM0
 gi_wp2_with fail
 obtain ⟨RB, hRB⟩ : ∃ b, w1.heap.size = b := ⟨_, rfl⟩
 obtain ⟨W0, hW0⟩ : ∃ x, w1.alloc (.cells #[.slice none 0 0, .slice none 0 0, .slice none 0 0, .slice none 0 0, .int .i64 0] 30) = x := ⟨_, rfl⟩
 rw [hW0] at HM ⊢
 rw [hRB] at HM HWR ⊢
 clear hW0 hRB
 gi_loopw [10] (fun vi A => ∃ (k : Nat) (a3 : Option Addr) (c3 : Nat), k <= na /\ vi = .int .i64 k /\ Hid (OneM w RB k 0 0 (.slice a3 k c3) (.slice none 0 0) (.slice none 0 0) 0 A)) (fun vi _ => na - (intOf vi).toNat)
 case atStart => exact ⟨0, none, 0, Nat.zero_le _, rfl, HM⟩
 case round =>
  obtain ⟨k, a3, c3, hk, rfl, HL⟩ := hrel
  clear HM
  have r0 : wr.cell? ⟨RB, 0, none⟩ = some (.slice a3 k c3) := HL.out.rb.cell 0
  by_cases hlt : k < na
  case pos =>
   have hlz : (k : Int) < (na : Int) := by omega
   have hk9 : (k : Int) <= 9 := by omega
   obtain ⟨fb, hfb⟩ : ∃ b, wr.heap.size = b := ⟨_, rfl⟩
   have HFB := Lib.hid hfb
   obtain ⟨X1, hX1⟩ : ∃ x, wr.alloc (.cells #[S [122], .int .i64 (k : Int), .int .i64 2] 32) = x := ⟨_, rfl⟩
   have sX1 : X1.heap.size = fb + 1 := by rw [<- hX1, World.size_alloc, hfb]
   have kX1 : Blk (fb) #[S [122], .int .i64 (k : Int), .int .i64 2] 32 X1 := by
    have h := Blk.new wr #[S [122], .int .i64 (k : Int), .int .i64 2] 32
    rw [hX1, hfb] at h; exact h
   have bX1 : Below wr.heap.size wr X1 := by rw [<- hX1]; exact (Below.refl _ _).alloc (Nat.le_refl _) _
   have HX1 := Lib.hid hX1
   have bL : Below X1.heap.size X1 (X1.alloc (.cells #[Value.pointer (some ⟨fb, 0, none⟩)] 33)) := (Below.refl _ _).alloc (Nat.le_refl _) _
   have HML := Lib.hid ((HL.out.on bX1).on bL)
   have HK1 := Lib.hid (kX1.below bL)
   have hGN : GRd 1 (.slice (some ⟨X1.heap.size, 0, none⟩) 1 1) [[Value.pointer (some ⟨fb, 0, none⟩)]] (X1.alloc (.cells #[Value.pointer (some ⟨fb, 0, none⟩)] 33)) := GRd.new [Value.pointer (some ⟨fb, 0, none⟩)] rfl (by simp [Value.oneCell']) X1 33
   rw [sX1] at hGN
   have HGN := Lib.hid hGN
   have HSZ : Hid (RB < (X1.alloc (.cells #[Value.pointer (some ⟨fb, 0, none⟩)] 33)).heap.size) := HML.out.rb.lt
   obtain ⟨hl0, xs, hx1, hx2, hx3, hx4⟩ := HML.out.e
   have HQ1 := Lib.hid hx1
   have HQ2 := Lib.hid hx2
   have HQ3 := Lib.hid hx3
   have HQ4 := Lib.hid hx4
   have hxl : xs.length = k := by omega
   clear hfb hX1 sX1 kX1 bX1 bL hGN hl0 hx1 hx2 hx3 hx4
   gi_wp2_with (gi_at_builtin; rw [HX1.out, HFB.out]; refine append_g (fun g => RB < g) 33 _ 1 8 info_ptr rfl (by decide) rfl _ _ _ Tryd.underlying28 rfl _ k xs (by rfl) HQ2.out _ [[Value.pointer (some ⟨fb, 0, none⟩)]] (by rfl) HGN.out (by simp; omega) (by omega) HSZ.out ?_; intro v' w' hrow' hgr; obtain ⟨a4, c4, rfl⟩ := hrow'.form; have hrb' := HML.out.rb.rowKeep HQ2.out hgr (by decide); have c5 : w'.cell? ⟨RB, 0, none⟩ = some (.slice a3 k c3) := hrb'.cell 0; have z5 := hrb'.frozen 0; have HP := Lib.hid (HML.out.pushE HWR.out HK1.out HQ1.out HQ2.out HQ3.out HQ4.out hrow' hgr); clear hrb' hrow' hgr r0)
   gi_wp2_with fail
   exact ⟨⟨k + 1, a4, c4, hlt, by go_num, HP⟩, by simp [intOf]; omega⟩
  case neg =>
   obtain rfl : na = k := by omega
   have hlz : ¬ ((na : Int) < (na : Int)) := by omega
   have HM := HL
   clear HL r0
   obtain ⟨e3, hr0⟩ : ∃ x, a3 = x := ⟨_, rfl⟩
   obtain ⟨f3, hr1⟩ : ∃ x, c3 = x := ⟨_, rfl⟩
   rw [hr0, hr1] at HM
   clear hr0 hr1
   gi_wp2_with fail
   gi_loopw [11] (fun vi A => ∃ (k : Nat) (a3 : Option Addr) (c3 : Nat), k <= nb /\ vi = .int .i64 k /\ Hid (OneM w RB na k 0 (.slice e3 na f3) (.slice a3 k c3) (.slice none 0 0) 0 A)) (fun vi _ => nb - (intOf vi).toNat)
   case atStart => exact ⟨0, none, 0, Nat.zero_le _, rfl, HM⟩
   case round =>
    obtain ⟨k, a3, c3, hk, rfl, HL⟩ := hrel
    clear HM
    have r0 : wr.cell? ⟨RB, 1, none⟩ = some (.slice a3 k c3) := HL.out.rb.cell 1
    by_cases hlt : k < nb
    case pos =>
     have hlz : (k : Int) < (nb : Int) := by omega
     have hk9 : (k : Int) <= 9 := by omega
     obtain ⟨fb, hfb⟩ : ∃ b, wr.heap.size = b := ⟨_, rfl⟩
     have HFB := Lib.hid hfb
     obtain ⟨X1, hX1⟩ : ∃ x, wr.alloc (.cells #[S [97]] 9) = x := ⟨_, rfl⟩
     have sX1 : X1.heap.size = fb + 1 := by rw [<- hX1, World.size_alloc, hfb]
     have kX1 : Blk (fb) #[S [97]] 9 X1 := by
      have h := Blk.new wr #[S [97]] 9
      rw [hX1, hfb] at h; exact h
     have bX1 : Below wr.heap.size wr X1 := by rw [<- hX1]; exact (Below.refl _ _).alloc (Nat.le_refl _) _
     have HX1 := Lib.hid hX1
     have bL : Below X1.heap.size X1 (X1.alloc (.cells #[Value.int .i64 (1 + (k : Int) % 9), Value.slice (some ⟨fb, 0, none⟩) 1 1, Value.int .i64 (1 + (k : Int))] 41)) := (Below.refl _ _).alloc (Nat.le_refl _) _
     have HML := Lib.hid ((HL.out.on bX1).on bL)
     have HK1 := Lib.hid (kX1.below bL)
     have hGN : GRd 3 (.slice (some ⟨X1.heap.size, 0, none⟩) 1 1) [[Value.int .i64 (1 + (k : Int) % 9), Value.slice (some ⟨fb, 0, none⟩) 1 1, Value.int .i64 (1 + (k : Int))]] (X1.alloc (.cells #[Value.int .i64 (1 + (k : Int) % 9), Value.slice (some ⟨fb, 0, none⟩) 1 1, Value.int .i64 (1 + (k : Int))] 41)) := GRd.new [Value.int .i64 (1 + (k : Int) % 9), Value.slice (some ⟨fb, 0, none⟩) 1 1, Value.int .i64 (1 + (k : Int))] rfl (by simp [Value.oneCell']) X1 41
     rw [sX1] at hGN
     have HGN := Lib.hid hGN
     have HSZ : Hid (RB < (X1.alloc (.cells #[Value.int .i64 (1 + (k : Int) % 9), Value.slice (some ⟨fb, 0, none⟩) 1 1, Value.int .i64 (1 + (k : Int))] 41)).heap.size) := HML.out.rb.lt
     obtain ⟨hl0, xs, hx1, hx2, hx3, hx4⟩ := HML.out.f
     have HQ1 := Lib.hid hx1
     have HQ2 := Lib.hid hx2
     have HQ3 := Lib.hid hx3
     have HQ4 := Lib.hid hx4
     have hxl : xs.length = k := by omega
     clear hfb hX1 sX1 kX1 bX1 bL hGN hl0 hx1 hx2 hx3 hx4
     gi_wp2_with (gi_at_builtin; rw [HX1.out, HFB.out]; refine append_g (fun g => RB < g) 41 _ 3 40 info_flaw rfl (by decide) rfl _ _ _ Tryd.underlying23 rfl _ k xs (by rfl) HQ2.out _ [[Value.int .i64 (1 + (k : Int) % 9), Value.slice (some ⟨fb, 0, none⟩) 1 1, Value.int .i64 (1 + (k : Int))]] (by rfl) HGN.out (by simp; omega) (by omega) HSZ.out ?_; intro v' w' hrow' hgr; obtain ⟨a4, c4, rfl⟩ := hrow'.form; have hrb' := HML.out.rb.rowKeep HQ2.out hgr (by decide); have c5 : w'.cell? ⟨RB, 1, none⟩ = some (.slice a3 k c3) := hrb'.cell 1; have z5 := hrb'.frozen 1; have HP := Lib.hid (HML.out.pushF HWR.out HK1.out HQ1.out HQ2.out HQ3.out HQ4.out hrow' hgr); clear hrb' hrow' hgr r0)
     gi_wp2_with fail
     exact ⟨⟨k + 1, a4, c4, hlt, by go_num, HP⟩, by simp [intOf]; omega⟩
    case neg =>
     obtain rfl : nb = k := by omega
     have hlz : ¬ ((nb : Int) < (nb : Int)) := by omega
     have HM := HL
     clear HL r0
     obtain ⟨g3, hr0⟩ : ∃ x, a3 = x := ⟨_, rfl⟩
     obtain ⟨h3, hr1⟩ : ∃ x, c3 = x := ⟨_, rfl⟩
     rw [hr0, hr1] at HM
     clear hr0 hr1
     gi_wp2_with fail
     gi_loopw [12] (fun vi A => ∃ (k : Nat) (a3 : Option Addr) (c3 : Nat), k <= nc /\ vi = .int .i64 k /\ Hid (OneM w RB na nb k (.slice e3 na f3) (.slice g3 nb h3) (.slice a3 k c3) 0 A)) (fun vi _ => nc - (intOf vi).toNat)
     case atStart => exact ⟨0, none, 0, Nat.zero_le _, rfl, HM⟩
     case round =>
      obtain ⟨k, a3, c3, hk, rfl, HL⟩ := hrel
      clear HM
      have r0 : wr.cell? ⟨RB, 3, none⟩ = some (.slice a3 k c3) := HL.out.rb.cell 3
      by_cases hlt : k < nc
      case pos =>
       have hlz : (k : Int) < (nc : Int) := by omega
       have hk9 : (k : Int) <= 9 := by omega
       obtain ⟨fb, hfb⟩ : ∃ b, wr.heap.size = b := ⟨_, rfl⟩
       have HFB := Lib.hid hfb
       obtain ⟨X1, hX1⟩ : ∃ x, wr.alloc (.cells #[S [98]] 9) = x := ⟨_, rfl⟩
       have sX1 : X1.heap.size = fb + 1 := by rw [<- hX1, World.size_alloc, hfb]
       have kX1 : Blk (fb) #[S [98]] 9 X1 := by
        have h := Blk.new wr #[S [98]] 9
        rw [hX1, hfb] at h; exact h
       have bX1 : Below wr.heap.size wr X1 := by rw [<- hX1]; exact (Below.refl _ _).alloc (Nat.le_refl _) _
       have HX1 := Lib.hid hX1
       obtain ⟨X2, hX2⟩ : ∃ x, X1.alloc (.cells #[.int .i64 (k : Int)] 3) = x := ⟨_, rfl⟩
       have sX2 : X2.heap.size = fb + 1 + 1 := by rw [<- hX2, World.size_alloc, sX1]
       have kX2 : Blk (fb + 1) #[.int .i64 (k : Int)] 3 X2 := by
        have h := Blk.new X1 #[.int .i64 (k : Int)] 3
        rw [hX2, sX1] at h; exact h
       have bX2 : Below X1.heap.size X1 X2 := by rw [<- hX2]; exact (Below.refl _ _).alloc (Nat.le_refl _) _
       have HX2 := Lib.hid hX2
       have bL : Below X2.heap.size X2 (X2.alloc (.cells #[Value.int .i64 (5 + (k : Int) % 5), Value.slice (some ⟨fb, 0, none⟩) 1 1, Value.int .i64 1, Value.slice (some ⟨fb + 1, 0, none⟩) 1 1] 44)) := (Below.refl _ _).alloc (Nat.le_refl _) _
       have HML := Lib.hid (((HL.out.on bX1).on bX2).on bL)
       have HK1 := Lib.hid ((kX1.below bX2).below bL)
       have HK2 := Lib.hid (kX2.below bL)
       have hGN : GRd 4 (.slice (some ⟨X2.heap.size, 0, none⟩) 1 1) [[Value.int .i64 (5 + (k : Int) % 5), Value.slice (some ⟨fb, 0, none⟩) 1 1, Value.int .i64 1, Value.slice (some ⟨fb + 1, 0, none⟩) 1 1]] (X2.alloc (.cells #[Value.int .i64 (5 + (k : Int) % 5), Value.slice (some ⟨fb, 0, none⟩) 1 1, Value.int .i64 1, Value.slice (some ⟨fb + 1, 0, none⟩) 1 1] 44)) := GRd.new [Value.int .i64 (5 + (k : Int) % 5), Value.slice (some ⟨fb, 0, none⟩) 1 1, Value.int .i64 1, Value.slice (some ⟨fb + 1, 0, none⟩) 1 1] rfl (by simp [Value.oneCell']) X2 44
       rw [sX2] at hGN
       have HGN := Lib.hid hGN
       have HSZ : Hid (RB < (X2.alloc (.cells #[Value.int .i64 (5 + (k : Int) % 5), Value.slice (some ⟨fb, 0, none⟩) 1 1, Value.int .i64 1, Value.slice (some ⟨fb + 1, 0, none⟩) 1 1] 44)).heap.size) := HML.out.rb.lt
       obtain ⟨hl0, xs, hx1, hx2, hx3, hx4⟩ := HML.out.s
       have HQ1 := Lib.hid hx1
       have HQ2 := Lib.hid hx2
       have HQ3 := Lib.hid hx3
       have HQ4 := Lib.hid hx4
       have hxl : xs.length = k := by omega
       clear hfb hX1 sX1 kX1 bX1 hX2 sX2 kX2 bX2 bL hGN hl0 hx1 hx2 hx3 hx4
       gi_wp2_with (gi_at_builtin; rw [HX1.out, HFB.out, HX2.out]; refine append_g (fun g => RB < g) 44 _ 4 64 info_seen rfl (by decide) rfl _ _ _ Tryd.underlying25 rfl _ k xs (by rfl) HQ2.out _ [[Value.int .i64 (5 + (k : Int) % 5), Value.slice (some ⟨fb, 0, none⟩) 1 1, Value.int .i64 1, Value.slice (some ⟨fb + 1, 0, none⟩) 1 1]] (by rfl) HGN.out (by simp; omega) (by omega) HSZ.out ?_; intro v' w' hrow' hgr; obtain ⟨a4, c4, rfl⟩ := hrow'.form; have hrb' := HML.out.rb.rowKeep HQ2.out hgr (by decide); have c5 : w'.cell? ⟨RB, 3, none⟩ = some (.slice a3 k c3) := hrb'.cell 3; have z5 := hrb'.frozen 3; have HP := Lib.hid (HML.out.pushS HWR.out HK1.out HK2.out HQ1.out HQ2.out HQ3.out HQ4.out hrow' hgr); clear hrb' hrow' hgr r0)
       gi_wp2_with fail
       exact ⟨⟨k + 1, a4, c4, hlt, by go_num, HP⟩, by simp [intOf]; omega⟩
      case neg =>
       obtain rfl : nc = k := by omega
       have hlz : ¬ ((nc : Int) < (nc : Int)) := by omega
       have HM := HL
       clear HL r0
       obtain ⟨i3, hr0⟩ : ∃ x, a3 = x := ⟨_, rfl⟩
       obtain ⟨j3, hr1⟩ : ∃ x, c3 = x := ⟨_, rfl⟩
       rw [hr0, hr1] at HM
       clear hr0 hr1
       have r4 : wr.cell? ⟨RB, 4, none⟩ = some (.int .i64 0) := HM.out.rb.cell 4
       have z4 := HM.out.rb.frozen 4
       cases stopped with
       | true =>
        have hm2 := HM.out.stop HWR.out 11
        have q0 : (wr.setCell ⟨RB, 4, none⟩ (.int .i64 11)).cell? ⟨RB, 0, none⟩ = some (.slice e3 na f3) := hm2.rb.cell 0
        have q1 : (wr.setCell ⟨RB, 4, none⟩ (.int .i64 11)).cell? ⟨RB, 1, none⟩ = some (.slice g3 nb h3) := hm2.rb.cell 1
        have q2 : (wr.setCell ⟨RB, 4, none⟩ (.int .i64 11)).cell? ⟨RB, 2, none⟩ = some (.slice none 0 0) := hm2.rb.cell 2
        have q3 : (wr.setCell ⟨RB, 4, none⟩ (.int .i64 11)).cell? ⟨RB, 3, none⟩ = some (.slice i3 nc j3) := hm2.rb.cell 3
        have q4 : (wr.setCell ⟨RB, 4, none⟩ (.int .i64 11)).cell? ⟨RB, 4, none⟩ = some (.int .i64 11) := hm2.rb.cell 4
        have HM2 := Lib.hid hm2
        clear hm2
        gi_wp2_with fail
        clear q0 q1 q2 q3 q4
        obtain ⟨A, hA⟩ : ∃ x, wr.setCell ⟨RB, 4, none⟩ (.int .i64 11) = x := ⟨_, rfl⟩
        rw [hA] at HM2 ⊢
        clear hA HM r4 z4
        have HM := HM2
        clear HM2
        have hrep := HM.out.rep
        have hokr : (Tt.mine na nb nc 11).Ok := Tt.mine_ok na9 nb9 nc9 (by decide) (by decide)
        have hli := lines_any _ _ _ _ (Tt.mine na nb nc 11) A hrep hokr (HT.out.below HM.out.below)
        have hNN : (Tt.lines (Tt.mine na nb nc 11)).length = na + nb + nc + 1 := by rw [Tt.mine_len]; simp
        have HLI := Lib.hid hli
        have HNN := Lib.hid hNN
        clear hrep hokr hli hNN
        refine (callsIn_wide.2 HLI.out).mono ?_
        rintro e w2 ⟨o, rfl, hl2, _, b2⟩
        have HM2 := Lib.hid (HM.out.on b2)
        obtain ⟨N, hN⟩ : ∃ n : Nat, na + nb + nc + 1 = n := ⟨_, rfl⟩
        have hNz : (na : Int) + (nb : Int) + (nc : Int) + 1 = (N : Int) := by omega
        have hN28 : N <= 28 := by omega
        have hN28z : (N : Int) <= 28 := by omega
        have hL : (Tt.lines (Tt.mine na nb nc 11)).length = N := by rw [HNN.out, hN]
        rw [hL] at hl2 ⊢
        have HL2 := Lib.hid hl2
        have HLN := Lib.hid hL
        have HNE := Lib.hid hN
        clear hl2 b2 HLI hL hN
        have r0 : w2.cell? ⟨RB, 0, none⟩ = some (.slice e3 na f3) := HM2.out.rb.cell 0
        have r1 : w2.cell? ⟨RB, 1, none⟩ = some (.slice g3 nb h3) := HM2.out.rb.cell 1
        have r3 : w2.cell? ⟨RB, 3, none⟩ = some (.slice i3 nc j3) := HM2.out.rb.cell 3
        gi_wp2_with fail
        clear r0 r1 r3
        gi_loopw [15] (fun vi B => ∃ i : Nat, i <= N /\ vi = .int .i64 i /\ Hid (Below w2.heap.size w2 B)) (fun vi _ => N - (intOf vi).toNat)
        case atStart => exact ⟨0, Nat.zero_le _, rfl, Below.refl _ _⟩
        case round =>
         obtain ⟨i, hi, rfl, HBi⟩ := hrel
         obtain ⟨B, hB⟩ : ∃ x, x = wr := ⟨_, rfl⟩
         rw [<- hB] at HBi ⊢
         clear hB
         have HBB := Lib.hid (below5 HM2.out.below HBi.out)
         have r0 : B.cell? ⟨RB, 0, none⟩ = some (.slice e3 na f3) := (HM2.out.rb.below HBi.out).cell 0
         have r1 : B.cell? ⟨RB, 1, none⟩ = some (.slice g3 nb h3) := (HM2.out.rb.below HBi.out).cell 1
         by_cases hlt : i < N
         case neg =>
          have hlz : ¬ ((i : Int) < (N : Int)) := by omega
          gi_wp2_with fail
          go_ret
          exact ⟨rfl, HBB.out⟩
         case pos =>
         have hlz : (i : Int) < (N : Int) := by omega
         have hlen : i < (Tt.lines (Tt.mine na nb nc 11)).length := by rw [HLN.out]; exact hlt
         have hkl : i < (Tt.kinds na nb nc 11).length := by rw [<- Tt.lines_kinds, List.length_map]; exact hlen
         obtain ⟨h5, h6⟩ := Tt.mine_at hlen hkl
         rw [Tt.kinds_at hkl] at h5
         have hrd : Rd (.slice o (Tt.lines (Tt.mine na nb nc 11)).length N) (Tt.lines (Tt.mine na nb nc 11)) B := by rw [HLN.out]; exact HL2.out.below HBi.out
         obtain ⟨ad, rfl, d1⟩ := hrd.cells _ (Below.refl _ _) i hlen
         have hxl := (Tt.mine_ok (ev := 11) na9 nb9 nc9 (by decide) (by decide)).line_len _ (List.getElem_mem hlen)
         obtain ⟨x, hx⟩ : ∃ x, (Tt.lines (Tt.mine na nb nc 11))[i] = x := ⟨_, rfl⟩
         rw [hx] at d1 h5 h6 hxl
         have h6z : (5 : Int) <= (x.length : Int) := by omega
         have hNe := HNE.out
         clear hx hrd hkl
         by_cases q0 : i + 1 = N
         case pos =>
          rw [if_neg (by omega), if_neg (by omega), if_neg (by omega)] at h5
          have f0 : ((i : Int) == (N : Int) - 1) = true := by simp; omega
          have e5 : x.take 5 = [115, 116, 111, 112, 112] := h5
          clear h5 hNe
          gi_wp2_with fail
          exact ⟨⟨i + 1, hlt, by go_num, HBi⟩, by simp [intOf]; omega⟩
         case neg =>
         have f0 : ((i : Int) == (N : Int) - 1) = false := by simp; omega
         by_cases q1 : na + nb <= i
         case pos =>
          rw [if_neg (by omega), if_neg (by omega), if_pos (by omega)] at h5
          have f1 : (na : Int) + (nb : Int) <= (i : Int) := by omega
          have e5 : x.take 5 = [115, 101, 101, 110, 32] := h5
          clear h5 hNe
          gi_wp2_with fail
          exact ⟨⟨i + 1, hlt, by go_num, HBi⟩, by simp [intOf]; omega⟩
         case neg =>
         have f1 : ¬ ((na : Int) + (nb : Int) <= (i : Int)) := by omega
         by_cases q2 : na <= i
         case pos =>
          rw [if_neg (by omega), if_pos (by omega)] at h5
          have f2 : (na : Int) <= (i : Int) := by omega
          have e5 : x.take 5 = [102, 108, 97, 119, 32] := h5
          clear h5 hNe
          gi_wp2_with fail
          exact ⟨⟨i + 1, hlt, by go_num, HBi⟩, by simp [intOf]; omega⟩
         case neg =>
          rw [if_pos (by omega)] at h5
          have f2 : ¬ ((na : Int) <= (i : Int)) := by omega
          have e5 : x.take 5 = [101, 114, 114, 111, 114] := h5
          clear h5 hNe
          gi_wp2_with fail
          exact ⟨⟨i + 1, hlt, by go_num, HBi⟩, by simp [intOf]; omega⟩
       | false =>
        obtain ⟨A, hA⟩ : ∃ x, x = wr := ⟨_, rfl⟩
        rw [<- hA] at HM ⊢
        clear hA r4 z4
        have hrep := HM.out.rep
        have hokr : (Tt.mine na nb nc 0).Ok := Tt.mine_ok na9 nb9 nc9 (by decide) (by decide)
        have hli := lines_any _ _ _ _ (Tt.mine na nb nc 0) A hrep hokr (HT.out.below HM.out.below)
        have hNN : (Tt.lines (Tt.mine na nb nc 0)).length = na + nb + nc := by rw [Tt.mine_len]; simp
        have HLI := Lib.hid hli
        have HNN := Lib.hid hNN
        clear hrep hokr hli hNN
        have r0 : A.cell? ⟨RB, 0, none⟩ = some (.slice e3 na f3) := HM.out.rb.cell 0
        have r1 : A.cell? ⟨RB, 1, none⟩ = some (.slice g3 nb h3) := HM.out.rb.cell 1
        have r2 : A.cell? ⟨RB, 2, none⟩ = some (.slice none 0 0) := HM.out.rb.cell 2
        have r3 : A.cell? ⟨RB, 3, none⟩ = some (.slice i3 nc j3) := HM.out.rb.cell 3
        have r4 : A.cell? ⟨RB, 4, none⟩ = some (.int .i64 0) := HM.out.rb.cell 4
        gi_wp2_with fail
        clear r0 r1 r2 r3 r4
        refine (callsIn_wide.2 HLI.out).mono ?_
        rintro e w2 ⟨o, rfl, hl2, _, b2⟩
        have HM2 := Lib.hid (HM.out.on b2)
        obtain ⟨N, hN⟩ : ∃ n : Nat, na + nb + nc = n := ⟨_, rfl⟩
        have hNz : (na : Int) + (nb : Int) + (nc : Int) = (N : Int) := by omega
        have hN28 : N <= 28 := by omega
        have hN28z : (N : Int) <= 28 := by omega
        have hL : (Tt.lines (Tt.mine na nb nc 0)).length = N := by rw [HNN.out, hN]
        rw [hL] at hl2 ⊢
        have HL2 := Lib.hid hl2
        have HLN := Lib.hid hL
        have HNE := Lib.hid hN
        clear hl2 b2 HLI hL hN
        have r0 : w2.cell? ⟨RB, 0, none⟩ = some (.slice e3 na f3) := HM2.out.rb.cell 0
        have r1 : w2.cell? ⟨RB, 1, none⟩ = some (.slice g3 nb h3) := HM2.out.rb.cell 1
        have r3 : w2.cell? ⟨RB, 3, none⟩ = some (.slice i3 nc j3) := HM2.out.rb.cell 3
        gi_wp2_with fail
        clear r0 r1 r3
        gi_loopw [15] (fun vi B => ∃ i : Nat, i <= N /\ vi = .int .i64 i /\ Hid (Below w2.heap.size w2 B)) (fun vi _ => N - (intOf vi).toNat)
        case atStart => exact ⟨0, Nat.zero_le _, rfl, Below.refl _ _⟩
        case round =>
         obtain ⟨i, hi, rfl, HBi⟩ := hrel
         obtain ⟨B, hB⟩ : ∃ x, x = wr := ⟨_, rfl⟩
         rw [<- hB] at HBi ⊢
         clear hB
         have HBB := Lib.hid (below5 HM2.out.below HBi.out)
         have r0 : B.cell? ⟨RB, 0, none⟩ = some (.slice e3 na f3) := (HM2.out.rb.below HBi.out).cell 0
         have r1 : B.cell? ⟨RB, 1, none⟩ = some (.slice g3 nb h3) := (HM2.out.rb.below HBi.out).cell 1
         by_cases hlt : i < N
         case neg =>
          have hlz : ¬ ((i : Int) < (N : Int)) := by omega
          gi_wp2_with fail
          go_ret
          exact ⟨rfl, HBB.out⟩
         case pos =>
         have hlz : (i : Int) < (N : Int) := by omega
         have hlen : i < (Tt.lines (Tt.mine na nb nc 0)).length := by rw [HLN.out]; exact hlt
         have hkl : i < (Tt.kinds na nb nc 0).length := by rw [<- Tt.lines_kinds, List.length_map]; exact hlen
         obtain ⟨h5, h6⟩ := Tt.mine_at hlen hkl
         rw [Tt.kinds_at hkl] at h5
         have hrd : Rd (.slice o (Tt.lines (Tt.mine na nb nc 0)).length N) (Tt.lines (Tt.mine na nb nc 0)) B := by rw [HLN.out]; exact HL2.out.below HBi.out
         obtain ⟨ad, rfl, d1⟩ := hrd.cells _ (Below.refl _ _) i hlen
         have hxl := (Tt.mine_ok (ev := 0) na9 nb9 nc9 (by decide) (by decide)).line_len _ (List.getElem_mem hlen)
         obtain ⟨x, hx⟩ : ∃ x, (Tt.lines (Tt.mine na nb nc 0))[i] = x := ⟨_, rfl⟩
         rw [hx] at d1 h5 h6 hxl
         have h6z : (5 : Int) <= (x.length : Int) := by omega
         have hNe := HNE.out
         clear hx hrd hkl
         by_cases q1 : na + nb <= i
         case pos =>
          rw [if_neg (by omega), if_neg (by omega), if_pos (by omega)] at h5
          have f1 : (na : Int) + (nb : Int) <= (i : Int) := by omega
          have e5 : x.take 5 = [115, 101, 101, 110, 32] := h5
          clear h5 hNe
          gi_wp2_with fail
          exact ⟨⟨i + 1, hlt, by go_num, HBi⟩, by simp [intOf]; omega⟩
         case neg =>
         have f1 : ¬ ((na : Int) + (nb : Int) <= (i : Int)) := by omega
         by_cases q2 : na <= i
         case pos =>
          rw [if_neg (by omega), if_pos (by omega)] at h5
          have f2 : (na : Int) <= (i : Int) := by omega
          have e5 : x.take 5 = [102, 108, 97, 119, 32] := h5
          clear h5 hNe
          gi_wp2_with fail
          exact ⟨⟨i + 1, hlt, by go_num, HBi⟩, by simp [intOf]; omega⟩
         case neg =>
          rw [if_pos (by omega)] at h5
          have f2 : ¬ ((na : Int) <= (i : Int)) := by omega
          have e5 : x.take 5 = [101, 114, 114, 111, 114] := h5
          clear h5 hNe
          gi_wp2_with fail
          exact ⟨⟨i + 1, hlt, by go_num, HBi⟩, by simp [intOf]; omega⟩
end Go.Proofs.YtjhibbjafjhhjaaDoor
