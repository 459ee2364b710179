/- Types of records: rtype.All. -/
import Derived.Test.YtjhibbjafjhhjaaDoorKTyA
import Derived.Test.YtjhibbjafjhhjaaDoorKSeT
namespace Go.Proofs.YtjhibbjafjhhjaaDoor
open Go.RowKit Go.Shelf Go.Sort
set_option maxRecDepth 100000
def Ty.keys : List Int := [1, 2, 5, 6, 12, 15, 16, 28, 39]
theorem Ty.keys_sorted : (Ty.keys.mergeSort fun x y => decide (x <= y)) = Ty.keys := List.mergeSort_of_pairwise (by decide)
theorem info_int : (Tryd.prog.info? 3).map (fun i => (i.zero, i.size, i.bytes)) = some (some (.int .i64 0), 1, 8) := by kernel_rfl
set_option maxHeartbeats 4000000 in
theorem all_any (w : World) : Calls Tryd.prog 17 #[] w fun e w' => ∃ v, e = .returned v /\ Sl v (Ty.keys.map I64) w' /\ Below w.heap.size w w' := by
 refine (callsIn_wide (n := 0)).1 ?_
 refine callsIn_of_wp Tryd.func17 rfl trivial ?_ rfl
 simp only [Tryd.ntmps17, List.size_toArray, List.length_nil, Nat.reduceSub, Array.replicate_succ, Array.replicate_zero, List.push_toArray, List.append_toArray, List.nil_append, List.cons_append]
 gi_wp2_with fail
 refine (callsIn_wide.2 (names_any _)).mono ?_
 rintro e w1 ⟨rfl, hg, b1⟩
 have HG := Lib.hid hg
 have HB1 := Lib.hid b1
 obtain ⟨ga, hge⟩ : ∃ g : Addr, (⟨w.heap.size, 0, none⟩ : Addr) = g := ⟨_, rfl⟩
 rw [hge] at HG ⊢
 clear hg b1 hge
 gi_wp2_with fail
 gi_loopw [1, 6] (fun v1 v6 W => ∃ k : Nat, k <= 9 /\ v6 = .int .i64 k /\ Row (fun g => w1.heap.size <= g) 3 1 v1 k ((Ty.keys.take k).map fun x => [I64 x]).flatten W /\ Below w1.heap.size w1 W) (fun _ v6 _ => 9 - (intOf v6).toNat)
 case atStart => exact ⟨0, Nat.zero_le _, rfl, Row.nil _ _ _ _, Below.refl _ _⟩
 case round =>
  obtain ⟨k, hk, rfl, hrow, hb⟩ := hrel
  have HROW := Lib.hid hrow
  have HB := Lib.hid hb
  clear hrow hb
  by_cases hlt : k < 9
  case neg =>
   have hlz : ¬ ((k : Int) < 9) := by omega
   obtain rfl : k = 9 := by omega
   have HS := Lib.hid (sortInts_any (R := fun g => w1.heap.size <= g) u1 Ty.keys w1 wr HROW.out (fun g h => h) HB.out (by decide))
   gi_wp2_with fail
   refine (callsIn_wide.2 HS.out).mono ?_
   rintro e w2 ⟨rfl, hr2, b2, _⟩
   rw [Ty.keys_sorted] at hr2
   have HC := Lib.hid (clipInts_any u1 Ty.keys w2 hr2 (by decide))
   have HB2 := Lib.hid b2
   clear HS hr2 b2
   gi_wp2_with fail
   refine (callsIn_wide.2 HC.out).mono ?_
   rintro e w3 ⟨v3, rfl, hs3, rfl⟩
   obtain ⟨o3, c3, rfl, _⟩ := id hs3
   have HS3 := Lib.hid hs3
   clear hs3 HC
   gi_wp2_with fail
   go_ret
   exact ⟨_, rfl, HS3.out, below5 HB1.out HB2.out⟩
  case pos =>
  have hlz : (k : Int) < 9 := by omega
  have hkn : k < Ty.names.length := hlt
  obtain ⟨t, s, hx⟩ : ∃ t s, Ty.names[k] = (t, s) := ⟨_, _, rfl⟩
  obtain ⟨a, ha, e0, e1⟩ := (HG.out.below HB.out).at (by decide) k (by rw [List.length_map]; exact hkn)
  cases ha
  have e1 := e1 1 (by decide) (by decide)
  rw [List.getElem_map, hx] at e0 e1
  simp only [encPr, List.getElem?_cons_zero, List.getElem?_cons_succ] at e0 e1
  obtain ⟨z, hz⟩ : ∃ z, ga.add (k * 2) = z := ⟨_, rfl⟩
  rw [hz] at e0 e1
  have HX := Lib.hid hx
  clear hx
  have hb2 : Below wr.heap.size wr ((wr.alloc (.cells #[.int .i64 t, S s] 91)).alloc (.cells #[.int .i64 t] 3)) := ((Below.refl wr.heap.size wr).alloc (Nat.le_refl _) _).alloc (by simp) _
  have HB2 : Hid (Below w1.heap.size w1 ((wr.alloc (.cells #[.int .i64 t, S s] 91)).alloc (.cells #[.int .i64 t] 3))) := below5 HB.out hb2
  have HROW2 := Lib.hid (HROW.out.below hb2)
  have HGN : Hid (GRd 1 (.slice (some ⟨wr.heap.size + 1, 0, none⟩) 1 1) [[Value.int .i64 t]] ((wr.alloc (.cells #[.int .i64 t, S s] 91)).alloc (.cells #[.int .i64 t] 3))) := by
   have h := GRd.new [Value.int .i64 t] rfl (fun u hu => by simp only [List.mem_cons, List.not_mem_nil, or_false] at hu; rcases hu with rfl; rfl) (wr.alloc (.cells #[.int .i64 t, S s] 91)) 3
   rw [World.size_alloc] at h
   exact h
  clear hb2
  gi_wp2_with (gi_at_builtin; refine append_g (fun g => w1.heap.size <= g) 3 _ 1 8 info_int rfl (by decide) rfl _ _ _ Tryd.underlying42 rfl _ k ((Ty.keys.take k).map fun x => [I64 x]) (by rfl) HROW2.out _ [[.int .i64 t]] (by rfl) HGN.out (by simp; omega) (by omega) HB2.out.size ?_; intro v8 w8 hrow8 hgr8; obtain ⟨o8, c8, e8⟩ := hrow8.form; subst e8; have HR8 := Lib.hid hrow8; have HGR8 := Lib.hid hgr8; clear hrow8 hgr8)
  have B8 : RowKit.Below w1.heap.size w1 w8 := HB2.out.grown HGR8.out HB2.out.size (fun g hg => HROW2.out.2 g hg)
  have hrow9 : Row (fun g => w1.heap.size <= g) 3 1 (.slice o8 (k + 1) c8) (k + 1) ((Ty.keys.take (k + 1)).map fun x => [I64 x]).flatten w8 := by
   have hkt : k < Ty.keys.length := hlt
   have ht : Ty.keys[k]'hkt = t := by
    have h : ∀ j (h : j < 9), Ty.keys[j]'h = (Ty.names[j]'h).1 := by decide
    have h2 := h k hlt
    rw [show Ty.names[k]'hlt = (t, s) from HX.out] at h2
    exact h2
   have e : ((Ty.keys.take (k + 1)).map fun x => [I64 x]) = ((Ty.keys.take k).map fun x => [I64 x]) ++ [[.int .i64 t]] := by
    rw [List.take_succ_eq_append_getElem hkt, List.map_append, ht]; rfl
   rw [e]; exact HR8.out
  exact ⟨⟨k + 1, hlt, by go_num, hrow9, B8⟩, by simp [intOf]; omega⟩
end Go.Proofs.YtjhibbjafjhhjaaDoor
