/- The reference's Split. -/
import Derived.Test.YtikibmeopndncaaLabG
namespace Go.Proofs.Ytikibmeopndncaa
open Go.RowKit Go.Shelf
set_option maxRecDepth 100000

/-- at the loop's head of the reference's Split -/
def RspI (w : World) (s : List UInt8) (v i : Value) (W : World) : Prop :=
  ∃ (ps : List (List UInt8)) (cur : List UInt8) (k : Nat), k ≤ s.length ∧ i = .int .i64 k ∧ ps.length ≤ k ∧ cur.length ≤ k ∧ Lb.split s = (Lb.splitF cur (s.drop k)).map (ps ++ ·) ∧
    Row (fun g => w.heap.size ≤ g) 9 1 v (ps.length + 1) ((ps ++ [cur]).map S) W ∧ Below w.heap.size w W

theorem set_last (ps : List (List UInt8)) (cur x : List UInt8) : ((ps ++ [cur]).map S).set ps.length (S x) = (ps ++ [x]).map S := by
  simp [List.set_append]
theorem RspI.step {w wr : World} {s : List UInt8} {ps : List (List UInt8)} {cur x : List UInt8} {g cap k : Nat} (d : Nat) (hb : Below w.heap.size w wr)
    (hr : Row (fun g => w.heap.size ≤ g) 9 1 (.slice (some ⟨g, 0, none⟩) (ps.length + 1) cap) (ps.length + 1) (((ps ++ [cur]).map S).set ps.length (S x)) (wr.setCell ⟨g, ps.length, none⟩ (S x)).drew)
    (hk : k + d ≤ s.length) (hx : x.length ≤ k + d) (hpl : ps.length ≤ k) (_ : 0 ≤ k) (hs : Lb.split s = (Lb.splitF x (s.drop (k + d))).map (ps ++ ·)) :
    RspI w s (.slice (some ⟨g, 0, none⟩) (ps.length + 1) cap) (.int .i64 ((k : Int) + (d : Nat))) (wr.setCell ⟨g, ps.length, none⟩ (S x)).drew := by
  rw [set_last] at hr
  exact ⟨ps, x, k + d, hk, by go_num, by omega, hx, hs, hr, (hb.setCell (p := ⟨g, ps.length, none⟩) (hr.2 g rfl) _).drew⟩

theorem splitF_nil (cur : List UInt8) : Lb.splitF cur [] = some [cur] := by rw [Lb.splitF.eq_def]
theorem splitF_dot (cur r : List UInt8) : Lb.splitF cur (46 :: r) = (Lb.splitF [] r).map (cur :: ·) := by rw [Lb.splitF.eq_def]; simp
theorem splitF_bad (cur : List UInt8) : Lb.splitF cur [92] = none := by rw [Lb.splitF.eq_def]; simp
theorem splitF_two (cur r : List UInt8) (d : UInt8) : Lb.splitF cur (92 :: d :: r) = Lb.splitF (cur ++ [92, d]) r := by rw [Lb.splitF.eq_def]; simp
theorem splitF_one (cur r : List UInt8) (c : UInt8) (h1 : c ≠ 92) (h2 : c ≠ 46) : Lb.splitF cur (c :: r) = Lb.splitF (cur ++ [c]) r := by rw [Lb.splitF.eq_def]; simp [h1, h2]

set_option maxRecDepth 100000 in
set_option maxHeartbeats 4000000 in
theorem refSplit_any (s : List UInt8) (w : World) (hs : s.length ≤ 1000000) :
    Calls Try.prog 64 #[S s] w fun e w' => ∃ v z, e = .returned (.tuple #[v, .int .i64 z]) ∧ SplitR s v z w' ∧ Below w.heap.size w w' := by
  have hinf := Lib.hid (info_parts Try.info_str)
  refine (callsIn_wide (n := 0)).1 ?_
  refine callsIn_of_wp Try.func64 rfl trivial ?_ rfl
  simp only [Try.ntmps64, List.size_toArray, List.length_cons, List.length_nil, Nat.reduceAdd, Nat.reduceSub, Array.replicate_succ, Array.replicate_zero, List.push_toArray, List.append_toArray, List.nil_append, List.cons_append]
  gi_wp2
  gi_loopw [4, 5] (fun v i W => RspI w s v i W) (fun _ i _ => s.length - (intOf i).toNat)
  case atStart =>
    refine ⟨[], [], 0, by omega, rfl, by simp, by simp, ?_, ?_, (Below.refl _ _).alloc (Nat.le_refl _) _⟩
    · show Lb.splitF [] s = _; simp
    · exact ⟨⟨rfl, .inr ⟨_, 1, _, rfl, by omega, World.alloc_heap_new w _, by simp, by unfold maxLen; omega, rfl, rfl⟩⟩, fun g hg => by cases hg; exact Nat.le_refl _⟩
  case round =>
    obtain ⟨ps, cur, k, hk, rfl, hpl, hcl, hsp, hrow, hb⟩ := hrel
    have HS := Lib.hid hsp
    clear hsp
    obtain ⟨g, cap, rfl, hg, hnc, hcm, hcells, hfr, hset⟩ := hrow.at (by omega)
    have hcell := hcells ps.length (by simp)
    rw [List.getElem_map, List.getElem_append_right (by omega)] at hcell
    simp only [Nat.sub_self, List.getElem_cons_zero] at hcell
    have hfz := hfr ps.length
    have HSET := Lib.hid (hset ps.length)
    clear hcells hfr hset
    unfold maxLen at hcm
    by_cases hlt : k < s.length
    · have HD := Lib.hid (List.drop_eq_getElem_cons hlt)
      by_cases h46 : s[k] = 46
      · obtain ⟨f1, _⟩ := beq_u8 (n := 46) rfl h46
        have H46 := Lib.hid h46
        clear h46
        obtain ⟨i0, hi, hz0, hz1, hz2⟩ := hinf.out
        gi_wp2_with (gi_at_builtin; refine append_in (fun g => w.heap.size ≤ g) rfl _ _ 40 rfl 9 i0 (.string ⟨#[]⟩) 1 16 Try.underlying40 hi hz0 hz1 hz2 rfl (by decide) _ (ps.length + 1) ((ps ++ [cur]).map S) (by rfl) (hrow.alloc _) ⟨wr.heap.size, 0, none⟩ 1 1 [S []] (by rfl) rfl (cell_one_new wr _ _) (by simp [Value.oneCell']) (by unfold maxLen; omega) (by omega) (by have := hb.size; simp; omega) ?_; intro v' w2 hrow2 hgrow _)
        refine ⟨⟨ps ++ [cur], [], k + 1, by omega, by go_num, by simp; omega, by simp, ?_, by simpa using hrow2, ?_⟩, by simp [intOf]; omega⟩
        · rw [HS.out, HD.out, H46.out, splitF_dot, Option.map_map]; congr 1; funext x; simp
        · exact (hb.alloc hb.size _).grown hgrow (by have := hb.size; simp; omega) (fun j hj => hrow.2 j hj)
      · obtain ⟨f1, _⟩ := bne_u8 (n := 46) (b := 46) rfl h46
        have H46 := Lib.hid h46
        clear h46
        by_cases h92 : s[k] = 92
        · obtain ⟨e1, _⟩ := beq_u8 (n := 92) rfl h92
          have H92 := Lib.hid h92
          clear h92
          by_cases hl1 : k + 1 < s.length
          · have HD1 := Lib.hid (List.drop_eq_getElem_cons hl1)
            gi_wp2_with fail
            have hw8 : IntKind.i64.wrap ((k : Int) + 2) = k + 2 := IntWalk.i64_in _ (by omega)
            have j2 : (ps.length : Int) < ps.length + 1 := by omega
            have j1 : 0 ≤ (k : Int) + 2 ∧ (k : Int) + 2 ≤ s.length := by omega
            refine drawnH [5] (fun w' => w'.cell? ⟨g, ps.length, none⟩ = some (S cur)) 14 rfl (by kernel_rfl) ?_
            intro w' hw'
            have hS : w'.cell? ⟨g, ps.length, none⟩ = some (S cur) := by subst hw'; exact hcell
            refine takeP 0 (v := ?pv0) (fun _ => trivial) (by rfl) (by kernel_rfl) (.inl ⟨rfl, fun w1 _ => ?py0⟩) ?_
            case py0 => (go_simp; first | rfl | (rw [if_pos (by omega)]) | (rw [if_neg (by omega)]) | (rw [if_neg (by simp; omega)]))
            refine takeP 1 (v := ?pv1) (fun _ => trivial) (by rfl) (by kernel_rfl) (.inl ⟨rfl, fun w1 _ => ?py1⟩) ?_
            case py1 => (go_simp; first | rfl | (rw [if_pos (by omega)]) | (rw [if_neg (by omega)]) | (rw [if_neg (by simp; omega)]))
            refine takeP 2 (v := ?pv2) (fun _ => trivial) (by rfl) (by kernel_rfl) (.inl ⟨rfl, fun w1 _ => ?py2⟩) ?_
            case py2 => (go_simp; first | rfl | (rw [if_pos (by omega)]) | (rw [if_neg (by omega)]) | (rw [if_neg (by simp; omega)]))
            refine takeP 3 (v := ?pv3) (fun _ => trivial) (by rfl) (by kernel_rfl) (.inl ⟨rfl, fun w1 _ => ?py3⟩) ?_
            case py3 => (go_simp; first | rfl | (rw [if_pos (by omega)]) | (rw [if_neg (by omega)]) | (rw [if_neg (by simp; omega)]))
            refine takeP 4 (v := ?pv4) (fun _ => trivial) (by rfl) (by kernel_rfl) (.inl ⟨rfl, fun w1 _ => ?py4⟩) ?_
            case py4 => (go_simp; first | rfl | (rw [if_pos (by omega)]) | (rw [if_neg (by omega)]) | (rw [if_neg (by simp; omega)]))
            refine takeP 6 (v := ?pv6) (fun _ => trivial) (by rfl) (by kernel_rfl) (.inl ⟨rfl, fun w1 _ => ?py6⟩) ?_
            case py6 => (go_simp; first | rfl | (rw [if_pos (by omega)]) | (rw [if_neg (by omega)]) | (rw [if_neg (by simp; omega)]))
            refine takeP 7 (v := ?pv7) (fun _ => trivial) (by rfl) (by kernel_rfl) (.inl ⟨rfl, fun w1 _ => ?py7⟩) ?_
            case py7 => (go_simp; first | rfl | (rw [if_pos (by omega)]) | (rw [if_neg (by omega)]) | (rw [if_neg (by simp; omega)]))
            refine takeP 8 (v := ?pv8) (fun _ => trivial) (by rfl) (by kernel_rfl) (.inl ⟨rfl, fun w1 _ => ?py8⟩) ?_
            case py8 => (go_simp; first | rfl | (rw [if_pos (by omega)]) | (rw [if_neg (by omega)]) | (rw [if_neg (by simp; omega)]))
            refine takeP 9 (v := ?pv9) (fun _ => trivial) (by rfl) (by kernel_rfl) (.inl ⟨rfl, fun w1 _ => ?py9⟩) ?_
            case py9 => (go_simp; first | rfl | (rw [if_pos (by omega)]) | (rw [if_neg (by omega)]) | (rw [if_neg (by simp; omega)]))
            refine takeP 10 (v := ?pv10) (fun _ => trivial) (by rfl) (by kernel_rfl) (.inl ⟨rfl, fun w1 _ => ?py10⟩) ?_
            case py10 => (go_simp; first | rfl | (rw [if_pos (by omega)]) | (rw [if_neg (by omega)]) | (rw [if_neg (by simp; omega)]))
            refine takeH 5 (v := ?pv5) (fun _ => trivial) (by rfl) (by kernel_rfl) hS (.inl ⟨rfl, fun w1 HC => ?py5⟩) ?_
            case py5 => (go_simp; first | rfl | (rw [if_pos (by omega)]) | (rw [if_neg (by omega)]) | (rw [if_neg (by simp; omega)]))
            refine takeP 11 (v := ?pv11) (fun _ => trivial) (by rfl) (by kernel_rfl) (.inl ⟨rfl, fun w1 _ => ?py11⟩) ?_
            case py11 => (go_simp; first | rfl | (rw [if_pos (by omega)]) | (rw [if_neg (by omega)]) | (rw [if_neg (by simp; omega)]))
            refine takeP 12 (v := ?pv12) (fun _ => trivial) (by rfl) (by kernel_rfl) (.inl ⟨rfl, fun w1 _ => ?py12⟩) ?_
            case py12 => (go_simp; first | rfl | (rw [if_pos (by omega)]) | (rw [if_neg (by omega)]) | (rw [if_neg (by simp; omega)]))
            refine oneH 13 (by rfl) (by kernel_rfl) (fun K hK => ?_)
            gi_wp2_with fail
            refine hK _ _ (fun h => absurd h (by decide)) ?_
            clear hK K
            refine doneH (by kernel_rfl) ?_
            have T2 : (s.drop k).take (k + 2 - k) = [92, s[k + 1]] := by rw [show k + 2 - k = 2 by omega, HD.out, HD1.out, H92.out]; rfl
            rw [append_S, T2]
            have hset := HSET.out (S (cur ++ [92, s[k + 1]])) rfl
            have HT := Lib.hid T2
            clear hw8 T2 hS hw' w'
            gi_wp2
            refine ⟨RspI.step (d := 2) hb hset.drew (by omega) (by simp; omega) hpl (by omega) ?_, by simp [intOf]; omega⟩
            rw [HS.out, HD.out, HD1.out, H92.out, splitF_two]
          · have hE : s.drop k = [92] := by rw [HD.out, H92.out, List.drop_eq_nil_of_le (by omega)]
            have HE := Lib.hid hE
            clear hE
            gi_wp2
            go_ret2
            exact ⟨_, _, rfl, by unfold SplitR; rw [HS.out, HE.out, splitF_bad]; exact ⟨rfl, rfl⟩, hb⟩
        · obtain ⟨e1, _⟩ := bne_u8 (n := 92) (b := 92) rfl h92
          have H92 := Lib.hid h92
          clear h92
          gi_wp2_with fail
          have hw8 : IntKind.i64.wrap ((k : Int) + 1) = k + 1 := IntWalk.i64_in _ (by omega)
          have j2 : (ps.length : Int) < ps.length + 1 := by omega
          have j1 : 0 ≤ (k : Int) + 1 ∧ (k : Int) + 1 ≤ s.length := by omega
          refine drawnH [5] (fun w' => w'.cell? ⟨g, ps.length, none⟩ = some (S cur)) 14 rfl (by kernel_rfl) ?_
          intro w' hw'
          have hS : w'.cell? ⟨g, ps.length, none⟩ = some (S cur) := by subst hw'; exact hcell
          refine takeP 0 (v := ?qv0) (fun _ => trivial) (by rfl) (by kernel_rfl) (.inl ⟨rfl, fun w1 _ => ?qy0⟩) ?_
          case qy0 => (go_simp; first | rfl | (rw [if_pos (by omega)]) | (rw [if_neg (by omega)]) | (rw [if_neg (by simp; omega)]))
          refine takeP 1 (v := ?qv1) (fun _ => trivial) (by rfl) (by kernel_rfl) (.inl ⟨rfl, fun w1 _ => ?qy1⟩) ?_
          case qy1 => (go_simp; first | rfl | (rw [if_pos (by omega)]) | (rw [if_neg (by omega)]) | (rw [if_neg (by simp; omega)]))
          refine takeP 2 (v := ?qv2) (fun _ => trivial) (by rfl) (by kernel_rfl) (.inl ⟨rfl, fun w1 _ => ?qy2⟩) ?_
          case qy2 => (go_simp; first | rfl | (rw [if_pos (by omega)]) | (rw [if_neg (by omega)]) | (rw [if_neg (by simp; omega)]))
          refine takeP 3 (v := ?qv3) (fun _ => trivial) (by rfl) (by kernel_rfl) (.inl ⟨rfl, fun w1 _ => ?qy3⟩) ?_
          case qy3 => (go_simp; first | rfl | (rw [if_pos (by omega)]) | (rw [if_neg (by omega)]) | (rw [if_neg (by simp; omega)]))
          refine takeP 4 (v := ?qv4) (fun _ => trivial) (by rfl) (by kernel_rfl) (.inl ⟨rfl, fun w1 _ => ?qy4⟩) ?_
          case qy4 => (go_simp; first | rfl | (rw [if_pos (by omega)]) | (rw [if_neg (by omega)]) | (rw [if_neg (by simp; omega)]))
          refine takeP 6 (v := ?qv6) (fun _ => trivial) (by rfl) (by kernel_rfl) (.inl ⟨rfl, fun w1 _ => ?qy6⟩) ?_
          case qy6 => (go_simp; first | rfl | (rw [if_pos (by omega)]) | (rw [if_neg (by omega)]) | (rw [if_neg (by simp; omega)]))
          refine takeP 7 (v := ?qv7) (fun _ => trivial) (by rfl) (by kernel_rfl) (.inl ⟨rfl, fun w1 _ => ?qy7⟩) ?_
          case qy7 => (go_simp; first | rfl | (rw [if_pos (by omega)]) | (rw [if_neg (by omega)]) | (rw [if_neg (by simp; omega)]))
          refine takeP 8 (v := ?qv8) (fun _ => trivial) (by rfl) (by kernel_rfl) (.inl ⟨rfl, fun w1 _ => ?qy8⟩) ?_
          case qy8 => (go_simp; first | rfl | (rw [if_pos (by omega)]) | (rw [if_neg (by omega)]) | (rw [if_neg (by simp; omega)]))
          refine takeP 9 (v := ?qv9) (fun _ => trivial) (by rfl) (by kernel_rfl) (.inl ⟨rfl, fun w1 _ => ?qy9⟩) ?_
          case qy9 => (go_simp; first | rfl | (rw [if_pos (by omega)]) | (rw [if_neg (by omega)]) | (rw [if_neg (by simp; omega)]))
          refine takeP 10 (v := ?qv10) (fun _ => trivial) (by rfl) (by kernel_rfl) (.inl ⟨rfl, fun w1 _ => ?qy10⟩) ?_
          case qy10 => (go_simp; first | rfl | (rw [if_pos (by omega)]) | (rw [if_neg (by omega)]) | (rw [if_neg (by simp; omega)]))
          refine takeH 5 (v := ?qv5) (fun _ => trivial) (by rfl) (by kernel_rfl) hS (.inl ⟨rfl, fun w1 HC => ?qy5⟩) ?_
          case qy5 => (go_simp; first | rfl | (rw [if_pos (by omega)]) | (rw [if_neg (by omega)]) | (rw [if_neg (by simp; omega)]))
          refine takeP 11 (v := ?qv11) (fun _ => trivial) (by rfl) (by kernel_rfl) (.inl ⟨rfl, fun w1 _ => ?qy11⟩) ?_
          case qy11 => (go_simp; first | rfl | (rw [if_pos (by omega)]) | (rw [if_neg (by omega)]) | (rw [if_neg (by simp; omega)]))
          refine takeP 12 (v := ?qv12) (fun _ => trivial) (by rfl) (by kernel_rfl) (.inl ⟨rfl, fun w1 _ => ?qy12⟩) ?_
          case qy12 => (go_simp; first | rfl | (rw [if_pos (by omega)]) | (rw [if_neg (by omega)]) | (rw [if_neg (by simp; omega)]))
          refine oneH 13 (by rfl) (by kernel_rfl) (fun K hK => ?_)
          gi_wp2_with fail
          refine hK _ _ (fun h => absurd h (by decide)) ?_
          clear hK K
          refine doneH (by kernel_rfl) ?_
          rw [append_S, take_one s k hlt]
          have hset := HSET.out (S (cur ++ [s[k]])) rfl
          clear hw8 hS hw' w'
          gi_wp2
          refine ⟨RspI.step (d := 1) hb hset.drew (by omega) (by simp; omega) hpl (by omega) ?_, by simp [intOf]; omega⟩
          rw [HS.out, HD.out, splitF_one _ _ _ H92.out H46.out]
    · obtain rfl : s.length = k := by omega
      gi_wp2
      go_ret2
      refine ⟨_, _, rfl, ?_, hb⟩
      unfold SplitR; rw [HS.out, List.drop_length, splitF_nil]
      exact ⟨rfl, Row.strs (l := ps ++ [cur]) (by simpa using hrow)⟩
end Go.Proofs.Ytikibmeopndncaa
