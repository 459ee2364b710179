/- Reports in words: a host, picks; numbers joined. -/
import Derived.Test.YtjhibbjafjhhjaaDoorKTtB
import Derived.Test.YtjhibbjafjhhjaaDoorKNmB
namespace Go.Proofs.YtjhibbjafjhhjaaDoor
open Go.RowKit Go.Shelf
set_option maxRecDepth 100000
namespace Tt
def host (n : List (List UInt8)) : List UInt8 := if n = [] then [45] else Nm.text n
def nums (l : List Nat) : List (List UInt8) := l.map Lib.decDigits
def picks (l : List Nat) : List UInt8 := if l = [] then [45] else Lib.join (nums l) [44]
theorem nums_take (l : List Nat) (k : Nat) (h : k < l.length) : nums (l.take (k + 1)) = nums (l.take k) ++ [Lib.decDigits l[k]] := by
 unfold nums; rw [List.take_succ_eq_append_getElem h, List.map_append]; rfl
theorem join_len {l : List (List UInt8)} {sep : List UInt8} {m : Nat} (h : ∀ x ∈ l, x.length <= m) : (Lib.join l sep).length <= l.length * (m + sep.length) := by
 cases l with
 | nil => simp [Lib.join_nil]
 | cons x r =>
  rw [Lib.join_cons, List.length_append]
  have h1 := h x List.mem_cons_self
  have h2 : (Lib.joinTail sep r).length <= r.length * (m + sep.length) := by
   clear h1
   induction r with
   | nil => simp [Lib.joinTail]
   | cons y r ih =>
    have := ih (fun z hz => h z (by rcases List.mem_cons.1 hz with e | e <;> simp [e]))
    have hy := h y (by simp)
    simp only [Lib.joinTail, List.map_cons, List.flatten_cons, List.length_append, List.length_cons] at this ⊢
    rw [Nat.add_mul]; omega
  rw [List.length_cons, Nat.add_mul]; omega
theorem nums_len {l : List Nat} (hx : ∀ n ∈ l, n < 9223372036854775808) : ∀ s ∈ nums l, s.length <= 20 := fun s hs => by
 obtain ⟨n, hn, rfl⟩ := List.mem_map.1 hs
 exact dec_len n (by have := hx n hn; omega)
theorem picks_len {l : List Nat} (hl : l.length <= 20) (hx : ∀ n ∈ l, n < 9223372036854775808) : (picks l).length <= 1000 := by
 unfold picks
 split
 ·simp
 ·have h1 := join_len (sep := [44]) (nums_len hx)
  have h2 : (nums l).length = l.length := by simp [nums]
  rw [h2] at h1
  simp only [List.length_cons, List.length_nil] at h1
  have := Nat.mul_le_mul_right (20 + 1) hl
  omega
end Tt
theorem rd_row1 (x : List UInt8) (w : World) : Rd (.slice (some ⟨w.heap.size, 0, none⟩) 1 1) [x] (w.alloc (.cells #[S x] 9)) := Rd.of_row (row_one x w)
theorem host_any (v : Value) (n : List (List UInt8)) (w : World) (hv : Rd v n w) (hn : NB n) :
  Calls Tryd.prog 51 #[v] w (Gives (S (Tt.host n)) w) := by
 obtain ⟨o, cap, rfl, h1, h2⟩ := hv.form
 by_cases h0 : n = []
 ·subst h0
  refine (callsIn_wide (n := 0)).1 ?_
  refine callsIn_of_wp Tryd.func51 rfl trivial ?_ rfl
  simp only [Tryd.ntmps51, List.size_toArray, List.length_cons, List.length_nil, Nat.reduceAdd, Nat.reduceSub, Array.replicate_succ, Array.replicate_zero, List.push_toArray, List.append_toArray, List.nil_append, List.cons_append]
  gi_wp2_with fail
  go_ret
  exact ⟨rfl, Below.refl _ _⟩
 ·have hl0 : ((n.length : Int) == 0) = false := by
   rw [beq_eq_false_iff_ne]; have := List.length_pos_iff.2 h0; omega
  have HT := Lib.hid (nText_any _ n w hv hn)
  have HH : Hid (Tt.host n = Nm.text n) := by show _ = _; unfold Tt.host; rw [if_neg h0]
  clear hv h0
  rw [HH.out]
  refine (callsIn_wide (n := 0)).1 ?_
  refine callsIn_of_wp Tryd.func51 rfl trivial ?_ rfl
  simp only [Tryd.ntmps51, List.size_toArray, List.length_cons, List.length_nil, Nat.reduceAdd, Nat.reduceSub, Array.replicate_succ, Array.replicate_zero, List.push_toArray, List.append_toArray, List.nil_append, List.cons_append]
  gi_wp2_with fail
  refine (callsIn_wide.2 HT.out).mono ?_
  rintro e w1 ⟨rfl, b1⟩
  gi_wp2_with fail
  go_ret
  exact ⟨rfl, b1⟩
def NuRd (v : Value) (l : List Nat) (W : World) : Prop := Sl v (l.map fun (n : Nat) => Value.int .i64 (n : Int)) W
theorem NuRd.below {v : Value} {l : List Nat} {W W' : World} (h : NuRd v l W) (hb : Below W.heap.size W W') : NuRd v l W' := by
 obtain ⟨o, c, h1, h2, h3, h4, h5⟩ := h
 exact ⟨o, c, h1, h2, h3, h4, fun j hj => by obtain ⟨a, ha, e⟩ := h5 j hj; exact ⟨a, ha, (hb.cell (cell_lt e)).trans e⟩⟩
theorem NuRd.form {v : Value} {l : List Nat} {W : World} (h : NuRd v l W) : ∃ o c, v = .slice o l.length c := by
 obtain ⟨o, c, h1, _⟩ := h
 exact ⟨o, c, by rw [h1, List.length_map]⟩
theorem NuRd.at {o : Option Addr} {n c : Nat} {l : List Nat} {W : World} (h : NuRd (.slice o n c) l W) (j : Nat) (hj : j < l.length) : ∃ a, o = some a /\ W.cell? (a.add j) = some (.int .i64 (l[j] : Int)) := by
 obtain ⟨o', c', h1, h2, h3, h4, h5⟩ := h
 obtain ⟨a, ha, e⟩ := h5 j (by rw [List.length_map]; exact hj)
 cases h1
 exact ⟨a, ha, by rw [e, List.getElem_map]⟩
theorem Row.block_of {R e sz v n xs W} (h : Row R e sz v n xs W) (hn : 0 < n) : ∃ g cap, v = .slice (some ⟨g, 0, none⟩) n cap /\ g < W.heap.size := by
 obtain ⟨⟨_, ho⟩, _⟩ := h
 rcases ho with ⟨rfl, h0⟩ | ⟨g, cap, cur, rfl, _, hg, _⟩
 ·omega
 ·exact ⟨g, cap, rfl, (Array.getElem?_eq_some_iff.1 hg).1⟩
set_option maxHeartbeats 4000000 in
theorem picks_any (v : Value) (l : List Nat) (w : World) (hv : NuRd v l w) (hl : l.length <= 20) (hx : ∀ n ∈ l, n < 9223372036854775808) (ht : Tab w) :
  Calls Tryd.prog 53 #[v] w (Gives (S (Tt.picks l)) w) := by
 obtain ⟨o, c, rfl⟩ := hv.form
 have lz : (l.length : Int) <= 20 := by omega
 by_cases h0 : l = []
 ·subst h0
  refine (callsIn_wide (n := 0)).1 ?_
  refine callsIn_of_wp Tryd.func53 rfl trivial ?_ rfl
  simp only [Tryd.ntmps53, List.size_toArray, List.length_cons, List.length_nil, Nat.reduceAdd, Nat.reduceSub, Array.replicate_succ, Array.replicate_zero, List.push_toArray, List.append_toArray, List.nil_append, List.cons_append]
  gi_wp2_with fail
  go_ret
  exact ⟨rfl, Below.refl _ _⟩
 have hp : 0 < l.length := List.length_pos_iff.2 h0
 have hl0 : ((l.length : Int) == 0) = false := by rw [beq_eq_false_iff_ne]; omega
 have HPK : Hid (Tt.picks l = Lib.join (Tt.nums l) [44]) := by show _ = _; unfold Tt.picks; rw [if_neg h0]
 have HJL : Hid ((Lib.join (Tt.nums l) [44]).length <= 140737488355328) := by
  have := Tt.picks_len hl hx; rw [HPK.out] at this; show _ <= _; omega
 have HV := Lib.hid hv
 have HX := Lib.hid hx
 have HT := Lib.hid ht
 have HNL : Hid ((Tt.nums l).length = l.length) := by show _ = _; simp [Tt.nums]
 clear h0 hv hx ht
 rw [HPK.out]
 refine (callsIn_wide (n := 0)).1 ?_
 refine callsIn_of_wp Tryd.func53 rfl trivial ?_ rfl
 simp only [Tryd.ntmps53, List.size_toArray, List.length_cons, List.length_nil, Nat.reduceAdd, Nat.reduceSub, Array.replicate_succ, Array.replicate_zero, List.push_toArray, List.append_toArray, List.nil_append, List.cons_append]
 gi_wp2_with fail
 gi_loopw [3, 11] (fun v3 v11 W => ∃ k : Nat, k <= l.length /\ v11 = .int .i64 k /\ Row (Own w) 9 1 v3 k ((Tt.nums (l.take k)).map S) W /\ Below w.heap.size w W) (fun _ v11 _ => l.length - (intOf v11).toNat)
 case atStart => exact ⟨0, Nat.zero_le _, rfl, Row.nil (Own w) _ _ w, Below.refl _ _⟩
 case round =>
  obtain ⟨k, hk, rfl, hrow, hb⟩ := hrel
  have HB := Lib.hid hb
  by_cases hlt : k < l.length
  case pos =>
   have hlz : (k : Int) < (l.length : Int) := by omega
   obtain ⟨a, rfl, c1⟩ := (HV.out.below hb).at k hlt
   obtain ⟨x, hx⟩ : ∃ x, l[k] = x := ⟨_, rfl⟩
   rw [hx] at c1
   have HX1 : Hid (x < 9223372036854775808) := by show _ < _; rw [<- hx]; exact HX.out _ (List.getElem_mem hlt)
   have HS : Hid (Tt.nums (l.take (k + 1)) = Tt.nums (l.take k) ++ [Lib.decDigits x]) := by show _ = _; rw [Tt.nums_take l k hlt, hx]
   have HROW := Lib.hid hrow
   clear hb hx hrow
   gi_wp2_with fail
   refine (callsIn_wide.2 (itoa_any x HX1.out wr (HT.out.below HB.out))).mono ?_
   rintro e w2 ⟨rfl, b2⟩
   have HB2 := Lib.hid (below5 HB.out b2)
   have HR2 := Lib.hid (HROW.out.below b2)
   clear b2 c1 HROW
   gi_wp2_with (gi_at_builtin; refine append_rd (Own w) rfl _ _ _ Tryd.underlying35 rfl _ k _ (by rfl) (HR2.out.alloc _) _ [Lib.decDigits x] (by rfl) (rd_row1 _ _) (by simp; omega) (by have := HB2.out.size; simp; omega) ?_; intro v' w' hrow' hgr)
   exact ⟨⟨k + 1, hlt, by go_num, by rw [HS.out]; exact hrow', (HB2.out.alloc HB2.out.size _).grown hgr (by have := HB2.out.size; simp; omega) (fun g hg => HR2.out.2 g hg)⟩, by simp [intOf]; omega⟩
  case neg =>
   obtain rfl : k = l.length := by omega
   rw [List.take_of_length_le (Nat.le_refl _)] at hrow
   obtain ⟨g, cap, rfl, hg⟩ := hrow.block_of hp
   have hrd : Rd (.slice (some ⟨g, 0, none⟩) l.length cap) (Tt.nums l) wr := by
    refine Rd.of_row (R := Own w) (e := 9) ?_
    rw [HNL.out]; exact hrow
   have HJ : Hid (Calls Tryd.prog 22 #[.slice (some ⟨g, 0, none⟩) l.length cap, S [44]] wr (Gives (S (Lib.join (Tt.nums l) [44])) wr)) := by
    have h := sjoin_any g 0 cap (Tt.nums l) [44] wr (by rw [HNL.out]; exact hrd) hg (by rw [HNL.out]; omega) HJL.out
    rw [HNL.out] at h; exact h
   clear hrd hb hrow hg
   gi_wp2_with fail
   refine (callsIn_wide.2 HJ.out).mono ?_
   rintro e w2 ⟨rfl, b2⟩
   have HB2 := Lib.hid (below5 HB.out b2)
   clear b2
   gi_wp2_with fail
   go_ret
   exact ⟨rfl, HB2.out⟩
theorem lnum_any (n : Nat) (h : n < 9223372036854775808) (w : World) : Calls Tryd.prog 26 #[.int .i64 n] w (Gives (S (Lib.decDigits n)) w) := by
 refine (callsIn_wide (n := 0)).1 ?_
 refine callsIn_of_wp Tryd.func26 rfl trivial ?_ rfl
 simp only [Tryd.ntmps26, List.size_toArray, List.length_cons, List.length_nil, Nat.reduceAdd, Nat.reduceSub, Array.replicate_succ, Array.replicate_zero, List.push_toArray, List.append_toArray, List.nil_append, List.cons_append]
 gi_wp2_with fail
 refine (callsIn_wide.2 (refDecimal_any n h w)).mono ?_
 rintro e w1 ⟨rfl, b1⟩
 gi_wp2_with fail
 go_ret
 exact ⟨rfl, b1⟩
namespace Tt
def joinTo : List (List UInt8) -> Nat -> List UInt8 -> List UInt8
 | l, k, sep => Lib.join (l.take k) sep
theorem joinTail_snoc (sep : List UInt8) (l : List (List UInt8)) (x : List UInt8) : Lib.joinTail sep (l ++ [x]) = Lib.joinTail sep l ++ (sep ++ x) := by
 simp [Lib.joinTail]
theorem join_snoc (l : List (List UInt8)) (x sep : List UInt8) (h : l ≠ []) : Lib.join (l ++ [x]) sep = Lib.join l sep ++ sep ++ x := by
 cases l with
 | nil => exact absurd rfl h
 | cons y r =>
  rw [List.cons_append, Lib.join_cons, Lib.join_cons, joinTail_snoc]; simp
theorem join_one (x sep : List UInt8) : Lib.join [x] sep = x := by rw [Lib.join_cons]; simp [Lib.joinTail]
theorem join_take (l : List (List UInt8)) (sep : List UInt8) (k : Nat) (h : k < l.length) (h0 : 0 < k) : Lib.join (l.take (k + 1)) sep = Lib.join (l.take k) sep ++ sep ++ l[k] := by
 rw [List.take_succ_eq_append_getElem h]
 refine join_snoc _ _ _ ?_
 intro e
 have := congrArg List.length e
 rw [List.length_take, List.length_nil] at this
 omega
end Tt
set_option maxHeartbeats 4000000 in
theorem joined_any (v : Value) (l : List (List UInt8)) (sep : List UInt8) (w : World) (hv : Rd v l w) (hl : l.length <= 1000) (hs : sep.length <= 100) (hx : ∀ s ∈ l, s.length <= 1000) :
  Calls Tryd.prog 27 #[v, S sep] w (Gives (S (Lib.join l sep)) w) := by
 obtain ⟨o, cap, rfl, h1, h2⟩ := hv.form
 have HC := Lib.hid hv.cells
 have lz : (l.length : Int) <= 1000 := by omega
 have HGL : Hid (∀ k, (Lib.join (l.take k) sep).length <= 1100000) := fun k => by
  have h3 := Tt.join_len (l := l.take k) (sep := sep) (fun s hs => hx s (List.mem_of_mem_take hs))
  have h4 : (l.take k).length <= 1000 := by rw [List.length_take]; omega
  have h5 := Nat.mul_le_mul h4 (show 1000 + sep.length <= 1100 by omega)
  omega
 have HX := Lib.hid hx
 clear hv hx
 refine (callsIn_wide (n := 0)).1 ?_
 refine callsIn_of_wp Tryd.func27 rfl trivial ?_ rfl
 simp only [Tryd.ntmps27, List.size_toArray, List.length_cons, List.length_nil, Nat.reduceAdd, Nat.reduceSub, Array.replicate_succ, Array.replicate_zero, List.push_toArray, List.append_toArray, List.nil_append, List.cons_append]
 gi_wp2_with fail
 gi_loopw [5, 6] (fun v5 v6 W => ∃ k : Nat, k <= l.length /\ v6 = .int .i64 k /\ v5 = S (Lib.join (l.take k) sep) /\ Below w.heap.size w W) (fun _ v6 _ => l.length - (intOf v6).toNat)
 case atStart => exact ⟨0, Nat.zero_le _, rfl, by rw [List.take_zero, Lib.join_nil], Below.refl _ _⟩
 case round =>
  obtain ⟨k, hk, rfl, rfl, hb⟩ := hrel
  have HB := Lib.hid hb
  obtain ⟨r, hr⟩ : ∃ r, Lib.join (l.take k) sep = r := ⟨_, rfl⟩
  have hrl : r.length <= 1100000 := by rw [<- hr]; exact HGL.out k
  rw [hr]
  have HR := Lib.hid hr
  clear hr
  by_cases hlt : k < l.length
  case pos =>
   have hlz : (k : Int) < (l.length : Int) := by omega
   obtain ⟨a, rfl, c1⟩ := HC.out _ hb k hlt
   obtain ⟨x, hx⟩ : ∃ x, l[k] = x := ⟨_, rfl⟩
   rw [hx] at c1
   have hxl : x.length <= 1000 := by rw [<- hx]; exact HX.out _ (List.getElem_mem hlt)
   by_cases h0 : 0 < k
   ·have h0z : (0 : Int) < (k : Int) := by omega
    have HS : Hid (Lib.join (l.take (k + 1)) sep = r ++ sep ++ x) := by show _ = _; rw [Tt.join_take l sep k hlt h0, HR.out, hx]
    clear hb hx
    gi_wp2_with fail
    exact ⟨⟨k + 1, hlt, by go_num, by rw [HS.out]; show Value.string _ = Value.string _; congr 2, HB.out⟩, by simp [intOf]; omega⟩
   ·obtain rfl : k = 0 := by omega
    have HS : Hid (Lib.join (l.take (0 + 1)) sep = x /\ r = []) := by
     refine ⟨?_, ?_⟩
     ·rw [List.take_succ_eq_append_getElem hlt, List.take_zero, List.nil_append, Tt.join_one, hx]
     ·rw [<- HR.out, List.take_zero, Lib.join_nil]
    have h0a : a.add 0 = a := by unfold Addr.add; simp
    rw [h0a] at c1
    clear hb hx
    gi_wp2_with fail
    exact ⟨⟨0 + 1, hlt, by go_num, by rw [HS.out.1, HS.out.2]; rfl, HB.out⟩, by simp [intOf]; omega⟩
  case neg =>
   obtain rfl : k = l.length := by omega
   have hlz : ¬ ((l.length : Int) < (l.length : Int)) := by omega
   have HE : Hid (Lib.join l sep = r) := by show _ = _; rw [<- HR.out, List.take_of_length_le (Nat.le_refl _)]
   clear hb
   gi_wp2_with fail
   go_ret
   rw [HE.out]
   exact ⟨rfl, HB.out⟩
end Go.Proofs.YtjhibbjafjhhjaaDoor
