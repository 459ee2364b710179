/- Reports in words: text.Text. -/
import Derived.Test.YtjhibbjafjhhjaaDoorKTtE
namespace Go.Proofs.YtjhibbjafjhhjaaDoor
open Go.RowKit Go.Shelf
set_option maxRecDepth 100000
theorem wstringB (B b : Nat) (l s : List UInt8) (w : World) (h : Bld B b l w) (hlen : l.length + s.length <= 140737488355328) (hBw : B <= w.heap.size) :
  Calls Tryd.prog 29 #[.pointer (some ⟨b, 0, none⟩), S s] w fun e w' => e = .returned (.tuple #[.int .i64 s.length, .nilIface]) /\ Bld B b (l ++ s) w' /\ Below B w w' /\ Lib.OthersKept 5 (some b) w w' := by
 refine (writeString_any B b _ _ w h (by rw [Lib.byteCells_length, Go.ByteArray.size_mk_toArray]; exact hlen) hBw).mono ?_
 rintro e w' ⟨rfl, h1, h2, h3⟩
 exact ⟨rfl, .inr (by rw [<- byteCells_append, <- strCells_bytes s]; exact h1), h2, h3⟩
namespace Tt
def body (l : List (List UInt8)) : List UInt8 := l.flatMap fun s => s ++ [10]
def text (r : Rep) : List UInt8 := body (lines r)
theorem body_take (l : List (List UInt8)) (k : Nat) (h : k < l.length) : body (l.take (k + 1)) = body (l.take k) ++ (l[k] ++ [10]) := by
 unfold body; rw [List.take_succ_eq_append_getElem h, List.flatMap_append]; simp
theorem body_len {l : List (List UInt8)} {m : Nat} (h : ∀ s ∈ l, s.length <= m) : (body l).length <= l.length * (m + 1) := by
 induction l with
 | nil => simp [body]
 | cons x r ih =>
  have h1 := ih fun s hs => h s (List.mem_cons_of_mem _ hs)
  have h2 := h x List.mem_cons_self
  unfold body at *
  rw [List.flatMap_cons, List.length_append, List.length_cons, Nat.add_mul, List.length_append]
  simp only [List.length_cons, List.length_nil]
  omega
theorem Rep.Ok.rows_short {r : Rep} (h : r.Ok) : ∀ x ∈ rows r, Short x := by
 intro x hx
 unfold rows at hx
 rcases List.mem_append.1 hx with hx | hx
 ·obtain ⟨y, hy, rfl⟩ := List.mem_map.1 hx; exact (h.e y hy).short
 rcases List.mem_append.1 hx with hx | hx
 ·obtain ⟨y, hy, rfl⟩ := List.mem_map.1 hx; exact (h.f y hy).short
 rcases List.mem_append.1 hx with hx | hx
 ·obtain ⟨y, hy, rfl⟩ := List.mem_map.1 hx; exact (h.g y hy).short
 rcases List.mem_append.1 hx with hx | hx
 ·obtain ⟨y, hy, rfl⟩ := List.mem_map.1 hx; exact (h.s y hy).short
 unfold endRow at hx
 split at hx
 ·cases hx
 ·rw [List.mem_singleton] at hx
  subst hx
  refine ⟨by simp, by simp, fun s hs => ?_⟩
  simp only [List.mem_cons, List.not_mem_nil, or_false] at hs
  rcases hs with rfl | rfl
  ·decide
  ·have : (wd errs r.err.toNat).length <= 10 := wd_len errs_len
   omega
theorem Rep.Ok.line_len {r : Rep} (h : r.Ok) : ∀ s ∈ lines r, s.length <= 100000000 := by
 intro s hs
 obtain ⟨x, hx, rfl⟩ := List.mem_map.1 hs
 exact (h.rows_short x hx).join
theorem Rep.Ok.lines_len {r : Rep} (h : r.Ok) : (lines r).length <= 41 := by unfold lines; rw [List.length_map]; exact h.rows_len
theorem Rep.Ok.body_len {r : Rep} (h : r.Ok) (k : Nat) : (body ((lines r).take k)).length <= 5000000000 := by
 have h1 := Tt.body_len (l := (lines r).take k) (m := 100000000) fun s hs => h.line_len s (List.mem_of_mem_take hs)
 have h2 : ((lines r).take k).length <= 41 := by rw [List.length_take]; have := h.lines_len; omega
 have := Nat.mul_le_mul_right (100000000 + 1) h2
 omega
end Tt
theorem Rd.others {o : Option Addr} {n c b : Nat} {l : List (List UInt8)} {W W' : World} (h : Rd (.slice o n c) l W) (ht : ∀ a, o = some a -> ∃ c f, W.heap[a.block]? = some (.cells c 9 f)) (hb : ∃ c f, W.heap[b]? = some (.cells c 69 f))
  (ho : Lib.OthersKept 5 (some b) W W') : Rd (.slice o n c) l W' := by
 obtain ⟨o', cap, h1, h2, h3, h4, h5⟩ := h
 cases h1
 refine ⟨o, c, rfl, h2, h3, h4, fun j hj => ?_⟩
 obtain ⟨a, ha, e⟩ := h5 j hj
 refine ⟨a, ha, ?_⟩
 obtain ⟨c1, f1, h1⟩ := ht a ha
 have hbl : (a.add j).block = a.block := add_block _ _
 have := ho a.block _ h1 (fun x => by
  obtain ⟨c2, f2, h2⟩ := hb
  cases x
  rw [h2] at h1; cases h1) (fun _ _ x => by cases x)
 exact (World.cell?_of_block (by rw [hbl, this, h1])).trans e
set_option maxHeartbeats 4000000 in
theorem reptext_any (ve vf vg vs : Value) (r : Tt.Rep) (w : World) (hR : RepRd ve vf vg vs r w) (hok : r.Ok) (ht : Tab w) :
  Calls Tryd.prog 10 #[.agg #[ve, vf, vg, vs, .int .i64 r.err]] w (Gives (S (Tt.text r)) w) := by
 have HL : Hid (∀ W, Below w.heap.size w W -> Calls Tryd.prog 8 #[.agg #[ve, vf, vg, vs, .int .i64 r.err]] W (LinesOf r W)) := fun W hW => lines_any ve vf vg vs r W (hR.below hW) hok (ht.below hW)
 obtain ⟨oe, ce, rfl⟩ := hR.e.form
 obtain ⟨of, cf, rfl⟩ := hR.f.form
 obtain ⟨og, cg, rfl⟩ := hR.g.form
 obtain ⟨os, cs, rfl⟩ := hR.s.form
 obtain ⟨ne, hne⟩ : ∃ n, r.es.length = n := ⟨_, rfl⟩
 obtain ⟨nf, hnf⟩ : ∃ n, r.fs.length = n := ⟨_, rfl⟩
 obtain ⟨ng, hng⟩ : ∃ n, r.gs.length = n := ⟨_, rfl⟩
 obtain ⟨ns, hns⟩ : ∃ n, r.ss.length = n := ⟨_, rfl⟩
 obtain ⟨ev, hev⟩ : ∃ z, r.err = z := ⟨_, rfl⟩
 rw [hne, hnf, hng, hns, hev] at HL ⊢
 have HBL := Lib.hid hok.body_len
 have HLL := Lib.hid hok.line_len
 have HLN : Hid ((Tt.lines r).length <= 41) := hok.lines_len
 clear hR hok ht hne hnf hng hns hev
 refine (callsIn_wide (n := 0)).1 ?_
 refine callsIn_of_wp Tryd.func10 rfl trivial ?_ rfl
 simp only [Tryd.ntmps10, List.size_toArray, List.length_cons, List.length_nil, Nat.reduceAdd, Nat.reduceSub, Array.replicate_succ, Array.replicate_zero, List.push_toArray, List.append_toArray, List.nil_append, List.cons_append]
 have hb2 : Below w.heap.size w ((w.alloc (.cells #[.slice oe ne ce, .slice of nf cf, .slice og ng cg, .slice os ns cs, .int .i64 ev] 30)).alloc (.cells #[.pointer none, .slice none 0 0] 69)) := ((Below.refl _ _).alloc (by simp) _).alloc (by simp) _
 have hbld := Bld_new (w.alloc (.cells #[.slice oe ne ce, .slice of nf cf, .slice og ng cg, .slice os ns cs, .int .i64 ev] 30))
 have hblk := Blk.new (w.alloc (.cells #[.slice oe ne ce, .slice of nf cf, .slice og ng cg, .slice os ns cs, .int .i64 ev] 30)) #[.pointer none, .slice none 0 0] 69
 rw [World.size_alloc] at hbld hblk
 have HB2 := Lib.hid hb2
 have HBD := Lib.hid hbld
 have HBK := Lib.hid hblk
 clear hb2 hbld hblk
 gi_wp2_with fail
 obtain ⟨W2, hW2⟩ : ∃ x, (w.alloc (.cells #[.slice oe ne ce, .slice of nf cf, .slice og ng cg, .slice os ns cs, .int .i64 ev] 30)).alloc (.cells #[.pointer none, .slice none 0 0] 69) = x := ⟨_, rfl⟩
 rw [hW2] at HB2 HBD HBK ⊢
 refine (callsIn_wide.2 (HL.out W2 HB2.out)).mono ?_
 rintro e w3 ⟨o, rfl, hrd, htp, b3⟩
 obtain ⟨b, hb⟩ : ∃ b, w.heap.size + 1 = b := ⟨_, rfl⟩
 rw [hb] at HBD HBK ⊢
 obtain ⟨n, hn⟩ : ∃ n, (Tt.lines r).length = n := ⟨_, rfl⟩
 rw [hn] at hrd HLN ⊢
 have hn1 : (n : Int) <= 41 := by have := HLN.out; omega
 have HN := Lib.hid hn
 have HB3 := Lib.hid (below5 HB2.out b3)
 have HBD3 := Lib.hid (builderF_below HBD.out b3)
 have HBK3 : Hid (∃ c f, w3.heap[b]? = some (.cells c 69 f)) := ⟨_, _, HBK.out.below b3⟩
 have HRD := Lib.hid hrd
 have HTP := Lib.hid htp
 have HWB : Hid (w.heap.size <= b /\ b <= w3.heap.size) := by
  have h1 := HBK.out.lt
  have h2 := b3.size
  exact ⟨by omega, by omega⟩
 clear hrd htp b3 hn hb HL HB2 HBD HBK hW2
 gi_wp2_with fail
 gi_loopw [9] (fun v9 A => ∃ k : Nat, k <= n /\ v9 = .int .i64 k /\ Hid (Bld b b (Tt.body ((Tt.lines r).take k)) A) /\ Hid (Lib.OthersKept 5 (some b) w3 A) /\ Hid (Below w.heap.size w A) /\ Hid (b <= A.heap.size)) (fun v9 _ => n - (intOf v9).toNat)
 case atStart => exact ⟨0, Nat.zero_le _, rfl, HBD3, Lib.hid (Lib.OthersKept.refl _ _ _), HB3, HWB.out.2⟩
 case round =>
  obtain ⟨k, hk, rfl, HBD, HOK, HBA, HSZ⟩ := hrel
  by_cases hlt : k < n
  case pos =>
   have hlz : (k : Int) < (n : Int) := by omega
   have hlen : k < (Tt.lines r).length := by rw [HN.out]; exact hlt
   have hrd2 : Rd (.slice o (Tt.lines r).length n) (Tt.lines r) wr := by rw [HN.out]; exact HRD.out.others HTP.out HBK3.out HOK.out
   obtain ⟨a, rfl, c1⟩ := hrd2.cells _ (Below.refl _ _) k hlen
   clear hrd2
   obtain ⟨x, hx⟩ : ∃ x, (Tt.lines r)[k] = x := ⟨_, rfl⟩
   have HXL : Hid (x.length <= 100000000) := by show _ <= _; rw [<- hx]; exact HLL.out _ (List.getElem_mem hlen)
   have HS : Hid (Tt.body ((Tt.lines r).take (k + 1)) = Tt.body ((Tt.lines r).take k) ++ (x ++ [10])) := by show _ = _; rw [Tt.body_take _ _ hlen, hx]
   rw [hx] at c1
   clear hx
   have hxl : x.length <= 100000000 := HXL.out
   gi_wp2_with fail
   rw [append_S]
   refine (callsIn_wide.2 (wstringB b b _ (x ++ [10]) _ HBD.out (by have := HBL.out k; simp; omega) HSZ.out)).mono ?_
   rintro e w4 ⟨rfl, hbl, hb4, ho4⟩
   have H1 := Lib.hid hbl
   have H2 := Lib.hid (HOK.out.trans ho4)
   have H3 := Lib.hid (HBA.out.trans (hb4.mono HWB.out.1))
   have H4 : Hid (b <= w4.heap.size) := Nat.le_trans HSZ.out hb4.size
   clear hbl hb4 ho4 hxl c1
   gi_wp2_with fail
   exact ⟨⟨k + 1, hlt, by go_num, by rw [HS.out]; exact H1, H2, H3, H4⟩, by simp [intOf]; omega⟩
  case neg =>
   obtain rfl : n = k := by omega
   have hlz : ¬ ((n : Int) < (n : Int)) := by omega
   have hbd := HBD.out
   rw [List.take_of_length_le (by rw [HN.out]; exact Nat.le_refl _)] at hbd
   have HBD' := Lib.hid hbd
   clear hbd HBD
   gi_wp2_with fail
   refine (callsIn_wide.2 (Tryd.Builder_String_any_k b b _ _ HBD'.out HSZ.out)).mono ?_
   rintro e w4 ⟨rfl, _, hb4, _⟩
   have H3 := Lib.hid (HBA.out.trans (hb4.mono HWB.out.1))
   clear hb4
   gi_wp2_with fail
   go_ret
   exact ⟨rfl, H3.out⟩
end Go.Proofs.YtjhibbjafjhhjaaDoor
