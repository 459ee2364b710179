/- Numbers in hexadecimal digits: strconv.FormatUint at base 16. -/
import Derived.Test.YtgmbefolgppmdaaGreatDoorKTxA
import Derived.Test.YtgmbefolgppmdaaGreatDoorKZnD
import Derived.Laws.Bits64b
import Derived.Test.YtgmbefolgppmdaaGreatDoorKLabA
import Derived.Test.YtgmbefolgppmdaaGreatDoorKGr
import Derived.Test.YtgmbefolgppmdaaGreatDoorKReg
section
namespace Go.Proofs.YtgmbefolgppmdaaGreatDoor
open Go.RowKit Go.Shelf
set_option maxRecDepth 100000
def Db (w : World) : Prop := w.cell? ⟨3, 15, none⟩ = some (.int .u8 4)
theorem Db.below {w W : World} (h : Db w) (hb : Below w.heap.size w W) : Db W := (hb.cell (cell_lt h)).trans h
theorem tz_key : IntKind.u64.wrap (bits BinOp.and IntKind.u64 16 (IntKind.u64.wrap (-16)) * 285870213051353865) / 288230376151711744 = 15 := by decide
theorem tz64_16 (w : World) (h : Db w) : Calls Tryz.prog 128 #[.int .u64 16] w fun e w' => e = .returned (.int .i64 4) /\ w = w' := by
 have h' : w.cell? ⟨3, 15, none⟩ = some (.int .u8 4) := h
 clear h
 go_enter Tryz.func128, Tryz.ntmps128
 go_wp2_with (simp only [tz_key])
 go_ret
 exact ⟨rfl, rfl⟩
theorem tz_16 (w : World) (h : Db w) : Calls Tryz.prog 121 #[.int .u64 16] w fun e w' => e = .returned (.int .i64 4) /\ w = w' := by
 have H := Lib.hid (tz64_16 w h)
 clear h
 go_enter Tryz.func121, Tryz.ntmps121
 go_wp2_with (go_at_call 128; refine H.out.mono ?_; rintro e w' ⟨rfl, rfl⟩)
 go_ret
 exact ⟨rfl, rfl⟩
theorem pow2_16 (w : World) : Calls Tryz.prog 120 #[.int .i64 16] w fun e w' => e = .returned (.bool true) /\ w = w' := by
 go_enter Tryz.func120, Tryz.ntmps120
 go_wp2
 go_ret
 exact ⟨rfl, rfl⟩
namespace Hx
def dg (n : Nat) : UInt8 := if n < 10 then UInt8.ofNat (48 + n) else UInt8.ofNat (87 + n)
def hexd (n : Nat) : List UInt8 := if n < 16 then [dg n] else hexd (n / 16) ++ [dg (n % 16)]
termination_by n
decreasing_by omega
theorem hexd_small {n : Nat} (h : n < 16) : hexd n = [dg n] := by rw [hexd, if_pos h]
theorem hexd_big {n : Nat} (h : ¬ n < 16) : hexd n = hexd (n / 16) ++ [dg (n % 16)] := by rw [hexd, if_neg h]
def digs : List UInt8 := [48, 49, 50, 51, 52, 53, 54, 55, 56, 57, 97, 98, 99, 100, 101, 102, 103, 104, 105, 106, 107, 108, 109, 110, 111, 112, 113, 114, 115, 116, 117, 118, 119, 120, 121, 122]
theorem digs_at {r : Nat} (h : r < 16) (h' : r < ([48, 49, 50, 51, 52, 53, 54, 55, 56, 57, 97, 98, 99, 100, 101, 102, 103, 104, 105, 106, 107, 108, 109, 110, 111, 112, 113, 114, 115, 116, 117, 118, 119, 120, 121, 122] : List UInt8).length) : ([48, 49, 50, 51, 52, 53, 54, 55, 56, 57, 97, 98, 99, 100, 101, 102, 103, 104, 105, 106, 107, 108, 109, 110, 111, 112, 113, 114, 115, 116, 117, 118, 119, 120, 121, 122] : List UInt8)[r] = dg r := by
 have h1 : ∀ r : Fin 16, ([48, 49, 50, 51, 52, 53, 54, 55, 56, 57, 97, 98, 99, 100, 101, 102, 103, 104, 105, 106, 107, 108, 109, 110, 111, 112, 113, 114, 115, 116, 117, 118, 119, 120, 121, 122] : List UInt8)[r.1]? = some (dg r.1) := by decide
 have := h1 ⟨r, h⟩
 rw [List.getElem?_eq_getElem h'] at this
 exact Option.some.inj this
theorem hexd_len {n : Nat} : ∀ k, n < 16 ^ (k + 1) -> (hexd n).length <= k + 1 := by
 intro k
 induction k generalizing n with
 | zero => intro h; rw [hexd_small (by simpa using h)]; simp
 | succ k ih =>
  intro h
  by_cases h16 : n < 16
  ·rw [hexd_small h16]; simp
  ·rw [hexd_big h16, List.length_append]
   have := ih (n := n / 16) (by rw [Nat.pow_succ] at h; omega)
   simp only [List.length_cons, List.length_nil]; omega
end Hx
theorem set_mid (p : List Value) (u v : Value) (t : List Value) : (p ++ [u] ++ t).toArray.setIfInBounds p.length v = (p ++ [v] ++ t).toArray := by simp
theorem Blk.setAt2 {b cs t W} (h : Blk b cs t W) (i : Nat) (u : Value) : Blk b (cs.setIfInBounds i u) t (W.setCell ⟨b, i, none⟩ u) := by
 unfold Blk at *; simp [World.setCell, Array.getElem?_modify, h]
set_option maxHeartbeats 4000000 in
theorem fbits_any (n : Nat) (hn : n < 65536) (w : World) (h : Db w) :
  Calls Tryz.prog 100 #[.slice none 0 0, .int .u64 (n : Int), .int .i64 16, .bool false, .bool false] w (Gives (.tuple #[.slice none 0 0, S (Hx.hexd n)]) w) := by
 have HD := Lib.hid h
 have nz : (n : Int) < 65536 := by omega
 clear h
 refine (callsIn_wide (n := 0)).1 ?_
 refine callsIn_of_wp Tryz.func100 rfl trivial ?_ rfl
 simp only [Tryz.ntmps100, List.size_toArray, List.length_cons, List.length_nil, Nat.reduceAdd, Nat.reduceSub, Array.replicate_succ, Array.replicate_zero, List.push_toArray, List.append_toArray, List.nil_append, List.cons_append]
 gi_wp2_with fail
 refine (callsIn_wide.2 (pow2_16 _)).mono ?_
 rintro e w1 ⟨rfl, rfl⟩
 gi_wp2_with fail
 refine (callsIn_wide.2 (tz_16 _ (HD.out.below ((Below.refl _ _).alloc (Nat.le_refl _) _)))).mono ?_
 rintro e w1 ⟨rfl, rfl⟩
 gi_wp2_with fail
 have hA0 : Blk w.heap.size (List.replicate 65 (Value.int .u8 0)).toArray 142 (w.alloc (.cells Tryz.zeroCells142 142)) := Blk.new _ _ _
 have hb0 : Below w.heap.size w (w.alloc (.cells Tryz.zeroCells142 142)) := (Below.refl _ _).alloc (Nat.le_refl _) _
 have HA0 := Lib.hid hA0
 have HB0 := Lib.hid hb0
 clear hA0 hb0
 obtain ⟨W0, hW0⟩ : ∃ x, w.alloc (.cells Tryz.zeroCells142 142) = x := ⟨_, rfl⟩
 obtain ⟨g, hg⟩ : ∃ b, w.heap.size = b := ⟨_, rfl⟩
 rw [hW0] at HA0 HB0 ⊢
 rw [hg] at HA0 ⊢
 have HG := Lib.hid hg
 clear hW0 hg
 gi_loopw [1, 13] (fun v1 v13 A => ∃ (m k : Nat) (s : List UInt8) (pre : List Value), v1 = .int .u64 m /\ v13 = .int .i64 k /\ k + s.length = 65 /\ pre.length = k /\ Hid (s.length <= 3 /\ m < 16 ^ (4 - s.length)) /\ Hid (Hx.hexd n = Hx.hexd m ++ s) /\ Hid (Blk g (pre ++ s.map fun c : UInt8 => Value.int .u8 (c.toNat : Int)).toArray 142 A) /\ Hid (Below w.heap.size w A)) (fun _ v13 _ => (intOf v13).toNat)
 case atStart => exact ⟨n, 65, [], List.replicate 65 (.int .u8 0), rfl, rfl, rfl, rfl, ⟨by decide, hn⟩, by show _ = _; simp, by show Blk _ _ _ _; simpa using HA0.out, HB0⟩
 case round =>
  obtain ⟨m, k, s, pre, rfl, rfl, hks, hpre, hM, hH, hA, hB⟩ := hrel
  obtain ⟨hs3, hm⟩ := hM.out
  by_cases h16 : 16 <= m
  case pos =>
   have h16z : (16 : Int) <= (m : Int) := by omega
   have hm6 : m < 65536 := Nat.lt_of_lt_of_le hm (Nat.pow_le_pow_right (n := 16) (j := 4) (by decide) (by omega))
   have hk1 : 62 <= k := by omega
   obtain ⟨k', rfl⟩ : ∃ k', k = k' + 1 := ⟨k - 1, by omega⟩
   have hk9 : (k' : Int) <= 64 := by omega
   have hk8 : (0 : Int) <= (k' : Int) := by omega
   have hand : bits BinOp.and IntKind.u64 (m : Int) 15 = ((m % 16 : Nat) : Int) := by
    have h := bits_and_u64_nat m 15 (by omega) (by decide)
    rw [show ((15 : Nat) : Int) = 15 from rfl] at h
    rw [h, Nat.and_two_pow_sub_one_eq_mod m 4]
   obtain ⟨r, hr⟩ : ∃ r, m % 16 = r := ⟨_, rfl⟩
   obtain ⟨q, hq⟩ : ∃ q, m / 16 = q := ⟨_, rfl⟩
   have hr16 : r < 16 := by omega
   have hrz : (r : Int) < 16 := by omega
   rw [hr] at hand
   have hqz : (m : Int) / 16 = (q : Int) := by omega
   have HS := Lib.hid (And.intro hks (And.intro hpre (And.intro hs3 hm)))
   have HRQ := Lib.hid (And.intro hr hq)
   clear hm hs3 hks hpre hr hq hk1 hm6 nz hn
   obtain ⟨p, u, rfl⟩ : ∃ p u, pre = p ++ [u] := by
    rcases List.eq_nil_or_concat pre with h | ⟨p, u, h⟩
    ·have := HS.out.2.1; rw [h] at this; simp at this
    ·exact ⟨p, u, by rw [h, List.concat_eq_append]⟩
   have hpl : p.length = k' := by have := HS.out.2.1; simp at this; exact this
   have c1 : wr.cell? ⟨g, k', none⟩ = some u := by rw [hA.out.cell k', <- hpl]; simp
   have z1 := hA.out.frozen k'
   have hdg := Hx.digs_at hr16 (by simp only [List.length_cons, List.length_nil]; omega)
   have HDG := Lib.hid hdg
   have HPL := Lib.hid hpl
   clear hdg hpl
   gi_wp2_with fail
   rw [HDG.out]
   have hset := hA.out.setAt2 k' (Value.int .u8 ((Hx.dg r).toNat : Int))
   rw [<- HPL.out, set_mid, HPL.out] at hset
   have hS := HS.out
   refine ⟨⟨q, k', Hx.dg r :: s, p, rfl, rfl, by simp; omega, HPL.out, ?_, ?_, ?_, ?_⟩, by simp [intOf]⟩
   ·obtain ⟨e1, e2, e3, e4⟩ := HS.out
    obtain ⟨e5, e6⟩ := HRQ.out
    have hs2 : s.length <= 2 := by
     rcases Nat.lt_or_ge s.length 3 with h | h
     ·omega
     ·have h3 : s.length = 3 := by omega
      rw [h3] at e4; simp at e4; omega
    refine ⟨by simp; omega, ?_⟩
    have h4 : 4 - s.length = (4 - (Hx.dg r :: s).length) + 1 := by simp; omega
    rw [h4, Nat.pow_succ] at e4
    rw [<- e6]; omega
   ·show _ = _
    rw [hH.out, Hx.hexd_big (by omega), HRQ.out.1, HRQ.out.2]; simp
   ·show Blk _ _ _ _
    simpa using hset
   ·exact Lib.hid (hB.out.setCell (p := ⟨g, k', none⟩) (by rw [HG.out]; exact Nat.le_refl _) _)
  case neg =>
   have h16z : ¬ ((16 : Int) <= (m : Int)) := by omega
   have hm16 : m < 16 := by omega
   obtain ⟨k', rfl⟩ : ∃ k', k = k' + 1 := ⟨k - 1, by omega⟩
   have hk9 : (k' : Int) <= 64 := by omega
   have hk8 : (0 : Int) <= (k' : Int) := by omega
   have HS := Lib.hid (And.intro hks (And.intro hpre (And.intro hs3 hm)))
   clear hm hs3 hks hpre nz hn
   obtain ⟨p, u, rfl⟩ : ∃ p u, pre = p ++ [u] := by
    rcases List.eq_nil_or_concat pre with h | ⟨p, u, h⟩
    ·have := HS.out.2.1; rw [h] at this; simp at this
    ·exact ⟨p, u, by rw [h, List.concat_eq_append]⟩
   have hpl : p.length = k' := by have := HS.out.2.1; simp at this; exact this
   have c1 : wr.cell? ⟨g, k', none⟩ = some u := by rw [hA.out.cell k', <- hpl]; simp
   have z1 := hA.out.frozen k'
   have hdg := Hx.digs_at hm16 (by simp only [List.length_cons, List.length_nil]; omega)
   have HDG := Lib.hid hdg
   have HPL := Lib.hid hpl
   clear hdg hpl
   have hal : Tryz.prog.arrayLen 142 = 65 := by simp [Program.arrayLen, Tryz.underlying142]
   have hsl : ∀ W, (Instr.sliceAt 142 (.pointer (some ⟨g, 0, none⟩)) (some (.int .i64 (k' : Int))) none none).run Tryz.prog W = .ok (.slice (some ⟨g, k', none⟩) (65 - k') (65 - k')) W := fun W => by
    rw [run_sliceAt_array_l W 142 ⟨g, 0, none⟩ (by simp [Program.arrayLen, Program.elem, Tryz.underlying142]) .i64 (k' : Int) (by omega) (by rw [hal]; omega), hal]
    go_simp
    intro h; omega
   have hset := hA.out.setAt2 k' (Value.int .u8 ((Hx.dg m).toNat : Int))
   rw [<- HPL.out, set_mid, HPL.out] at hset
   have hset2 : Blk g (p ++ ((Hx.dg m :: s).map fun c : UInt8 => Value.int .u8 (c.toNat : Int))).toArray 142 (wr.setCell ⟨g, k', none⟩ (.int .u8 ((Hx.dg m).toNat : Int))) := by simpa using hset
   have hlen : (Hx.dg m :: s).length = 65 - k' := by have := HS.out.1; simp; omega
   have hcv : (convert 27 9 (.slice (some ⟨g, k', none⟩) (65 - k') (65 - k'))).run Tryz.prog (wr.setCell ⟨g, k', none⟩ (.int .u8 ((Hx.dg m).toNat : Int))) = .ok (S (Hx.dg m :: s)) (wr.setCell ⟨g, k', none⟩ (.int .u8 ((Hx.dg m).toNat : Int))) := by
    have h := run_convert_bytes_back (P := Tryz.prog) (wr.setCell ⟨g, k', none⟩ (.int .u8 ((Hx.dg m).toNat : Int))) 27 9 5 ⟨g, k', none⟩ (65 - k') (Hx.dg m :: s) Tryz.underlying27 Tryz.underlying5 Tryz.underlying9 (fun j hj => by
     have hadd : (⟨g, k', none⟩ : Addr).add j = ⟨g, k' + j, none⟩ := by unfold Addr.add; split <;> simp_all
     rw [hadd, hset2.cell (k' + j), List.getElem?_toArray, List.getElem?_append_right (by rw [HPL.out]; omega), HPL.out, show k' + j - k' = j by omega, List.getElem?_map, List.getElem?_eq_getElem hj]; rfl)
    rw [hlen] at h
    exact h
   have HN : Hid (Hx.hexd n = Hx.dg m :: s) := by show _ = _; rw [hH.out, Hx.hexd_small hm16]; rfl
   have HBS := Lib.hid (hB.out.setCell (p := ⟨g, k', none⟩) (by show w.heap.size <= g; rw [HG.out]; exact Nat.le_refl _) (.int .u8 ((Hx.dg m).toNat : Int)))
   have hdg := HDG.out
   clear hset hset2 hlen
   gi_wp2_with fail
   go_ret2
   rw [HN.out]
   exact ⟨rfl, HBS.out⟩
theorem fmtHexI_any (n : Nat) (hn : n < 65536) (w : World) (h : Db w) : Calls Tryz.prog 66 #[.int .u64 (n : Int), .int .i64 16] w (Gives (S (Hx.hexd n)) w) := by
 have H := Lib.hid (fbits_any n hn w h)
 clear h
 refine (callsIn_wide (n := 0)).1 ?_
 refine callsIn_of_wp Tryz.func66 rfl trivial ?_ rfl
 simp only [Tryz.ntmps66, List.size_toArray, List.length_cons, List.length_nil, Nat.reduceAdd, Nat.reduceSub, Array.replicate_succ, Array.replicate_zero, List.push_toArray, List.append_toArray, List.nil_append, List.cons_append]
 gi_wp2_with fail
 refine (callsIn_wide.2 H.out).mono ?_
 rintro e w1 ⟨rfl, b1⟩
 gi_wp2_with fail
 go_ret
 exact ⟨rfl, b1⟩
theorem fmtHex_any (n : Nat) (hn : n < 65536) (w : World) (h : Db w) : Calls Tryz.prog 31 #[.int .u64 (n : Int), .int .i64 16] w (Gives (S (Hx.hexd n)) w) := by
 have H := Lib.hid (fmtHexI_any n hn w h)
 clear h
 refine (callsIn_wide (n := 0)).1 ?_
 refine callsIn_of_wp Tryz.func31 rfl trivial ?_ rfl
 simp only [Tryz.ntmps31, List.size_toArray, List.length_cons, List.length_nil, Nat.reduceAdd, Nat.reduceSub, Array.replicate_succ, Array.replicate_zero, List.push_toArray, List.append_toArray, List.nil_append, List.cons_append]
 gi_wp2_with fail
 refine (callsIn_wide.2 H.out).mono ?_
 rintro e w1 ⟨rfl, b1⟩
 gi_wp2_with fail
 go_ret
 exact ⟨rfl, b1⟩
end Go.Proofs.YtgmbefolgppmdaaGreatDoor
end
section
namespace Go.Proofs.YtgmbefolgppmdaaGreatDoor
open Go.RowKit Go.Shelf
set_option maxRecDepth 100000
attribute [local go_sem] Oper.semAt_some
def BldR (R b : Nat) (l : List UInt8) (w : World) : Prop := ∃ p v, (p = Value.pointer none \/ p = Value.pointer (some ⟨b, 0, none⟩)) /\ w.heap[b]? = some (.cells #[p, v] 94 (0, 0)) /\ w.ownsRowF R 5 1 v (Lib.byteCells l).length (Lib.byteCells l) /\ v.ownBlock ≠ some b
theorem ownsRowF_mono {w : World} {R B : Nat} {e : TypeId} {v n xs} (h : w.ownsRowF R e 1 v n xs) (hB : B <= R) : w.ownsRowF B e 1 v n xs := by
 obtain ⟨hl, h⟩ := h
 refine ⟨hl, ?_⟩
 rcases h with h | ⟨g, cap, cur, fz, hv, hbg, rest⟩
 ·exact .inl h
 ·exact .inr ⟨g, cap, cur, fz, hv, Nat.le_trans hB hbg, rest⟩
theorem BldR.bld {R b l w} (h : BldR R b l w) {B : Nat} (hB : B <= b) (hR : B <= R) : Bld B b l w := by
 obtain ⟨p, v, hp, h1, h2, h3⟩ := h
 rcases hp with rfl | rfl
 ·exact .inl ⟨hB, v, h1, ownsRowF_mono h2 hR, h3⟩
 ·exact .inr ⟨hB, v, h1, ownsRowF_mono h2 hR, h3⟩
theorem BldR.new (R : Nat) (w : World) : BldR R w.heap.size [] (w.alloc (.cells #[.pointer none, .slice none 0 0] 94)) := ⟨_, _, .inl rfl, World.alloc_heap_new w _, ⟨rfl, .inl ⟨rfl, rfl⟩⟩, by simp [Value.ownBlock]⟩
theorem BldR.lt {R b l w} (h : BldR R b l w) : b < w.heap.size := by obtain ⟨_, _, _, h, _⟩ := h; exact (Array.getElem?_eq_some_iff.1 h).1
theorem BldR.below {R b l} {w W : World} (h : BldR R b l w) (hb : Below w.heap.size w W) : BldR R b l W := by
 have hk := CellsKept.below hb
 obtain ⟨p, v, hp, h1, ⟨hl, hown⟩, hne⟩ := h
 refine ⟨p, v, hp, hk _ _ _ _ h1, ⟨hl, ?_⟩, hne⟩
 rcases hown with hn | ⟨g, cap, cur, fz, hv, hbg, hg, rest⟩
 ·exact .inl hn
 ·exact .inr ⟨g, cap, cur, fz, hv, hbg, hk _ _ _ _ hg, rest⟩
def KeptR (R b : Nat) (w w' : World) : Prop := ∀ k, k < R -> k ≠ b -> w'.heap[k]? = w.heap[k]?
theorem KeptR.trans {R b a c d} (h : KeptR R b a c) (k : KeptR R b c d) : KeptR R b a d := fun i hi hb => (k i hi hb).trans (h i hi hb)
theorem KeptR.below {R b} {w W : World} (hb : Below w.heap.size w W) (hR : R <= w.heap.size) : KeptR R b w W := fun k hk _ => hb.block k (by omega)
theorem copyCheckR (R b : Nat) (l : List UInt8) (w : World) (h : BldR R b l w) (_hbR : b < R) :
  Calls Tryz.prog 91 #[.pointer (some ⟨b, 0, none⟩)] w fun e w' => e = .returned (.tuple #[]) /\ (∃ v, w'.heap[b]? = some (.cells #[.pointer (some ⟨b, 0, none⟩), v] 94 (0, 0)) /\ w'.ownsRowF R 5 1 v (Lib.byteCells l).length (Lib.byteCells l) /\ v.ownBlock ≠ some b) /\ Below b w w' /\ KeptR R b w w' /\ w'.heap.size = w.heap.size := by
 obtain ⟨p, v, hp, h1, h2, h3⟩ := h
 rcases hp with rfl | rfl
 ·refine (copyCheck_fresh b w (by rw [Lib.cell_of_heap h1]; rfl) (by simp [World.shape?, h1]) (Lib.frozen_of_heap h1 0)).mono ?_
  rintro e w' ⟨rfl, rfl⟩
  refine ⟨rfl, ⟨v, by simp [World.setCell, Array.getElem?_modify, h1], ?_, h3⟩, (Below.refl b w).setCell (p := ⟨b, 0, none⟩) (Nat.le_refl _) _, fun k _ hk => Below.heap_setCell _ _ _ _ hk, by simp [World.setCell]⟩
  exact h2.kept (row := some b) ⟨rfl, rfl, rfl, by simp [World.setCell], fun k _ hk => Below.heap_setCell _ _ _ _ (fun e => hk (by simp [e]))⟩ (Or.inr h3)
 ·refine (copyCheck_used b w (by rw [Lib.cell_of_heap h1]; rfl)).mono ?_
  rintro e w' ⟨rfl, rfl⟩
  exact ⟨rfl, ⟨v, h1, h2, h3⟩, Below.refl b _, fun _ _ _ => rfl, rfl⟩
set_option maxHeartbeats 1000000 in
theorem wbyteR (B R b : Nat) (l : List UInt8) (c : UInt8) (n : Int) (w : World) (hn : n = c.toNat) (h : BldR R b l w) (hB : B <= b) (hbR : b < R) (hlen : l.length <= 100000000) (hRw : R <= w.heap.size) :
  Calls Tryz.prog 96 #[.pointer (some ⟨b, 0, none⟩), .int .u8 n] w fun e w' => e = .returned .nilIface /\ BldR R b (l ++ [c]) w' /\ Below B w w' /\ KeptR R b w w' := by
 obtain ⟨i0, hi, hz0, hz1, hz2⟩ := info_parts Tryz.info_u8
 have HN := Lib.hid hn
 clear hn
 have hbl : (Lib.byteCells l).length = l.length := Lib.byteCells_length l
 have HBL := Lib.hid hbl
 clear hbl
 go_enter Tryz.func96, Tryz.ntmps96
 go_wp2_with (go_at_call 91; refine (copyCheckR R b l _ h hbR).mono ?_)
 rintro e w1 ⟨rfl, ⟨v, hbk, hown, hne⟩, hb1, hk1, hs1⟩
 have HS1 := Lib.hid hs1
 clear hs1
 have c0 : w1.cell? ⟨b, 0, none⟩ = some (.pointer (some ⟨b, 0, none⟩)) := by rw [Lib.cell_of_heap hbk]; rfl
 have c1 : w1.cell? ⟨b, 1, none⟩ = some v := by rw [Lib.cell_of_heap hbk]; rfl
 go_wp2_with (at_builtin; refine wpList_append_ownF _ rfl _ _ 27 rfl R 5 i0 (.int .u8 0) 1 1 Tryz.underlying27 hi hz0 hz1 hz2 rfl (by decide) _ _ _ rfl (hown.alloc _) ⟨w1.heap.size, 0, none⟩ 1 1 [.int .u8 n] rfl rfl ?c1 ?c2 ?c3 ?c4 ?c5 ?_)
 case c1 =>
  intro j u hj
  match j, hj with
  | 0, hj => simp at hj; subst hj; simp [Addr.add]
 case c2 => intro u hu; simp at hu; subst hu; rfl
 case c3 => have := HBL.out; unfold maxLen; omega
 case c4 => have := HBL.out; omega
 case c5 => have := HS1.out; simp; omega
 intro v' w2 hown' hgrow _
 have hs1 := HS1.out
 have hlt : b < w1.heap.size := by omega
 have hb2 : w2.heap[b]? = some (.cells #[.pointer (some ⟨b, 0, none⟩), v] 94 (0, 0)) := by
  rw [hgrow.block b (by simp; omega) (fun e => hne e.symm), Lib.alloc_old w1 _ b hlt]
  exact hbk
 have d0 : w2.cell? ⟨b, 0, none⟩ = some (.pointer (some ⟨b, 0, none⟩)) := by rw [Lib.cell_of_heap hb2]; rfl
 have d1 : w2.cell? ⟨b, 1, none⟩ = some v := by rw [Lib.cell_of_heap hb2]; rfl
 have f1 : w2.frozen? ⟨b, 1, none⟩ = false := Lib.frozen_of_heap hb2 1
 obtain ⟨g, cap, rfl⟩ : ∃ g cap, v' = .slice (some ⟨g, 0, none⟩) ((Lib.byteCells l).length + 1) cap := by
  rcases hown'.2 with ⟨_, h0⟩ | ⟨g, cap, cur, fz, hv, _⟩
  ·omega
  ·exact ⟨g, cap, hv⟩
 clear hs1
 go_wp2
 go_ret
 have hs1 := HS1.out
 have hne' := Lib.ownBlock_neF hown' hb2 (by decide)
 have hge : ∀ k, v.ownBlock = some k -> R <= k := fun k hk => (hown.lt k hk).1
 refine ⟨rfl, ⟨_, _, .inr rfl, (by simp [World.setCell, Array.getElem?_modify, hb2]), ?_, hne'⟩, ?_, ?_⟩
 ·have h5 := hown'.kept (row := some b) (w' := w2.setCell ⟨b, 1, none⟩ (.slice (some ⟨g, 0, none⟩) ((Lib.byteCells l).length + 1) cap)) ⟨rfl, rfl, rfl, by simp [World.setCell], fun k _ hk => Below.heap_setCell _ _ _ _ (fun e => hk (by simp [e]))⟩ (Or.inr hne')
  rw [HN.out, byteCells_snoc] at h5
  rw [show (Lib.byteCells (l ++ [c])).length = (Lib.byteCells l).length + 1 by simp [Lib.byteCells]]
  exact h5
 ·refine (((hb1.mono hB).alloc (by omega) _).grown hgrow (by simp; omega) (fun k hk => ?_)).setCell (p := ⟨b, 1, none⟩) hB _
  have := hge k hk; omega
 ·intro k hk hkb
  rw [Below.heap_setCell _ _ _ _ hkb, hgrow.block k (by simp; omega) (fun e => by have := hge k e.symm; omega), Lib.alloc_old w1 _ k (by omega)]
  exact hk1 k hk hkb
set_option maxHeartbeats 1000000 in
theorem wstringR (B R b : Nat) (l s : List UInt8) (w : World) (h : BldR R b l w) (hB : B <= b) (hbR : b < R) (hlen : l.length <= 100000000) (hs : s.length <= 100000000) (hRw : R <= w.heap.size) :
  Calls Tryz.prog 63 #[.pointer (some ⟨b, 0, none⟩), S s] w fun e w' => e = .returned (.tuple #[.int .i64 s.length, .nilIface]) /\ BldR R b (l ++ s) w' /\ Below B w w' /\ KeptR R b w w' := by
 obtain ⟨i0, hi, hz0, hz1, hz2⟩ := info_parts Tryz.info_u8
 have hbl : (Lib.byteCells l).length = l.length := Lib.byteCells_length l
 have HBL := Lib.hid hbl
 clear hbl
 go_enter Tryz.func63, Tryz.ntmps63
 go_wp2_with (go_at_call 91; refine (copyCheckR R b l _ h hbR).mono ?_)
 rintro e w1 ⟨rfl, ⟨v, hbk, hown, hne⟩, hb1, hk1, hs1⟩
 have HS1 := Lib.hid hs1
 clear hs1
 have c0 : w1.cell? ⟨b, 0, none⟩ = some (.pointer (some ⟨b, 0, none⟩)) := by rw [Lib.cell_of_heap hbk]; rfl
 have c1 : w1.cell? ⟨b, 1, none⟩ = some v := by rw [Lib.cell_of_heap hbk]; rfl
 go_wp2_with (at_builtin; refine Lib.wpList_append_own_stringF _ rfl _ _ 27 9 rfl R 5 i0 Tryz.underlying27 Tryz.underlying9 hi hz0 hz1 hz2 _ _ _ rfl hown ⟨s.toArray⟩ rfl ?c3 ?c4 ?c5 ?_)
 case c3 => have := HBL.out; rw [Go.ByteArray.size_mk_toArray]; unfold maxLen; omega
 case c4 => have := HBL.out; rw [Go.ByteArray.size_mk_toArray]; omega
 case c5 => have := HS1.out; omega
 intro v' w2 hown' hgrow _
 have hs1 := HS1.out
 have hlt : b < w1.heap.size := by omega
 have hb2 : w2.heap[b]? = some (.cells #[.pointer (some ⟨b, 0, none⟩), v] 94 (0, 0)) := by
  rw [hgrow.block b hlt (fun e => hne e.symm)]
  exact hbk
 have d0 : w2.cell? ⟨b, 0, none⟩ = some (.pointer (some ⟨b, 0, none⟩)) := by rw [Lib.cell_of_heap hb2]; rfl
 have d1 : w2.cell? ⟨b, 1, none⟩ = some v := by rw [Lib.cell_of_heap hb2]; rfl
 have f1 : w2.frozen? ⟨b, 1, none⟩ = false := Lib.frozen_of_heap hb2 1
 obtain ⟨ao, n', cap, rfl⟩ : ∃ ao n' cap, v' = .slice ao n' cap := by
  rcases hown'.2 with ⟨hv, _⟩ | ⟨g, cap, cur, fz, hv, _⟩
  ·exact ⟨_, _, _, hv⟩
  ·exact ⟨_, _, _, hv⟩
 clear hs1
 go_wp2
 go_ret2
 have hs1 := HS1.out
 have hne' := Lib.ownBlock_neF hown' hb2 (by decide)
 have hge : ∀ k, v.ownBlock = some k -> R <= k := fun k hk => (hown.lt k hk).1
 refine ⟨rfl, ⟨_, _, .inr rfl, (by simp [World.setCell, Array.getElem?_modify, hb2]), ?_, hne'⟩, ?_, ?_⟩
 ·have h5 := hown'.kept (row := some b) (w' := w2.setCell ⟨b, 1, none⟩ (.slice ao n' cap)) ⟨rfl, rfl, rfl, by simp [World.setCell], fun k _ hk => Below.heap_setCell _ _ _ _ (fun e => hk (by simp [e]))⟩ (Or.inr hne')
  rw [strCells_bytes, byteCells_append] at h5
  rw [show (Lib.byteCells (l ++ s)).length = (Lib.byteCells l).length + s.length by simp [Lib.byteCells]]
  exact h5
 ·refine ((hb1.mono hB).grown hgrow (by omega) (fun k hk => ?_)).setCell (p := ⟨b, 1, none⟩) hB _
  have := hge k hk; omega
 ·intro k hk hkb
  rw [Below.heap_setCell _ _ _ _ hkb, hgrow.block k (by omega) (fun e => by have := hge k e.symm; omega)]
  exact hk1 k hk hkb
namespace Tw
def quoC (c : UInt8) : List UInt8 := if c = 34 \/ c = 92 then [92, c] else if 32 <= c.toNat /\ c.toNat <= 126 then [c] else Lb.esc c
def quoB (l : List UInt8) : List UInt8 := (l.map quoC).flatten
def quo (l : List UInt8) : List UInt8 := [34] ++ quoB l ++ [34]
theorem quoC_len (c : UInt8) : (quoC c).length <= 4 := by
 unfold quoC
 split
 ·simp
 ·split
  ·simp
  ·simp [Lb.esc]
theorem quoB_len : ∀ l : List UInt8, (quoB l).length <= 4 * l.length
 | [] => by simp [quoB]
 | c :: l => by have := quoB_len l; have := quoC_len c; simp [quoB] at *; omega
theorem quoB_take (l : List UInt8) (k : Nat) (h : k < l.length) : quoB (l.take (k + 1)) = quoB (l.take k) ++ quoC l[k] := by
 show (List.map quoC (l.take (k + 1))).flatten = (List.map quoC (l.take k)).flatten ++ quoC l[k]
 rw [List.take_succ_eq_append_getElem h, List.map_append, List.flatten_append]
 simp only [List.map_cons, List.map_nil, List.flatten_cons, List.flatten_nil, List.append_nil]
end Tw
structure QuoM (w : World) (l : List UInt8) (k : Nat) (W : World) : Prop where
 bd : BldR (w.heap.size + 2) w.heap.size (Tw.quoB (l.take k)) W
 row : ByteRow (w.heap.size + 1) l W
 below : Below w.heap.size w W
 size : w.heap.size + 2 <= W.heap.size
theorem QuoM.step {w l k} {A W : World} (h : QuoM w l k A) (hk : k < l.length) (h1 : BldR (w.heap.size + 2) w.heap.size (Tw.quoB (l.take k) ++ Tw.quoC l[k]) W) (h2 : KeptR (w.heap.size + 2) w.heap.size A W) (h3 : Below w.heap.size A W) : QuoM w l (k + 1) W :=
 ⟨by rw [Tw.quoB_take l k hk]; exact h1, h.row.kept (h2 _ (by omega) (by omega)), h.below.trans h3, by have := h.size; have := h3.size; omega⟩
set_option maxHeartbeats 2000000 in
theorem quote_any (l : List UInt8) (w : World) (hl : l.length <= 1000000) :
  Calls Tryz.prog 103 #[S l] w (Gives (S (Tw.quo l)) w) := by
 obtain ⟨cap, W1, hcv, hrow, hb1, hs1⟩ := bytes_of l (w.alloc (.cells #[.pointer none, .slice none 0 0] 94))
 have hM0 : QuoM w l 0 W1 := ⟨(BldR.new _ w).below hb1, by rw [World.size_alloc] at hrow; exact hrow, ((Below.refl _ _).alloc (Nat.le_refl _) _).trans (hb1.mono (by simp)), by rw [hs1, World.size_alloc]; omega⟩
 have HM0 := Lib.hid hM0
 rw [World.size_alloc] at hcv
 clear hM0 hrow hb1 hs1
 refine (callsIn_wide (n := 0)).1 ?_
 refine callsIn_of_wp Tryz.func103 rfl trivial ?_ rfl
 simp only [Tryz.ntmps103, List.size_toArray, List.length_cons, List.length_nil, Nat.reduceAdd, Nat.reduceSub, Array.replicate_succ, Array.replicate_zero, List.push_toArray, List.append_toArray, List.nil_append, List.cons_append]
 gi_wp2_with fail
 gi_loopw [9] (fun vi W => ∃ k : Nat, k <= l.length /\ vi = .int .i64 k /\ Hid (QuoM w l k W)) (fun vi _ => l.length - (intOf vi).toNat)
 case atStart => exact ⟨0, Nat.zero_le _, rfl, HM0⟩
 case round =>
  obtain ⟨k, hk, rfl, hM⟩ := hrel
  by_cases hlt : k < l.length
  ·have hlz : (k : Int) < (l.length : Int) := by omega
   have hcell : wr.cell? ⟨w.heap.size + 1, k, none⟩ = some (.int .u8 (l[k].toNat : Int)) := hM.out.row.cell k hlt
   have hlen := Tw.quoB_len (l.take k)
   have htk : (l.take k).length <= 1000000 := by simp; omega
   have HL := Lib.hid (And.intro hlen htk)
   have hc255 : ((l[k].toNat : Nat) : Int) <= 255 := by have := l[k].toNat_lt; omega
   clear hlen htk
   have HM := Lib.hid hM.out
   by_cases hq : l[k] = 34 \/ l[k] = 92
   ·have HC := Lib.hid (show Tw.quoC l[k] = [92] ++ [l[k]] by simp [Tw.quoC, hq])
    have hq2 : ((l[k].toNat : Nat) : Int) = 34 \/ ((l[k].toNat : Nat) : Int) = 92 := by rcases hq with h | h <;> rw [h] <;> simp
    clear hq hc255 hM
    rcases hq2 with hq | hq
    all_goals
     have HQ := Lib.hid hq.symm
     gi_wp2_with fail
     refine (callsIn_wide.2 (wbyteR w.heap.size (w.heap.size + 2) w.heap.size _ 92 92 _ rfl HM.out.bd (Nat.le_refl _) (by omega) (by have := HL.out; omega) HM.out.size)).mono ?_
     rintro e w1 ⟨rfl, h21, hb1, ho1⟩
     have H21 := Lib.hid (And.intro h21 (And.intro hb1 ho1))
     clear h21 hb1 ho1
     have hc1 : w1.cell? ⟨w.heap.size + 1, k, none⟩ = some (.int .u8 (l[k].toNat : Int)) := (HM.out.row.kept (H21.out.2.2 _ (by omega) (by omega))).cell k hlt
     gi_wp2_with fail
     refine (callsIn_wide.2 (wbyteR w.heap.size (w.heap.size + 2) w.heap.size _ l[k] _ _ HQ.out H21.out.1 (Nat.le_refl _) (by omega) (by have := HL.out; simp; omega) (by have := HM.out.size; have := H21.out.2.1.size; omega))).mono ?_
     rintro e w2 ⟨rfl, h22, hb2, ho2⟩
     have H22 := Lib.hid (And.intro h22 (And.intro hb2 ho2))
     clear h22 hb2 ho2
     gi_wp2_with fail
     refine ⟨⟨k + 1, by omega, by go_num, HM.out.step hlt ?_ (H21.out.2.2.trans H22.out.2.2) (H21.out.2.1.trans H22.out.2.1)⟩, by simp [intOf]; omega⟩
     rw [HC.out, <- List.append_assoc]; exact H22.out.1
   ·have hq1 : ¬ ((l[k].toNat : Nat) : Int) = 34 := fun h => hq (.inl (UInt8.toNat_inj.1 (by simpa using (show l[k].toNat = 34 by omega))))
    have hq2 : ¬ ((l[k].toNat : Nat) : Int) = 92 := fun h => hq (.inr (UInt8.toNat_inj.1 (by simpa using (show l[k].toNat = 92 by omega))))
    by_cases hp : 32 <= l[k].toNat /\ l[k].toNat <= 126
    ·have HC := Lib.hid (show Tw.quoC l[k] = [l[k]] by simp [Tw.quoC, hq, hp])
     have f1 : decide (((l[k].toNat : Nat) : Int) < 32) = false := by simp; omega
     have f2 : decide (126 < ((l[k].toNat : Nat) : Int)) = false := by simp; omega
     have f3 : (((l[k].toNat : Nat) : Int) == 34) = false := by simpa using hq1
     have f4 : (((l[k].toNat : Nat) : Int) == 92) = false := by simpa using hq2
     clear hq hp hc255 hM hq1 hq2
     gi_wp2_with fail
     refine (callsIn_wide.2 (wbyteR w.heap.size (w.heap.size + 2) w.heap.size _ l[k] _ _ rfl HM.out.bd (Nat.le_refl _) (by omega) (by have := HL.out; omega) HM.out.size)).mono ?_
     rintro e w2 ⟨rfl, h22, hb2, ho2⟩
     have H22 := Lib.hid (And.intro h22 (And.intro hb2 ho2))
     clear h22 hb2 ho2
     gi_wp2_with fail
     refine ⟨⟨k + 1, by omega, by go_num, HM.out.step hlt ?_ H22.out.2.2 H22.out.2.1⟩, by simp [intOf]; omega⟩
     rw [HC.out]; exact H22.out.1
    ·have HC := Lib.hid (show Tw.quoC l[k] = Lb.esc l[k] by simp [Tw.quoC, hq, hp])
     have hp2 : decide (((l[k].toNat : Nat) : Int) < 32) = true \/ (decide (((l[k].toNat : Nat) : Int) < 32) = false /\ decide (126 < ((l[k].toNat : Nat) : Int)) = true) := by simp; omega
     have hel : (Lb.esc l[k]).length <= 4 := by simp [Lb.esc]
     have HEL := Lib.hid hel
     clear hq hp hM hel hq1 hq2
     rcases hp2 with hp | ⟨hp, hp3⟩
     all_goals
      gi_wp2_with fail
      refine (callsIn_wide.2 (escape_any l[k] _)).mono ?_
      rintro e w1 ⟨rfl, hb1⟩
      have HB1 := Lib.hid hb1
      clear hb1
      gi_wp2_with fail
      refine (callsIn_wide.2 (wstringR w.heap.size (w.heap.size + 2) w.heap.size _ _ _ (HM.out.bd.below HB1.out) (Nat.le_refl _) (by omega) (by have := HL.out; omega) (by have := HEL.out; omega) (by have := HM.out.size; have := HB1.out.size; omega))).mono ?_
      rintro e w2 ⟨rfl, h22, hb2, ho2⟩
      have H22 := Lib.hid (And.intro h22 (And.intro hb2 ho2))
      clear h22 hb2 ho2
      gi_wp2_with fail
      refine ⟨⟨k + 1, by omega, by go_num, HM.out.step hlt ?_ ((KeptR.below HB1.out HM.out.size).trans H22.out.2.2) ((HB1.out.mono (by have := HM.out.size; omega)).trans H22.out.2.1)⟩, by simp [intOf]; omega⟩
      rw [HC.out]; exact H22.out.1
  ·have hlz : ¬ (k : Int) < (l.length : Int) := by omega
   obtain rfl : l.length = k := by omega
   have hbd := hM.out.bd.bld (B := w.heap.size) (Nat.le_refl _) (by omega)
   rw [List.take_length] at hbd
   have HBD := Lib.hid hbd
   clear hbd
   gi_wp2_with fail
   refine (callsIn_wide.2 (Tryz.Builder_String_any_k w.heap.size w.heap.size (Tw.quoB l) _ HBD.out (by have := hM.out.size; omega))).mono ?_
   rintro e w1 ⟨rfl, h21, hb1, ho1⟩
   have HB1 := Lib.hid hb1
   clear h21 hb1 ho1
   have hql : (Tw.quoB l).length <= 4000000 := by have := Tw.quoB_len l; omega
   gi_wp2_with fail
   go_ret
   refine ⟨?_, hM.out.below.trans HB1.out⟩
   simp only [Tw.quo]
   have e : (Value.string (({ data := #[34] } : ByteArray) ++ { data := (Tw.quoB l).toArray } ++ { data := #[34] })) = S ([34] ++ Tw.quoB l ++ [34]) := by
    rw [show (#[34] : Array UInt8) = ([34] : List UInt8).toArray from rfl, append_S, append_S]
   exact congrArg _ e
end Go.Proofs.YtgmbefolgppmdaaGreatDoor
end
section
namespace Go.Proofs.YtgmbefolgppmdaaGreatDoor
open Go.RowKit Go.Shelf
set_option maxRecDepth 100000
attribute [local go_sem] Oper.semAt_some
namespace Hx
def hexC (c : UInt8) : List UInt8 := [dg (c.toNat / 16), dg (c.toNat % 16)]
def hexB (l : List UInt8) : List UInt8 := (l.map hexC).flatten
theorem hexB_take (l : List UInt8) (k : Nat) (h : k < l.length) : hexB (l.take (k + 1)) = hexB (l.take k) ++ hexC l[k] := by
 show (List.map hexC (l.take (k + 1))).flatten = (List.map hexC (l.take k)).flatten ++ hexC l[k]
 rw [List.take_succ_eq_append_getElem h, List.map_append, List.flatten_append]
 simp only [List.map_cons, List.map_nil, List.flatten_cons, List.flatten_nil, List.append_nil]
theorem hexB_len : ∀ l : List UInt8, (hexB l).length = 2 * l.length
 | [] => rfl
 | c :: l => by have := hexB_len l; simp [hexB, hexC] at *; omega
theorem digs16_at {r : Nat} (h : r < 16) (h' : r < ([48, 49, 50, 51, 52, 53, 54, 55, 56, 57, 97, 98, 99, 100, 101, 102] : List UInt8).length) : ([48, 49, 50, 51, 52, 53, 54, 55, 56, 57, 97, 98, 99, 100, 101, 102] : List UInt8)[r] = dg r := by
 have h1 : ∀ r : Fin 16, ([48, 49, 50, 51, 52, 53, 54, 55, 56, 57, 97, 98, 99, 100, 101, 102] : List UInt8)[r.1]? = some (dg r.1) := by decide
 have := h1 ⟨r, h⟩
 rw [List.getElem?_eq_getElem h'] at this
 exact Option.some.inj this
theorem digs16_sl {r : Nat} (h : r < 16) : (([48, 49, 50, 51, 52, 53, 54, 55, 56, 57, 97, 98, 99, 100, 101, 102] : List UInt8).drop r).take 1 = [dg r] := by
 have h1 : ∀ r : Fin 16, (([48, 49, 50, 51, 52, 53, 54, 55, 56, 57, 97, 98, 99, 100, 101, 102] : List UInt8).drop r.1).take 1 = [dg r.1] := by decide
 exact h1 ⟨r, h⟩
def hexP (m : Nat) (s : List UInt8) (w : Nat) : List UInt8 := if 0 < m \/ s.length < w then hexP (m / 16) (dg (m % 16) :: s) w else s
termination_by m + (w - s.length)
decreasing_by simp only [List.length_cons]; omega
theorem hexP_on {m s w} (h : 0 < m \/ s.length < w) : hexP m s w = hexP (m / 16) (dg (m % 16) :: s) w := by rw [hexP, if_pos h]
theorem hexP_off {m s w} (h : ¬ (0 < m \/ s.length < w)) : hexP m s w = s := by rw [hexP, if_neg h]
theorem hexP_go : ∀ (k m : Nat) (s : List UInt8), m <= k -> 1 <= s.length -> hexP m s 1 = if m = 0 then s else hexd m ++ s := by
 intro k
 induction k with
 | zero => intro m s hm hs; obtain rfl : m = 0 := by omega
           rw [hexP_off (by omega), if_pos rfl]
 | succ k ih =>
  intro m s hm hs
  by_cases h0 : m = 0
  ·subst h0; rw [hexP_off (by omega), if_pos rfl]
  ·rw [hexP_on (by omega), ih _ _ (by omega) (by simp), if_neg h0]
   by_cases h16 : m < 16
   ·rw [if_pos (by omega), hexd_small h16, show m % 16 = m by omega]; rfl
   ·rw [if_neg (by omega), hexd_big h16]; simp
theorem hexP_one (n : Nat) : hexP n [] 1 = hexd n := by
 rw [hexP_on (.inr (by simp)), hexP_go _ _ _ (Nat.le_refl _) (by simp)]
 by_cases h16 : n < 16
 ·rw [if_pos (by omega), hexd_small h16, show n % 16 = n by omega]
 ·rw [if_neg (by omega), hexd_big h16]
theorem hexP_two (c : UInt8) : hexP c.toNat [] 2 = hexC c := by
 have := c.toNat_lt
 rw [hexP_on (.inr (by simp)), hexP_on (.inr (by simp)), hexP_off (by simp; omega)]
 unfold hexC
 rw [show c.toNat / 16 % 16 = c.toNat / 16 by omega]
end Hx
theorem and15 (c : Nat) (hc : c < 256) : bits BinOp.and IntKind.u8 (c : Int) 15 = ((c % 16 : Nat) : Int) := by
 have h1 : (BitVec.ofInt 8 (c : Int)).toNat = c := by
  rw [BitVec.ofInt_natCast, BitVec.toNat_ofNat]; exact Nat.mod_eq_of_lt (by omega)
 have h2 : (BitVec.ofInt 8 (15 : Int)).toNat = 15 := by decide
 have h3 : c &&& 15 = c % 16 := Nat.and_two_pow_sub_one_eq_mod c 4
 show IntKind.u8.wrap ((BitVec.ofInt 8 (c : Int) &&& BitVec.ofInt 8 (15 : Int)).toNat : Int) = _
 rw [BitVec.toNat_and, h1, h2, h3, IntKind.wrap_u8]
 omega
theorem bytes_flat (ts : List UInt8) : (ts.map fun c : UInt8 => [Value.int .u8 (c.toNat : Int)]).flatten = ts.map fun c : UInt8 => Value.int .u8 (c.toNat : Int) := by
 induction ts with
 | nil => rfl
 | cons x r ih => rw [List.map_cons, List.flatten_cons, ih]; rfl
def slenOf : Value -> Nat | .string b => b.size | _ => 0
set_option maxHeartbeats 2000000 in
theorem refHex_any (n width : Nat) (hn : n < 65536) (hw : width <= 2) (w : World) : Calls Tryz.prog 75 #[.int .i64 (n : Int), .int .i64 (width : Int)] w (Gives (S (Hx.hexP n [] width)) w) := by
 have HN := Lib.hid hn
 have HW := Lib.hid hw
 have hwz : (width : Int) <= 2 := by omega
 clear hn hw
 refine (callsIn_wide (n := 0)).1 ?_
 refine callsIn_of_wp Tryz.func75 rfl trivial ?_ rfl
 simp only [Tryz.ntmps75, List.size_toArray, List.length_cons, List.length_nil, Nat.reduceAdd, Nat.reduceSub, Array.replicate_succ, Array.replicate_zero, List.push_toArray, List.append_toArray, List.nil_append, List.cons_append]
 gi_wp2_with fail
 gi_loopw [0, 5] (fun v0 v5 W => ∃ (m : Nat) (s : List UInt8), v0 = .int .i64 m /\ v5 = S s /\ Hid (s.length <= 4 /\ m < 16 ^ (4 - s.length)) /\ Hid (Hx.hexP n [] width = Hx.hexP m s width) /\ w = W) (fun v0 v5 _ => (intOf v0).toNat + (width - slenOf v5))
 case atStart => exact ⟨n, [], rfl, rfl, ⟨by simp, by have := HN.out; simp; omega⟩, rfl, rfl⟩
 case round =>
  obtain ⟨m, s, rfl, rfl, hM, hP, rfl⟩ := hrel
  have hm9 : m < 65536 := Nat.lt_of_lt_of_le hM.out.2 (Nat.pow_le_pow_right (n := 16) (j := 4) (by decide) (by omega))
  have hmz : (m : Int) <= 65536 := by omega
  have hsz : (s.length : Int) <= 4 := by have := hM.out.1; omega
  by_cases hc : 0 < m \/ s.length < width
  ·have HP := Lib.hid (show Hx.hexP n [] width = Hx.hexP (m / 16) (Hx.dg (m % 16) :: s) width by rw [hP.out, Hx.hexP_on hc])
   have HC := Lib.hid hc
   obtain ⟨r, hr⟩ : ∃ r, m % 16 = r := ⟨_, rfl⟩
   obtain ⟨q, hq⟩ : ∃ q, m / 16 = q := ⟨_, rfl⟩
   have hr16 : r < 16 := by omega
   have hqz : (m : Int) / 16 = (q : Int) := by omega
   have hrz : (m : Int) % 16 = (r : Int) := by omega
   have hrz2 : (r : Int) < 16 := by omega
   have HRQ := Lib.hid (And.intro hr hq)
   have HDG := Lib.hid (Hx.digs16_sl hr16)
   have hc2 : (0 : Int) < (m : Int) \/ (¬ (0 : Int) < (m : Int) /\ (s.length : Int) < (width : Int)) := by omega
   have HLE : Hid (slenOf (S (Hx.dg r :: s)) = s.length + 1 /\ slenOf (S s) = s.length) := ⟨by show ByteArray.size _ = _; rw [Go.ByteArray.size_mk_toArray]; rfl, by show ByteArray.size _ = _; rw [Go.ByteArray.size_mk_toArray]⟩
   clear hc hr hq hm9
   have HE : Hid (∃ (m' : Nat) (s' : List UInt8), Value.int .i64 (q : Int) = .int .i64 m' /\ S (Hx.dg r :: s) = S s' /\ Hid (s'.length <= 4 /\ m' < 16 ^ (4 - s'.length)) /\ Hid (Hx.hexP n [] width = Hx.hexP m' s' width) /\ w = w) := by
    refine ⟨q, Hx.dg r :: s, rfl, rfl, ?_, by show _ = _; rw [HP.out, HRQ.out.1, HRQ.out.2], rfl⟩
    obtain ⟨e1, e2⟩ := hM.out
    obtain ⟨e3, e4⟩ := HRQ.out
    have e5 := HW.out
    have hs3 : s.length <= 3 := by
     rcases Nat.lt_or_ge s.length 4 with h | h
     ·omega
     ·have h4 : s.length = 4 := by omega
      rw [h4] at e2; simp at e2
      rcases HC.out with h | h <;> omega
    refine ⟨by simp; omega, ?_⟩
    have h4 : 4 - s.length = (4 - (Hx.dg r :: s).length) + 1 := by simp; omega
    rw [h4, Nat.pow_succ] at e2
    omega
   have HMS : Hid ((intOf (Value.int .i64 (q : Int))).toNat + (width - slenOf (S (Hx.dg r :: s))) < (intOf (Value.int .i64 (m : Int))).toNat + (width - slenOf (S s))) := by
    show _ < _
    rw [HLE.out.1, HLE.out.2]
    have := HC.out; have := HRQ.out.2; simp [intOf]; omega
   rcases hc2 with hc | ⟨hc, hc3⟩
   all_goals
    gi_wp2_with fail
    first
    | (rw [HDG.out, append_S]
       obtain ⟨m', s', e1, e2, e3, e4, _⟩ := HE.out
       exact ⟨⟨m', s', e1, e2, e3, e4, trivial⟩, HMS.out⟩)
    | (obtain rfl : 0 = m := by omega
       obtain ⟨e5, e6⟩ := HRQ.out
       obtain rfl : 0 = r := by omega
       obtain rfl : 0 = q := by omega
       obtain ⟨m', s', e1, e2, e3, e4, _⟩ := HE.out
       rw [show (#[48] : Array UInt8) = ([48] : List UInt8).toArray from rfl, append_S]
       exact ⟨⟨m', s', e1, e2, e3, e4, trivial⟩, HMS.out⟩)
  ·have HP := Lib.hid (show Hx.hexP n [] width = s by rw [hP.out, Hx.hexP_off hc])
   have h1 : ¬ (0 : Int) < (m : Int) := by omega
   have h2 : ¬ (s.length : Int) < (width : Int) := by omega
   clear hc hm9
   gi_wp2_with fail
   go_ret
   rw [HP.out]
   exact ⟨rfl, Below.refl _ _⟩
theorem GRd.two (u v : Value) (h1 : u.oneCell' = true) (h2 : v.oneCell' = true) (W : World) (t : TypeId) : GRd 1 (.slice (some ⟨W.heap.size, 0, none⟩) 2 2) [[u], [v]] (W.alloc (.cells #[u, v] t)) := by
 refine ⟨some ⟨W.heap.size, 0, none⟩, 2, rfl, by simp, by unfold maxLen; omega, (fun h => by cases h), fun y hy => ?_, fun i hi c hc => ⟨_, rfl, ?_⟩⟩
 ·simp only [List.mem_cons, List.not_mem_nil, or_false] at hy
  rcases hy with rfl | rfl
  ·exact ⟨rfl, by simpa using h1⟩
  ·exact ⟨rfl, by simpa using h2⟩
 ·have hadd : ∀ j, (⟨W.heap.size, 0, none⟩ : Addr).add j = ⟨W.heap.size, j, none⟩ := fun j => by unfold Addr.add; split <;> simp_all
  rw [hadd, cell_of_row _ W.heap.size _ _ t (0, 0) (World.alloc_heap_new W _)]
  obtain rfl : 0 = c := by omega
  match i, hi with
  | 0, _ => rfl
  | 1, _ => rfl
set_option maxHeartbeats 2000000 in
theorem hex_any (v : Value) (l : List UInt8) (w : World) (hl0 : 0 < l.length) (hl : l.length <= 10000) (hr : BtRd v l w) : Calls Tryz.prog 106 #[v] w (Gives (S (Hx.hexB l)) w) := by
 have hlz : (l.length : Int) <= 10000 := by omega
 obtain ⟨o, cap, rfl, hcap, h4⟩ : ∃ o cap, v = .slice o l.length cap /\ (l.length <= cap /\ cap <= 9223372036854775807) /\ ∀ j (h : j < l.length), ∃ a, o = some a /\ w.cell? (a.add j) = some (.int .u8 (l[j].toNat : Int)) := by
  obtain ⟨o, cap, h0, h1, h2, h3, h4⟩ := hr
  rw [List.length_map] at h0 h1
  refine ⟨o, cap, h0, ⟨h1, by unfold maxLen at h2; exact h2⟩, fun j hj => ?_⟩
  obtain ⟨a, ha, hc⟩ := h4 j (by rw [List.length_map]; exact hj)
  exact ⟨a, ha, by rw [hc, List.getElem_map]⟩
 have H4 := Lib.hid h4
 have HL := Lib.hid hl
 have HL0 := Lib.hid hl0
 clear h4 hl hr hl0
 refine (callsIn_wide (n := 0)).1 ?_
 refine callsIn_of_wp Tryz.func106 rfl trivial ?_ rfl
 simp only [Tryz.ntmps106, List.size_toArray, List.length_cons, List.length_nil, Nat.reduceAdd, Nat.reduceSub, Array.replicate_succ, Array.replicate_zero, List.push_toArray, List.append_toArray, List.nil_append, List.cons_append]
 gi_wp2_with fail
 gi_loopw [3, 8] (fun v3 vi W => ∃ (k : Nat), k <= l.length /\ vi = .int .i64 k /\ Hid (Row (fun g => w.heap.size <= g) 5 1 v3 (Hx.hexB (l.take k)).length ((Hx.hexB (l.take k)).map fun c : UInt8 => Value.int .u8 (c.toNat : Int)) W) /\ Hid (Below w.heap.size w W)) (fun _ vi _ => l.length - (intOf vi).toNat)
 case atStart => exact ⟨0, Nat.zero_le _, rfl, Row.nil _ _ _ _, Below.refl _ _⟩
 case round =>
  obtain ⟨k, hk, rfl, hR, hB⟩ := hrel
  obtain ⟨o3, c3, e3⟩ := hR.out.form
  subst e3
  by_cases hlt : k < l.length
  ·have hlk : (k : Int) < (l.length : Int) := by omega
   obtain ⟨a, rfl, hc0⟩ := H4.out k hlt
   have hcell : wr.cell? (a.add k) = some (.int .u8 (l[k].toNat : Int)) := (hB.out.cell (cell_lt hc0)).trans hc0
   have hc255 : ((l[k].toNat : Nat) : Int) <= 255 := by have := l[k].toNat_lt; omega
   have hcl := l[k].toNat_lt
   have hand := and15 l[k].toNat hcl
   obtain ⟨r, hr⟩ : ∃ r, l[k].toNat % 16 = r := ⟨_, rfl⟩
   obtain ⟨q, hq⟩ : ∃ q, l[k].toNat / 16 = q := ⟨_, rfl⟩
   have hr16 : r < 16 := by omega
   have hq16 : q < 16 := by omega
   have hrz : (r : Int) < 16 := by omega
   have hqz2 : (q : Int) < 16 := by omega
   rw [hr] at hand
   have hqz : ((l[k].toNat : Nat) : Int) / 16 = (q : Int) := by omega
   have HC : Hid (Hx.hexC l[k] = [Hx.dg q, Hx.dg r]) := by show _ = _; unfold Hx.hexC; rw [hr, hq]
   obtain ⟨bs, hbs⟩ : ∃ bs, Hx.hexB (l.take k) = bs := ⟨_, rfl⟩
   have hbl : bs.length = 2 * k := by rw [<- hbs, Hx.hexB_len, List.length_take]; omega
   have HBL := Lib.hid hbl
   have HT : Hid (Hx.hexB (l.take (k + 1)) = bs ++ Hx.hexC l[k]) := by show _ = _; rw [Hx.hexB_take l k hlt, hbs]
   rw [hbs] at hR ⊢
   have HDR := Lib.hid (Hx.digs16_at hr16 (by simp only [List.length_cons, List.length_nil]; omega))
   have HDQ := Lib.hid (Hx.digs16_at hq16 (by simp only [List.length_cons, List.length_nil]; omega))
   have HCL := Lib.hid hcl
   clear hcl hr hq hbs hbl hc0
   gi_wp2_with fail
   refine drawnH [] (fun _ => True) 10 rfl (by kernel_rfl) ?_
   intro w' hw'
   have hbd : Below wr.heap.size wr w' := by subst hw'; exact (Below.refl _ _).drew
   have HBD := Lib.hid hbd
   clear hw' hbd
   refine tP 0 ?qv0 (fun w1 _ => ?qy0) ?_
   case qy0 => go_simp; try rfl
   refine tP 1 ?qv1 (fun w1 _ => ?qy1) ?_
   case qy1 => go_simp; try rfl
   refine tP 2 ?qv2 (fun w1 _ => ?qy2) ?_
   case qy2 => go_simp; try rfl
   refine tP 3 ?qv3 (fun w1 _ => ?qy3) ?_
   case qy3 => go_simp; try rfl
   refine tP 4 ?qv4 (fun w1 _ => ?qy4) ?_
   case qy4 => go_simp; try rfl
   refine tP 5 ?qv5 (fun w1 _ => ?qy5) ?_
   case qy5 => go_simp; try rfl
   refine tP 6 ?qv6 (fun w1 _ => ?qy6) ?_
   case qy6 => go_simp; try rfl
   simp only [Act.put, List.setIfInBounds_toArray, List.set_cons_succ, List.set_cons_zero]
   rw [HDR.out, HDQ.out]
   refine oneH 7 (by rfl) (by kernel_rfl) (fun K hK => ?_)
   gi_wp2_with fail
   refine hK _ _ (fun h => by simp at h) ?_
   clear hK K
   refine oneH 8 (by rfl) (by kernel_rfl) (fun K hK => ?_)
   have HB7 : Hid (Below wr.heap.size wr (w'.alloc (.cells #[.int .u8 ((Hx.dg q).toNat : Int), .int .u8 ((Hx.dg r).toNat : Int)] 5))) := HBD.out.alloc HBD.out.size _
   have HR7 : Hid (Row (fun g => w.heap.size <= g) 5 1 (.slice o3 bs.length c3) bs.length (bs.map fun c : UInt8 => [Value.int .u8 (c.toNat : Int)]).flatten (w'.alloc (.cells #[.int .u8 ((Hx.dg q).toNat : Int), .int .u8 ((Hx.dg r).toNat : Int)] 5))) := by show Row _ _ _ _ _ _ _; rw [bytes_flat]; exact hR.out.below HB7.out
   refine append_g (fun g => w.heap.size <= g) 5 _ 1 1 Tryz.info_u8 rfl (by decide) rfl _ _ _ Tryz.underlying27 rfl _ bs.length (bs.map fun c : UInt8 => [Value.int .u8 (c.toNat : Int)]) (by rfl) HR7.out _ [[.int .u8 ((Hx.dg q).toNat : Int)], [.int .u8 ((Hx.dg r).toNat : Int)]] (by rfl) (GRd.two _ _ rfl rfl w' 5) (by have := HBL.out; have := HL.out; simp; omega) (by omega) (by have := hB.out.size; have := HB7.out.size; omega) ?_
   intro v10 w10 hrow10 hgr10
   obtain ⟨o10, c10, e10⟩ := hrow10.form
   subst e10
   have hb10 : Below w.heap.size w w10 := (below5 hB.out HB7.out).grown hgr10 (by have := hB.out.size; have := HB7.out.size; omega) (fun g hg => hR.out.2 g hg)
   have HR10 := Lib.hid hrow10
   have HB10 := Lib.hid hb10
   refine hK _ _ (fun h => by simp at h) ?_
   clear hK K hrow10 hgr10 hb10
   refine oneH 9 (by rfl) (by kernel_rfl) (fun K hK => ?_)
   gi_wp2_with fail
   refine hK _ _ (fun h => by simp at h) ?_
   clear hK K
   refine doneH (by kernel_rfl) ?_
   gi_wp2_with fail
   refine ⟨⟨k + 1, by omega, by go_num, ?_, HB10.out⟩, by simp [intOf]; omega⟩
   show Row _ _ _ _ _ _ _
   have hr10 := HR10.out
   rw [show ((bs.map fun c : UInt8 => [Value.int .u8 (c.toNat : Int)]) ++ [[Value.int .u8 ((Hx.dg q).toNat : Int)], [Value.int .u8 ((Hx.dg r).toNat : Int)]]) = ((bs ++ [Hx.dg q, Hx.dg r]).map fun c : UInt8 => [Value.int .u8 (c.toNat : Int)]) by simp, bytes_flat] at hr10
   rw [HT.out, HC.out, show (bs ++ [Hx.dg q, Hx.dg r]).length = bs.length + 2 by simp]
   exact hr10
  ·obtain rfl : l.length = k := by omega
   have hlz2 : ¬ (l.length : Int) < (l.length : Int) := by omega
   rw [List.take_length] at hR ⊢
   have hbl : 0 < (Hx.hexB l).length := by rw [Hx.hexB_len]; have := HL0.out; omega
   obtain ⟨g, rfl⟩ : ∃ g, o3 = some ⟨g, 0, none⟩ := by
    obtain ⟨⟨_, ho⟩, _⟩ := hR.out
    rcases ho with ⟨e, h0⟩ | ⟨g, cap', cur, e, _⟩
    ·omega
    ·simp only [Value.slice.injEq] at e
     exact ⟨g, e.1⟩
   have hcv : (convert 27 9 (.slice (some ⟨g, 0, none⟩) (Hx.hexB l).length c3)).run Tryz.prog wr = .ok (S (Hx.hexB l)) wr := by
    refine run_convert_bytes_back _ _ _ 5 _ _ (Hx.hexB l) Tryz.underlying27 Tryz.underlying5 Tryz.underlying9 (fun j hj => ?_)
    have hadd : (⟨g, 0, none⟩ : Addr).add j = ⟨g, j, none⟩ := by unfold Addr.add; split <;> simp_all
    rw [hadd, (hR.out.cellAt j (by omega)).1]
    simp [hj]
   clear hbl
   gi_wp2_with fail
   go_ret
   exact ⟨rfl, hB.out⟩
end Go.Proofs.YtgmbefolgppmdaaGreatDoor
end
section
namespace Go.Proofs.YtgmbefolgppmdaaGreatDoor
open Go.RowKit Go.Shelf
set_option maxRecDepth 100000
set_option maxHeartbeats 2000000 in
theorem refQuoted_any (l : List UInt8) (w : World) (hl : l.length <= 1000000) :
  Calls Tryz.prog 76 #[S l] w (Gives (S (Tw.quo l)) w) := by
 go_enter Tryz.func76, Tryz.ntmps76
 go_wp2
 go_loopw [3, 4] (fun v i wr => ∃ k : Nat, k <= l.length /\ v = S ([34] ++ Tw.quoB (l.take k)) /\ i = .int .i64 k /\ Below w.heap.size w wr) (fun _ i _ => l.length - (intOf i).toNat)
 case atStart => exact ⟨0, by omega, rfl, rfl, Below.refl _ _⟩
 case round =>
  obtain ⟨k, hk, rfl, rfl, hb⟩ := hrel
  have hlen := Tw.quoB_len (l.take k)
  have htk : (l.take k).length <= 1000000 := by simp; omega
  have hql : ([34] ++ Tw.quoB (l.take k)).length <= 4000001 := by simp; omega
  clear hlen htk
  by_cases hlt : k < l.length
  ·have HT := Lib.hid (Tw.quoB_take l k hlt)
   have hc255 : ((l[k].toNat : Nat) : Int) <= 255 := by have := l[k].toNat_lt; omega
   have H1 := Lib.hid (take_one l k hlt)
   have hel : (Lb.esc l[k]).length <= 4 := by simp [Lb.esc]
   obtain ⟨p, hp⟩ : ∃ p, [34] ++ Tw.quoB (l.take k) = p := ⟨_, rfl⟩
   have HP := Lib.hid hp
   rw [hp] at hql ⊢
   clear hp
   have HE : ∀ t : List UInt8, Tw.quoC l[k] = t -> p ++ t = [34] ++ Tw.quoB (l.take (k + 1)) := fun t ht => by rw [HT.out, ht, <- HP.out, List.append_assoc]
   by_cases hq : l[k] = 34 \/ l[k] = 92
   ·have HC := Lib.hid (HE _ (show Tw.quoC l[k] = [92, l[k]] by simp [Tw.quoC, hq]))
    have hq2 : ((l[k].toNat : Nat) : Int) = 34 \/ ((l[k].toNat : Nat) : Int) = 92 := by rcases hq with h | h <;> rw [h] <;> simp
    have HB := Lib.hid hb
    clear hq hc255 HE hb
    rcases hq2 with hq | hq
    all_goals
     go_wp2_with fail
     refine ⟨⟨k + 1, by omega, ?_, by go_num, HB.out⟩, by simp [intOf]; omega⟩
     rw [H1.out, append_S, append_S, <- HC.out, List.append_assoc]; rfl
   ·have hq1 : ¬ ((l[k].toNat : Nat) : Int) = 34 := fun h => hq (.inl (UInt8.toNat_inj.1 (by simpa using (show l[k].toNat = 34 by omega))))
    have hq2 : ¬ ((l[k].toNat : Nat) : Int) = 92 := fun h => hq (.inr (UInt8.toNat_inj.1 (by simpa using (show l[k].toNat = 92 by omega))))
    have f3 : (((l[k].toNat : Nat) : Int) == 34) = false := by simpa using hq1
    have f4 : (((l[k].toNat : Nat) : Int) == 92) = false := by simpa using hq2
    by_cases hp : 32 <= l[k].toNat /\ l[k].toNat <= 126
    ·have HC := Lib.hid (HE _ (show Tw.quoC l[k] = [l[k]] by simp [Tw.quoC, hq, hp]))
     have f1 : decide ((32 : Int) <= ((l[k].toNat : Nat) : Int)) = true := by simp; omega
     have f2 : decide (((l[k].toNat : Nat) : Int) <= 126) = true := by simp; omega
     have HB := Lib.hid hb
     clear hq hp hc255 HE hb hq1 hq2
     go_wp2_with fail
     refine ⟨⟨k + 1, by omega, ?_, by go_num, HB.out⟩, by simp [intOf]; omega⟩
     rw [H1.out, append_S, <- HC.out]
    ·have HC := Lib.hid (HE _ (show Tw.quoC l[k] = Lb.esc l[k] by simp [Tw.quoC, hq, hp]))
     have hp2 : decide ((32 : Int) <= ((l[k].toNat : Nat) : Int)) = false \/ (decide ((32 : Int) <= ((l[k].toNat : Nat) : Int)) = true /\ decide (((l[k].toNat : Nat) : Int) <= 126) = false) := by simp; omega
     have HB := Lib.hid hb
     clear hq hp HE hb hq1 hq2
     rcases hp2 with hp | ⟨hp, hp3⟩
     all_goals
      go_wp2_with (go_at_call 108; refine (refEscaped_any l[k] _).mono ?_; rintro e w2 ⟨rfl, hb2⟩; have HB2 := Lib.hid hb2; clear hb2)
      refine ⟨⟨k + 1, by omega, ?_, by go_num, HB.out.trans (HB2.out.mono HB.out.size)⟩, by simp [intOf]; omega⟩
      rw [append_S, <- HC.out]
  ·obtain rfl : l.length = k := by omega
   rw [List.take_length] at hql ⊢
   obtain ⟨p, hp⟩ : ∃ p, [34] ++ Tw.quoB l = p := ⟨_, rfl⟩
   have HP := Lib.hid hp
   rw [hp] at hql ⊢
   clear hp
   go_wp2
   go_ret
   refine ⟨?_, hb⟩
   have e : (Value.string (({ data := p.toArray } : ByteArray) ++ { data := #[34] })) = S (Tw.quo l) := by
    rw [show (#[34] : Array UInt8) = ([34] : List UInt8).toArray from rfl, append_S, <- HP.out]; rfl
   exact congrArg _ e
end Go.Proofs.YtgmbefolgppmdaaGreatDoor
end
section
namespace Go.Proofs.YtgmbefolgppmdaaGreatDoor
open Go.RowKit Go.Shelf
set_option maxRecDepth 100000
def Ty.keys : List Int := [1, 2, 5, 6, 12, 15, 16, 28, 39]
theorem Ty.nameOf_mem {t : Int} {s : List UInt8} (h : Ty.nameOf t = some s) : (t, s) ∈ Ty.names := by
 unfold Ty.nameOf at h
 rcases hf : names.find? (fun p => p.1 == t) with _ | ⟨t', s'⟩
 ·rw [hf] at h; simp at h
 ·rw [hf] at h
  simp only [Option.map_some, Option.some.injEq] at h
  have h1 := List.find?_some hf
  have h2 := List.mem_of_find?_eq_some hf
  simp only [beq_iff_eq] at h1
  subst h h1
  exact h2
theorem refTypes_any (w : World) : Calls Tryz.prog 109 #[] w fun e w' => e = .returned (.slice (some ⟨w.heap.size, 0, none⟩) 9 9) /\ Blk w.heap.size (Ty.keys.map I64).toArray 3 w' /\ Below w.heap.size w w' := by
 refine (callsIn_wide (n := 0)).1 ?_
 refine callsIn_of_wp Tryz.func109 rfl trivial ?_ rfl
 simp only [Tryz.ntmps109, List.size_toArray, List.length_nil, Nat.reduceSub, Array.replicate_succ, Array.replicate_zero, List.push_toArray, List.append_toArray, List.nil_append, List.cons_append]
 gi_wp2_with fail
 go_ret
 exact ⟨rfl, Blk.new w _ _, (Below.refl _ _).alloc (Nat.le_refl _) _⟩
def Ty.words : List (List UInt8) := Ty.names.map (·.2)
theorem Ty.keys_eq : Ty.keys = Ty.names.map (·.1) := by decide
set_option maxHeartbeats 4000000 in
theorem refName_any (t : Int) (w : World) : Calls Tryz.prog 73 #[.int .i64 t] w (Gives (S ((Ty.nameOf t).getD [])) w) := by
 refine (callsIn_wide (n := 0)).1 ?_
 refine callsIn_of_wp Tryz.func73 rfl trivial ?_ rfl
 simp only [Tryz.ntmps73, List.size_toArray, List.length_cons, List.length_nil, Nat.reduceAdd, Nat.reduceSub, Array.replicate_succ, Array.replicate_zero, List.push_toArray, List.append_toArray, List.nil_append, List.cons_append]
 gi_wp2_with fail
 refine (callsIn_wide.2 (refTypes_any w)).mono ?_
 rintro e w1 ⟨rfl, hk, b1⟩
 obtain ⟨g, hg⟩ : ∃ g, w.heap.size = g := ⟨_, rfl⟩
 rw [hg] at hk ⊢
 obtain ⟨g2, hg2⟩ : ∃ g, w1.heap.size = g := ⟨_, rfl⟩
 have b2 : Below w1.heap.size w1 (w1.alloc (.cells (Ty.words.map S).toArray 9)) := (Below.refl _ _).alloc (Nat.le_refl _) _
 have HW : Hid (Blk g2 (Ty.words.map S).toArray 9 (w1.alloc (.cells (Ty.words.map S).toArray 9))) := by show Blk _ _ _ _; rw [<- hg2]; exact Blk.new _ _ _
 have HK := Lib.hid (hk.below b2)
 have HB2 := Lib.hid (below5 b1 b2)
 clear hk b1 b2
 gi_wp2_with fail
 obtain ⟨W0, hW0⟩ : ∃ x, w1.alloc (.cells #[.string ⟨#[65]⟩, .string ⟨#[78, 83]⟩, .string ⟨#[67, 78, 65, 77, 69]⟩, .string ⟨#[83, 79, 65]⟩, .string ⟨#[80, 84, 82]⟩, .string ⟨#[77, 88]⟩, .string ⟨#[84, 88, 84]⟩, .string ⟨#[65, 65, 65, 65]⟩, .string ⟨#[68, 78, 65, 77, 69]⟩] 9) = x := ⟨_, rfl⟩
 rw [hW0]
 have hW1 : w1.alloc (.cells (Ty.words.map S).toArray 9) = W0 := hW0
 rw [hW1] at HW HK HB2
 clear hW0 hW1 hg hg2
 gi_loopw [5] (fun v5 W => ∃ k : Nat, k <= 9 /\ v5 = .int .i64 k /\ Hid ((Ty.names.find? fun p => p.1 == t) = (Ty.names.drop k).find? fun p => p.1 == t) /\ Below W0.heap.size W0 W) (fun v5 _ => 9 - (intOf v5).toNat)
 case atStart => exact ⟨0, Nat.zero_le _, rfl, rfl, Below.refl _ _⟩
 case round =>
  obtain ⟨k, hk, rfl, hf, hb⟩ := hrel
  have HB := Lib.hid (below5 HB2.out hb)
  have HF := Lib.hid hf
  have HBW := Lib.hid hb
  by_cases hlt : k < 9
  case neg =>
   have hlz : ¬ ((k : Int) < 9) := by omega
   have hn : Ty.nameOf t = none := by
    unfold Ty.nameOf; rw [HF.out, List.drop_eq_nil_of_le (by show 9 <= k; omega)]; rfl
   have HN := Lib.hid hn
   clear hf hb hn
   gi_wp2_with fail
   go_ret
   rw [HN.out]
   exact ⟨rfl, HB.out⟩
  case pos =>
  have hlz : (k : Int) < 9 := by omega
  have hkn : k < Ty.names.length := hlt
  obtain ⟨x, s, hx⟩ : ∃ x s, Ty.names[k] = (x, s) := ⟨_, _, rfl⟩
  have c1 : wr.cell? ⟨g, k, none⟩ = some (.int .i64 x) := by
   rw [(HK.out.below hb).cell k, Ty.keys_eq]; simp [hx, hkn]
  have c2 : wr.cell? ⟨g2, k, none⟩ = some (S s) := by
   rw [(HW.out.below hb).cell k]; simp [Ty.words, hx, hkn]
  have HX := Lib.hid hx
  clear hf hb hx
  by_cases hxt : x = t
  ·have hn : Ty.nameOf t = some s := by
    unfold Ty.nameOf; rw [HF.out, List.drop_eq_getElem_cons hkn, HX.out, List.find?_cons]; simp [hxt]
   have HN := Lib.hid hn
   clear hn
   subst hxt
   gi_wp2_with fail
   go_ret
   rw [HN.out]
   exact ⟨rfl, HB.out⟩
  ·have hxf : (x == t) = false := by simpa using hxt
   gi_wp2_with fail
   exact ⟨⟨k + 1, hlt, by go_num, by show _ = _; rw [HF.out]; exact find_next hkn (by rw [HX.out]; exact hxf), HBW.out⟩, by simp [intOf]; omega⟩
theorem Ty.name_ne {t : Int} {s : List UInt8} (h : Ty.nameOf t = some s) : s ≠ [] := by
 have h1 : ∀ p ∈ Ty.names, p.2 ≠ [] := by decide
 exact h1 _ (Ty.nameOf_mem h)
theorem refKnown_any (t : Int) (w : World) : Calls Tryz.prog 72 #[.int .i64 t] w (Gives (.bool (Ty.nameOf t).isSome) w) := by
 rcases hn : Ty.nameOf t with _ | s
 ·have HN := Lib.hid (refName_any t w)
  rw [hn] at HN
  refine (callsIn_wide (n := 0)).1 ?_
  refine callsIn_of_wp Tryz.func72 rfl trivial ?_ rfl
  simp only [Tryz.ntmps72, List.size_toArray, List.length_cons, List.length_nil, Nat.reduceAdd, Nat.reduceSub, Array.replicate_succ, Array.replicate_zero, List.push_toArray, List.append_toArray, List.nil_append, List.cons_append]
  gi_wp2_with fail
  refine (callsIn_wide.2 HN.out).mono ?_
  rintro e w1 ⟨rfl, b1⟩
  simp only [Option.getD]
  gi_wp2_with fail
  go_ret
  exact ⟨rfl, b1⟩
 ·have HN := Lib.hid (refName_any t w)
  rw [hn] at HN
  have hs := Ty.name_ne hn
  have hsa : ¬ ((⟨s.toArray⟩ : ByteArray) = ⟨#[]⟩) := by simpa using hs
  have hsb : s.isEmpty = false := by simpa using hs
  refine (callsIn_wide (n := 0)).1 ?_
  refine callsIn_of_wp Tryz.func72 rfl trivial ?_ rfl
  simp only [Tryz.ntmps72, List.size_toArray, List.length_cons, List.length_nil, Nat.reduceAdd, Nat.reduceSub, Array.replicate_succ, Array.replicate_zero, List.push_toArray, List.append_toArray, List.nil_append, List.cons_append]
  gi_wp2_with fail
  refine (callsIn_wide.2 HN.out).mono ?_
  rintro e w1 ⟨rfl, b1⟩
  simp only [Option.getD]
  gi_wp2_with fail
  go_ret
  exact ⟨rfl, b1⟩
theorem conv1 (g : Nat) (c : UInt8) (W : World) (h : W.cell? ⟨g, 0, none⟩ = some (.int .u8 (c.toNat : Int))) : (convert 27 9 (.slice (some ⟨g, 0, none⟩) 1 1)).run Tryz.prog W = .ok (S [c]) W :=
 run_convert_bytes_back (P := Tryz.prog) W 27 9 5 ⟨g, 0, none⟩ 1 [c] Tryz.underlying27 Tryz.underlying5 Tryz.underlying9 (fun j hj => by
  have : j = 0 := by simp at hj; omega
  subst this
  exact h)
theorem dig_byte (n : Nat) : ((UInt8.ofNat (48 + n % 10)).toNat : Int) = 48 + (n : Int) % 10 := by
 rw [UInt8.toNat_ofNat']; omega
theorem dec_step (n : Nat) : Lib.decDigits n = (if n < 10 then [] else Lib.decDigits (n / 10)) ++ [UInt8.ofNat (48 + n % 10)] := by
 rw [Lib.decDigits]
 split
 ·rename_i h; rw [Nat.mod_eq_of_lt h]; rfl
 ·rfl
set_option maxHeartbeats 4000000 in
theorem refDecimal_any (n : Nat) (h : n < 9223372036854775808) (w : World) : Calls Tryz.prog 35 #[.int .i64 n] w (Gives (S (Lib.decDigits n)) w) := by
 have nm : ((n : Int) == -9223372036854775808) = false := by
  have : ¬ ((n : Int) = -9223372036854775808) := by omega
  rw [beq_eq_false_iff_ne]; exact this
 have c0 := conv1 w.heap.size (UInt8.ofNat (48 + n % 10)) (w.alloc (.cells #[.int .u8 (48 + (n : Int) % 10)] 5)) (by rw [(Blk.new w #[Value.int .u8 (48 + (n : Int) % 10)] 5).cell 0, dig_byte]; rfl)
 obtain ⟨dn, hdn⟩ : ∃ c, UInt8.ofNat (48 + n % 10) = c := ⟨_, rfl⟩
 rw [hdn] at c0
 have HDN := Lib.hid hdn
 clear hdn
 have hRl := dec_len n (by omega)
 have hb0 : Below w.heap.size w (w.alloc (.cells #[.int .u8 (48 + (n : Int) % 10)] 5)) := (Below.refl _ _).alloc (Nat.le_refl _) _
 have HB0 := Lib.hid hb0
 obtain ⟨R, hR⟩ : ∃ R, Lib.decDigits n = R := ⟨_, rfl⟩
 rw [hR] at hRl ⊢
 have HR := Lib.hid hR
 clear hb0 hR
 refine (callsIn_wide (n := 0)).1 ?_
 refine callsIn_of_wp Tryz.func35 rfl trivial ?_ rfl
 simp only [Tryz.ntmps35, List.size_toArray, List.length_cons, List.length_nil, Nat.reduceAdd, Nat.reduceSub, Array.replicate_succ, Array.replicate_zero, List.push_toArray, List.append_toArray, List.nil_append, List.cons_append]
 gi_wp2_with fail
 clear c0 nm
 gi_loopw [0, 3] (fun v0 v3 W => ∃ (m : Nat) (s : List UInt8), m < 9223372036854775808 /\ v0 = .int .i64 m /\ v3 = S s /\ Hid (R = (if m < 10 then [] else Lib.decDigits (m / 10)) ++ s) /\ Below w.heap.size w W) (fun v0 _ _ => (intOf v0).toNat)
 case atStart => exact ⟨n, [dn], h, rfl, rfl, by show _ = _; rw [<- HR.out, <- HDN.out]; exact dec_step n, HB0.out⟩
 case round =>
  obtain ⟨m, s, hm, rfl, rfl, hs, hb⟩ := hrel
  have HB := Lib.hid hb
  have HS := Lib.hid hs.out
  by_cases hlt : m < 10
  ·have hz : ¬ (10 <= (m : Int)) := by omega
   clear hb hs
   gi_wp2_with fail
   go_ret
   have e := HS.out
   rw [if_pos hlt, List.nil_append] at e
   rw [e]
   exact ⟨rfl, HB.out⟩
  ·have hz : 10 <= (m : Int) := by omega
   have c1 := conv1 wr.heap.size (UInt8.ofNat (48 + (m / 10) % 10)) (wr.alloc (.cells #[.int .u8 (48 + ((m / 10 : Nat) : Int) % 10)] 5)) (by rw [(Blk.new wr #[Value.int .u8 (48 + ((m / 10 : Nat) : Int) % 10)] 5).cell 0, dig_byte]; rfl)
   have HB1 : Hid (Below w.heap.size w (wr.alloc (.cells #[.int .u8 (48 + ((m / 10 : Nat) : Int) % 10)] 5))) := HB.out.alloc HB.out.size _
   obtain ⟨q, hq⟩ : ∃ q, m / 10 = q := ⟨_, rfl⟩
   have hqz : (m : Int).tdiv 10 = (q : Int) := by rw [<- hq]; exact Int.ofNat_tdiv m 10 ▸ rfl
   have hqd : (m : Int) / 10 = (q : Int) := by omega
   rw [hq] at c1 HB1
   obtain ⟨dq, hdq⟩ : ∃ c, UInt8.ofNat (48 + q % 10) = c := ⟨_, rfl⟩
   rw [hdq] at c1
   have hsl : s.length <= 20 := by have := congrArg List.length HS.out; rw [List.length_append] at this; omega
   have hnew : R = (if q < 10 then [] else Lib.decDigits (q / 10)) ++ (dq :: s) := by
    have e := HS.out
    rw [if_neg hlt, hq, dec_step q, hdq] at e
    rw [e]; simp
   have HNEW := Lib.hid hnew
   have hqm : q < m := by omega
   clear hb hs hdq hnew hq
   gi_wp2_with fail
   exact ⟨⟨q, dq :: s, by omega, rfl, by show Value.string _ = Value.string _; congr 1, HNEW.out, HB1.out⟩, by simp [intOf]; omega⟩
theorem refTText_any (t : Nat) (h : t < 9223372036854775808) (w : World) : Calls Tryz.prog 36 #[.int .i64 t] w (Gives (S (Ty.text t)) w) := by
 have HK := Lib.hid (refKnown_any (t : Int) w)
 have HN := Lib.hid (fun w => refName_any (t : Int) w)
 rcases hn : Ty.nameOf t with _ | s
 ·rw [hn] at HK
  have hlen := dec_len t (by omega)
  have htx : Hid (Ty.text t = [84, 89, 80, 69] ++ Lib.decDigits t) := by show _ = _; unfold Ty.text; rw [hn]
  obtain ⟨R, hR⟩ : ∃ R, Ty.text t = R := ⟨_, rfl⟩
  rw [hR] at htx ⊢
  clear hn hR HN
  refine (callsIn_wide (n := 0)).1 ?_
  refine callsIn_of_wp Tryz.func36 rfl trivial ?_ rfl
  simp only [Tryz.ntmps36, List.size_toArray, List.length_cons, List.length_nil, Nat.reduceAdd, Nat.reduceSub, Array.replicate_succ, Array.replicate_zero, List.push_toArray, List.append_toArray, List.nil_append, List.cons_append]
  gi_wp2_with fail
  refine (callsIn_wide.2 HK.out).mono ?_
  rintro e w1 ⟨rfl, b1⟩
  simp only [Option.isSome_none]
  gi_wp2_with fail
  refine (callsIn_wide.2 (refDecimal_any t h w1)).mono ?_
  rintro e w2 ⟨rfl, b2⟩
  have hb := below5 b1 b2
  gi_wp2_with fail
  go_ret
  refine ⟨?_, hb⟩
  rw [htx.out]
  show Ending.returned (.string _) = Ending.returned (.string _)
  congr 2
 ·rw [hn] at HK HN
  have htx : Ty.text t = s := by unfold Ty.text; rw [hn]
  rw [htx]
  clear hn htx
  refine (callsIn_wide (n := 0)).1 ?_
  refine callsIn_of_wp Tryz.func36 rfl trivial ?_ rfl
  simp only [Tryz.ntmps36, List.size_toArray, List.length_cons, List.length_nil, Nat.reduceAdd, Nat.reduceSub, Array.replicate_succ, Array.replicate_zero, List.push_toArray, List.append_toArray, List.nil_append, List.cons_append]
  gi_wp2_with fail
  refine (callsIn_wide.2 HK.out).mono ?_
  rintro e w1 ⟨rfl, b1⟩
  simp only [Option.isSome_some]
  gi_wp2_with fail
  refine (callsIn_wide.2 (HN.out w1)).mono ?_
  rintro e w2 ⟨rfl, b2⟩
  have hb := below5 b1 b2
  simp only [Option.getD]
  gi_wp2_with fail
  go_ret
  exact ⟨rfl, hb⟩
end Go.Proofs.YtgmbefolgppmdaaGreatDoor
end
