/- Numbers in decimals: strconv.FormatUint, strconv.Itoa. -/
import Derived.Test.YtgmbefolgppmdaaGreatDoorKShelf
import Derived.Test.YtgmbefolgppmdaaGreatDoorKNmSpec
import Derived.Lib.AppendIntMem
import Derived.Test.YtgmbefolgppmdaaGreatDoorKGr
import Derived.Test.YtgmbefolgppmdaaGreatDoorKNmC
import Derived.Test.YtgmbefolgppmdaaGreatDoorKReg
import Derived.Test.YtgmbefolgppmdaaGreatDoorKLabSpec2
section
namespace Go.Proofs.YtgmbefolgppmdaaGreatDoor
open Go.RowKit Go.Shelf Go.Sort
set_option maxRecDepth 100000
def Tab (w : World) : Prop := Lib.TabIs Tryz.prog w "internal/strconv.uint64pow10" .u64 Lib.pow10Tab
theorem Tab.below {w W : World} (h : Tab w) (hb : Below w.heap.size w W) : Tab W := (Lib.tabBelow_of_tabIs h) W hb
theorem below_grow (w : World) (k : Nat) (os : Array Obj) : Below w.heap.size w (grow (w.drewN k) os) :=
 ⟨by simp [grow, World.drewN], by simp [grow, World.drewN], by simp [grow, World.drewN], by simp [grow, World.drewN], fun i hi => by
  show ((w.drewN k).heap ++ os)[i]? = _
  rw [Array.getElem?_append_left (by simpa [World.drewN] using hi)]; simp [World.drewN]⟩
theorem dec_len (t : Nat) (h : t < 18446744073709551616) : (Lib.decDigits t).length <= 20 := by
 rw [Lib.decDigits_length]
 by_cases h0 : t < 10
 ·rw [Lib.nDigits_small h0]; omega
 ·have := Lib.numDigits_eq t (by omega) h
  split at this <;> omega
theorem fmtUI_small (u : Nat) (h : u < 100) (w : World) :
  Calls Tryz.prog 66 #[.int .u64 u, .int .i64 10] w fun e w' => e = .returned (S (Lib.decDigits u)) /\ w = w' := by
 have hz : (u : Int) < 100 := by omega
 have hw : IntKind.i64.wrap (u : Int) = u := by rw [IntKind.wrap_i64]; omega
 go_enter Tryz.func66, Tryz.ntmps66
 go_wp2_with (go_at_call 97; refine (Tryz.internal_strconv_small u h _).mono ?_; rintro e w' ⟨rfl, rfl⟩)
 go_ret
 exact ⟨rfl, rfl⟩
set_option maxHeartbeats 2000000 in
theorem fmtUI_big (u : Nat) (h1 : 100 <= u) (h2 : u < 18446744073709551616) (w : World) (ht : Tab w) :
  Calls Tryz.prog 66 #[.int .u64 u, .int .i64 10] w (Gives (S (Lib.decDigits u)) w) := by
 have hz : ¬ (u : Int) < 100 := by omega
 have hu1 : 1 <= u := by omega
 have hnd20 : Lib.nDigits u <= 20 := by have := Lib.numDigits_eq u hu1 h2; split at this <;> omega
 have hal : Tryz.prog.arrayLen 124 = 24 := by simp [Program.arrayLen, Tryz.underlying124]
 have hsl : ∀ W, (Instr.sliceAt 124 (.pointer (some ⟨w.heap.size, 0, none⟩)) none (some (.int .i64 (Lib.nDigits u : Int))) none).run Tryz.prog W = .ok (.slice (some ⟨w.heap.size, 0, none⟩) (Lib.nDigits u) 24) W := fun W => by
  rw [run_sliceAt_array_h W 124 ⟨w.heap.size, 0, none⟩ (by simp [Program.arrayLen, Program.elem, Tryz.underlying124]) .i64 (Lib.nDigits u : Int) (by omega) (by rw [hal]; omega)]
  go_simp
 have hH0 := Lib.holds_zero0 w 124 (Lib.nDigits u) (by omega)
 have hfmt := Tryz.internal_strconv_formatBase10 w.heap.size 0 24 u (Array.replicate (Lib.nDigits u) 0) (w.alloc (.cells Lib.zeros24 124)) hH0 (by rw [Array.size_replicate]; exact Lib.lt_pow_nDigits u) h2 (by rw [Array.size_replicate]; omega)
 rw [Array.size_replicate] at hfmt
 have HH0 := Lib.hid hH0
 have HF := Lib.hid hfmt
 clear hH0 hal hfmt
 go_enter Tryz.func66, Tryz.ntmps66
 go_wp2_with (go_at_call 98; refine (Tryz.internal_strconv_numDigits u hu1 h2 _ (Lib.tabIs_alloc ht _)).mono ?_; rintro e w' ⟨rfl, rfl⟩)
 go_at_call 99
 refine HF.out.mono ?_
 rintro e w' ⟨rfl, k, v', dk, rfl, hF⟩
 have hcv : (convert 27 9 (.slice (some ⟨w.heap.size, 0, none⟩) (Lib.nDigits u) 24)).run Tryz.prog ((putRow (fun (b : UInt8) => Value.int .u8 (b.toNat : Int)) (w.alloc (.cells Lib.zeros24 124)) w.heap.size 0 dk).drewN k) = .ok (S (Lib.decDigits u)) ((putRow (fun (b : UInt8) => Value.int .u8 (b.toNat : Int)) (w.alloc (.cells Lib.zeros24 124)) w.heap.size 0 dk).drewN k) := by
  have h := run_convert_bytes_back (P := Tryz.prog) ((putRow (fun (b : UInt8) => Value.int .u8 (b.toNat : Int)) (w.alloc (.cells Lib.zeros24 124)) w.heap.size 0 dk).drewN k) 27 9 5 ⟨w.heap.size, 0, none⟩ 24 (Lib.decDigits u) Tryz.underlying27 Tryz.underlying5 Tryz.underlying9 (fun j hj => by
   rw [Lib.row_is_numeral hF j hj, Lib.add_plain, World.cell?_drewN]
   exact cell?_putRow (fun (b : UInt8) => Value.int .u8 (b.toNat : Int)) _ w.heap.size 0 _ dk HH0.out (by rw [hF.size, Array.size_replicate]) j (by rw [hF.size]; rw [Lib.decDigits_length] at hj; exact hj))
  rw [Lib.decDigits_length] at h
  exact h
 go_wp2
 go_ret
 obtain ⟨os, eo⟩ := Lib.fin_at w (.cells Lib.zeros24 124) dk k 0
 refine ⟨rfl, ?_⟩
 have hb := below_grow w k os
 rw [<- eo] at hb; exact hb
theorem fmtU_any (u : Nat) (h2 : u < 18446744073709551616) (w : World) (ht : Tab w) :
  Calls Tryz.prog 31 #[.int .u64 u, .int .i64 10] w (Gives (S (Lib.decDigits u)) w) := by
 have HC : Hid (Calls Tryz.prog 66 #[.int .u64 u, .int .i64 10] w (Gives (S (Lib.decDigits u)) w)) := by
  by_cases h : u < 100
  ·refine (fmtUI_small u h w).mono ?_
   rintro e w' ⟨rfl, rfl⟩
   exact ⟨rfl, Below.refl _ _⟩
  ·exact fmtUI_big u (by omega) h2 w ht
 go_enter Tryz.func31, Tryz.ntmps31
 go_wp2_with (go_at_call 66; refine HC.out.mono ?_; rintro e w' ⟨rfl, hb⟩)
 go_ret
 exact ⟨rfl, hb⟩
theorem itoa_any (u : Nat) (h2 : u < 9223372036854775808) (w : World) (ht : Tab w) :
  Calls Tryz.prog 69 #[.int .i64 u] w (Gives (S (Lib.decDigits u)) w) := by
 refine (Tryz.strconv_Itoa u (by omega) (by omega) w ht).mono ?_
 rintro e w' ⟨rfl, k, os, rfl⟩
 exact ⟨by rw [Lib.itoa_nonneg], below_grow w k os⟩
end Go.Proofs.YtgmbefolgppmdaaGreatDoor
end
section
namespace Go.Proofs.YtgmbefolgppmdaaGreatDoor
open Go.RowKit Go.Shelf
set_option maxRecDepth 100000
theorem GRd.blk {k : Nat} {xs : List (List Value)} (hx : ∀ x ∈ xs, x.length = k /\ ∀ u ∈ x, u.oneCell' = true) {b : Nat} {t : TypeId} {W : World} (h : Blk b xs.flatten.toArray t W) (hl : xs.length <= 1000) : GRd k (.slice (some ⟨b, 0, none⟩) xs.length xs.length) xs W := by
 refine ⟨some ⟨b, 0, none⟩, xs.length, rfl, Nat.le_refl _, by unfold maxLen; omega, (fun h => by cases h), hx, fun i hi c hc => ⟨_, rfl, ?_⟩⟩
 have hadd : ∀ j, (⟨b, 0, none⟩ : Addr).add j = ⟨b, j, none⟩ := fun j => by unfold Addr.add; split <;> simp_all
 rw [hadd, h.cell, <- flatten_get (fun x hx' => (hx x hx').1) i c hi hc]
 simp
theorem sjoin_any (b o cap : Nat) (l : List (List UInt8)) (sep : List UInt8) (w : World) (hv : Rd (.slice (some ⟨b, o, none⟩) l.length cap) l w) (hb : b < w.heap.size) (hn : l.length <= 1000) (hl : (Lib.join l sep).length <= 140737488355328) :
  Calls Tryz.prog 29 #[.slice (some ⟨b, o, none⟩) l.length cap, S sep] w (Gives (S (Lib.join l sep)) w) := by
 obtain ⟨o', cap', e, h1, h2, h3, h4⟩ := hv
 cases e
 have hm : (l.map fun x => (⟨x.toArray⟩ : ByteArray)).map (·.data.toList) = l := by simp [Function.comp_def]
 have := Tryz.strings_Join b o cap (l.map fun x => ⟨x.toArray⟩) ⟨sep.toArray⟩ w (fun j x hx => by
  rw [List.getElem?_map, Option.map_eq_some_iff] at hx
  obtain ⟨y, hy, rfl⟩ := hx
  obtain ⟨hj, rfl⟩ := List.getElem?_eq_some_iff.1 hy
  obtain ⟨a, ha, hc⟩ := h4 j hj
  cases ha
  rw [Lib.add_plain] at hc; exact hc) hb (by rw [List.length_map]; omega) (by rw [List.length_map]; exact h1) (by rw [hm]; exact hl)
 rw [hm, List.length_map] at this
 exact this
namespace Ty
def names : List (Int × List UInt8) := [(1, [65]), (2, [78, 83]), (5, [67, 78, 65, 77, 69]), (6, [83, 79, 65]), (12, [80, 84, 82]), (15, [77, 88]), (16, [84, 88, 84]), (28, [65, 65, 65, 65]), (39, [68, 78, 65, 77, 69])]
def nameOf (t : Int) : Option (List UInt8) := (names.find? fun p => p.1 == t).map (·.2)
def text (t : Nat) : List UInt8 := match nameOf t with
 | some s => s
 | none => [84, 89, 80, 69] ++ Lib.decDigits t
end Ty
def encPr (p : Int × List UInt8) : List Value := [.int .i64 p.1, S p.2]
theorem names_any (w : World) : Calls Tryz.prog 68 #[] w fun e w' => e = .returned (.slice (some ⟨w.heap.size, 0, none⟩) 9 9) /\ GRd 2 (.slice (some ⟨w.heap.size, 0, none⟩) 9 9) (Ty.names.map encPr) w' /\ Below w.heap.size w w' := by
 go_enter Tryz.func68, Tryz.ntmps68
 go_wp2
 go_ret
 refine ⟨rfl, ?_, (Below.refl _ _).alloc (Nat.le_refl _) _⟩
 exact GRd.blk (xs := Ty.names.map encPr) (fun x hx => by
  obtain ⟨y, _, rfl⟩ := List.mem_map.1 hx
  exact ⟨rfl, fun u hu => by simp only [encPr, List.mem_cons, List.not_mem_nil, or_false] at hu; rcases hu with rfl | rfl <;> rfl⟩) (Blk.new w _ _) (by decide)
theorem find_next {α : Type} {p : α -> Bool} {l : List α} {k : Nat} (hk : k < l.length) (h : p l[k] = false) : (l.drop k).find? p = (l.drop (k + 1)).find? p := by
 rw [List.drop_eq_getElem_cons hk, List.find?_cons, h]
set_option maxHeartbeats 1000000 in
theorem findIS_any (v : Value) (l : List (Int × List UInt8)) (key : Int) (w : World) (hv : GRd 2 v (l.map encPr) w) (hn : l.length <= 1000) :
  Calls Tryz.prog 67 #[v, .int .i64 key] w (Gives (.tuple #[S (((l.find? fun p => p.1 == key).map (·.2)).getD []), .bool (l.find? fun p => p.1 == key).isSome]) w) := by
 obtain ⟨o, cap, rfl, h1, h2⟩ := hv.form
 rw [List.length_map] at h1 ⊢
 rw [List.length_map] at hv
 have HV := Lib.hid hv
 have lz : (l.length : Int) <= 1000 := by omega
 clear hv
 go_enter Tryz.func67, Tryz.ntmps67
 go_wp2
 go_loopw [11] (fun vi W => ∃ k : Nat, k <= l.length /\ vi = .int .i64 k /\ Hid ((l.find? fun p => p.1 == key) = (l.drop k).find? fun p => p.1 == key) /\ Below w.heap.size w W) (fun vi _ => l.length - (intOf vi).toNat)
 case atStart => exact ⟨0, Nat.zero_le _, rfl, rfl, Below.refl _ _⟩
 case round =>
  obtain ⟨k, hk, rfl, hf, hb⟩ := hrel
  by_cases hlt : k < l.length
  ·have hlz : (k : Int) < (l.length : Int) := by omega
   obtain ⟨t, s, hx⟩ : ∃ t s, l[k] = (t, s) := ⟨_, _, rfl⟩
   obtain ⟨a, rfl, e0, e1⟩ := (HV.out.below hb).at (by decide) k (by rw [List.length_map]; exact hlt)
   have e1 := e1 1 (by decide) (by decide)
   rw [List.getElem_map, hx] at e0 e1
   simp only [encPr, List.getElem?_cons_zero, List.getElem?_cons_succ] at e0 e1
   obtain ⟨z, hz⟩ : ∃ z, a.add (k * 2) = z := ⟨_, rfl⟩
   rw [hz] at e0 e1
   have HX := Lib.hid hx
   have HB := Lib.hid hb
   by_cases hq : t = key
   ·have hq' : (t == key) = true := by simpa using hq
    go_wp2
    go_ret2
    refine ⟨?_, ?_⟩
    ·rw [hf.out, List.drop_eq_getElem_cons hlt, HX.out, List.find?_cons, hq']; rfl
    ·exact HB.out.alloc (by have := HB.out.size; omega) _
   ·have hq' : (t == key) = false := by simpa using hq
    go_wp2
    refine ⟨⟨k + 1, hlt, by go_num, ?_, ?_⟩, by simp [intOf]; omega⟩
    ·show _ = _
     rw [hf.out]; exact find_next hlt (by rw [HX.out]; exact hq')
    ·exact HB.out.alloc (by have := HB.out.size; omega) _
  ·have hlz : ¬ (k : Int) < (l.length : Int) := by omega
   have HB := Lib.hid hb
   have hN : (l.find? fun p => p.1 == key) = none := by rw [hf.out, List.drop_eq_nil_of_le (by omega)]; rfl
   have HN := Lib.hid hN
   clear hN hf
   go_wp2
   go_ret2
   rw [HN.out]
   exact ⟨rfl, HB.out⟩
end Go.Proofs.YtgmbefolgppmdaaGreatDoor
end
section
namespace Go.Proofs.YtgmbefolgppmdaaGreatDoor
open Go.RowKit Go.Shelf
set_option maxRecDepth 100000
theorem Ty.find_some {t : Int} {s : List UInt8} (h : Ty.nameOf t = some s) : ∃ p, (Ty.names.find? fun p => p.1 == t) = some p /\ p.2 = s := by
 unfold Ty.nameOf at h
 rw [Option.map_eq_some_iff] at h
 exact h
theorem Ty.find_none {t : Int} (h : Ty.nameOf t = none) : (Ty.names.find? fun p => p.1 == t) = none := by
 unfold Ty.nameOf at h
 simpa using h
set_option maxHeartbeats 1000000 in
theorem typeText_any (t : Nat) (h : t < 9223372036854775808) (w : World) (ht : Tab w) : Calls Tryz.prog 32 #[.int .i64 t] w (Gives (S (Ty.text t)) w) := by
 have HT := Lib.hid ht
 clear ht
 rcases hn : Ty.nameOf t with _ | s
 ·have hlen := dec_len t (by omega)
  have hf := Lib.hid (Ty.find_none hn)
  have htx : Hid (Ty.text t = [84, 89, 80, 69] ++ Lib.decDigits t) := by show _ = _; unfold Ty.text; rw [hn]
  clear hn
  go_enter Tryz.func32, Tryz.ntmps32
  go_wp2_with (go_at_call 68; refine (names_any _).mono ?_; rintro e w1 ⟨rfl, hg, b1⟩; have HG := Lib.hid hg; clear hg)
  refine (findIS_any _ Ty.names t w1 HG.out (by decide)).mono ?_
  rintro e w2 ⟨rfl, b2⟩
  rw [hf.out]
  have hb := below5 b1 b2
  have HT2 := Lib.hid (HT.out.below hb)
  clear b1 b2 HG
  go_wp2_with fail
  refine (itoa_any t h w2 HT2.out).mono ?_
  rintro e w3 ⟨rfl, b3⟩
  have hb3 := below5 hb b3
  go_wp2_with fail
  go_ret
  refine ⟨?_, hb3⟩
  rw [htx.out]
  show Ending.returned (.string _) = Ending.returned (.string _)
  congr 2
 ·obtain ⟨p, hp, rfl⟩ := Ty.find_some hn
  have hf := Lib.hid hp
  have htx : Hid (Ty.text t = p.2) := by show _ = _; unfold Ty.text; rw [hn]
  clear hn hp
  go_enter Tryz.func32, Tryz.ntmps32
  go_wp2_with (go_at_call 68; refine (names_any _).mono ?_; rintro e w1 ⟨rfl, hg, b1⟩; have HG := Lib.hid hg; clear hg)
  refine (findIS_any _ Ty.names t w1 HG.out (by decide)).mono ?_
  rintro e w2 ⟨rfl, b2⟩
  rw [hf.out]
  simp only [Option.map_some, Option.getD_some, Option.isSome_some]
  have hb := below5 b1 b2
  clear b1 b2 HG
  go_wp2_with fail
  go_ret
  exact ⟨by rw [htx.out]; rfl, hb⟩
set_option maxHeartbeats 1000000 in
theorem rknown_any (t : Int) (w : World) : Calls Tryz.prog 105 #[.int .i64 t] w (Gives (.bool (Ty.nameOf t).isSome) w) := by
 have hs : Hid ((Ty.names.find? fun p => p.1 == t).isSome = (Ty.nameOf t).isSome) := by show _ = _; unfold Ty.nameOf; rw [Option.isSome_map]
 go_enter Tryz.func105, Tryz.ntmps105
 go_wp2_with (go_at_call 68; refine (names_any _).mono ?_; rintro e w1 ⟨rfl, hg, b1⟩; have HG := Lib.hid hg; clear hg)
 refine (findIS_any _ Ty.names t w1 HG.out (by decide)).mono ?_
 rintro e w2 ⟨rfl, b2⟩
 rw [hs.out]
 have hb := below5 b1 b2
 clear b1 b2 HG
 go_wp2_with fail
 go_ret
 exact ⟨rfl, hb⟩
end Go.Proofs.YtgmbefolgppmdaaGreatDoor
end
section
namespace Go.Proofs.YtgmbefolgppmdaaGreatDoor
open Go.RowKit Go.Shelf
set_option maxRecDepth 100000
attribute [local go_sem] Oper.semAt_some
theorem chunk_any (o : Option Addr) (l cap n : Nat) (hn : 1 <= n) (hn' : n <= 100) (w : World) :
  Calls Tryz.prog 123 #[.slice o l cap, .int .i64 n] w fun e w' => e = .returned (.func (.func 129) #[] #[.pointer (some ⟨w.heap.size, 0, none⟩), .pointer (some ⟨w.heap.size + 1, 0, none⟩)]) /\ (w.alloc (.cells #[.slice o l cap] 27)).alloc (.cells #[.int .i64 n] 3) = w' := by
 have h1 : ¬ (n : Int) < 1 := by omega
 go_enter Tryz.func123, Tryz.ntmps123
 go_wp2
 go_ret
 exact ⟨rfl, rfl⟩
def ckPre (b : Nat) (o : Option Addr) (l cap n : Nat) (W : World) : Prop := W.cell? ⟨b, 0, none⟩ = some (.slice o l cap) /\ W.cell? ⟨b + 1, 0, none⟩ = some (.int .i64 n)
def ckKp (b : Nat) (A B : World) : Prop := sameCell b A B /\ sameCell (b + 1) A B
theorem ckKp.trans {b : Nat} {A B C : World} (h : ckKp b A B) (k : ckKp b B C) : ckKp b A C := ⟨sameCell.trans _ _ _ h.1 k.1, sameCell.trans _ _ _ h.2 k.2⟩
theorem ckPre.kept {b o l cap n} {A B : World} (h : ckPre b o l cap n A) (k : ckKp b A B) : ckPre b o l cap n B := ⟨Eq.trans k.1 h.1, Eq.trans k.2 h.2⟩
def ckY (a : Addr) (n m : Nat) (k : Nat) (_ : World) (v : Array Value) (k' : Nat) : Prop := k < m /\ v = #[.slice (some (a.add (k * n))) n n] /\ k' = k + 1
set_option maxHeartbeats 2000000 in
theorem chunk1_iter (b : Nat) (a : Addr) (m cap n : Nat) (hn : n = 1 \/ n = 2) (hm : m * n <= cap) (hm' : m <= 2000) :
  Iter Tryz.prog 129 #[.pointer (some ⟨b, 0, none⟩), .pointer (some ⟨b + 1, 0, none⟩)] (ckPre b (some a) (m * n) cap n) (fun A B => A.drew = B) (ckKp b) (ckY a n m) 0 (fun k => k = m) := by
 intro l J Jx W hpre hJs hJxs hY h0
 refine callsIn_of_wp Tryz.func129 rfl trivial ?_ rfl
 simp only [Tryz.ntmps129, List.size_toArray, List.length_cons, List.length_nil, Nat.reduceAdd, Nat.reduceSub, Array.replicate_succ, Array.replicate_zero, List.push_toArray, List.append_toArray, List.nil_append, List.cons_append]
 have HPre := Lib.hid hpre
 have HJS := Lib.hid hJs
 clear hpre hJs hJxs
 gi_wp2
 gi_loopw [4] (fun p wr => ∃ k : Nat, k <= m /\ p = .int .i64 ((k * n : Nat) : Int) /\ J k wr /\ ckPre b (some a) (m * n) cap n wr) (fun p _ => m * n - (intOf p).toNat)
 case atStart => exact ⟨0, by omega, by simp, h0, HPre.out⟩
 case round =>
  obtain ⟨k, hk, rfl, hJ, hp⟩ := hrel
  by_cases hlt : k < m
  ·have hJd := HJS.out _ _ _ hJ rfl
   obtain ⟨fn, tmps, assign, body, hy, hR⟩ := hY k (k + 1) _ wr.drew hJd ⟨hlt, rfl, rfl⟩
   have HR := Lib.hid hR
   have HY := Lib.hid hy
   have HP := Lib.hid hp
   obtain ⟨c1, c2⟩ := hp
   have hkn : k * n + n <= m * n := by have : (k + 1) * n <= m * n := Nat.mul_le_mul_right _ hlt; rw [Nat.add_mul] at this; omega
   have hmn : m * n <= 4000 := by rcases hn with rfl | rfl <;> omega
   obtain ⟨q, hq⟩ : ∃ q, k * n = q := ⟨_, rfl⟩
   obtain ⟨t, ht⟩ : ∃ t, m * n = t := ⟨_, rfl⟩
   rw [hq] at hkn HY ⊢
   rw [ht] at hkn hmn hm c1 HP
   have HQ := Lib.hid hq
   have HTT := Lib.hid ht
   have hn1 : 1 <= n := by omega
   have hn2 : n <= 2 := by omega
   have g1 : (q : Int) < (t : Int) := by omega
   have g2 : (q : Int) + n <= t := by omega
   have g3 : (n : Int) <= ((t - q : Nat) : Int) := by omega
   have g4 : ¬ cap = q := by omega
   have g5 : min (n : Int) ((t - q : Nat) : Int) = n := by omega
   clear hy hR hJ hJd hq ht hY hn h0
   gi_wp2_with fail
   refine drawnH [0, 1, 3, 4, 5] (fun w' => w'.cell? ⟨b, 0, none⟩ = some (.slice (some a) t cap) /\ w'.cell? ⟨b + 1, 0, none⟩ = some (.int .i64 n)) 7 rfl (by kernel_rfl) ?_
   intro w' hw'
   have hS : w'.cell? ⟨b, 0, none⟩ = some (.slice (some a) t cap) /\ w'.cell? ⟨b + 1, 0, none⟩ = some (.int .i64 n) := by subst hw'; exact ⟨c1, c2⟩
   refine tP 2 ?qv2 (fun w1 _ => ?qy2) ?_
   case qy2 => (go_simp; try first | rfl | (rw [if_pos (by omega)]) | (rw [if_neg (by omega)]) | (rw [if_neg (by simp; omega)]) | (split <;> first | (exfalso; omega) | rfl))
   refine tH 0 ?qv0 hS (fun w1 ⟨d1, d2⟩ => ?qy0) ?_
   case qy0 => (go_simp; try first | rfl | (rw [if_pos (by omega)]) | (rw [if_neg (by omega)]) | (rw [if_neg (by simp; omega)]) | (split <;> first | (exfalso; omega) | rfl))
   refine tH 1 ?qv1 hS (fun w1 ⟨d1, d2⟩ => ?qy1) ?_
   case qy1 => (go_simp; try first | rfl | (rw [if_pos (by omega)]) | (rw [if_neg (by omega)]) | (rw [if_neg (by simp; omega)]) | (split <;> first | (exfalso; omega) | rfl))
   simp only [Act.put, List.setIfInBounds_toArray, List.set_cons_succ, List.set_cons_zero]
   refine tH 3 ?qv3 hS (fun w1 ⟨d1, d2⟩ => ?qy3) ?_
   case qy3 => (go_simp; try first | rfl | (rw [if_pos (by omega)]) | (rw [if_neg (by omega)]) | (rw [if_neg (by simp; omega)]) | (split <;> first | (exfalso; omega) | rfl))
   refine tH 4 ?qv4 hS (fun w1 ⟨d1, d2⟩ => ?qy4) ?_
   case qy4 => (go_simp; try first | rfl | (rw [if_pos (by omega)]) | (rw [if_neg (by omega)]) | (rw [if_neg (by simp; omega)]) | (split <;> first | (exfalso; omega) | rfl))
   refine tH 5 ?qv5 hS (fun w1 ⟨d1, d2⟩ => ?qy5) ?_
   case qy5 => (go_simp; try first | rfl | (rw [if_pos (by omega)]) | (rw [if_neg (by omega)]) | (rw [if_neg (by simp; omega)]) | (split <;> first | (exfalso; omega) | rfl))
   simp only [Act.put, List.setIfInBounds_toArray, List.set_cons_succ, List.set_cons_zero]
   refine oneH 6 (by rfl) (by kernel_rfl) (fun K hK => ?_)
   gi_wp2_with fail
   refine hK _ _ (fun _ => hS) ?_
   clear hK K hS
   subst hw'
   refine doneH (by kernel_rfl) ?_
   gi_wp2_with fail
   rw [HY.out]
   clear c1 c2 HY
   gi_wp2_with fail
   refine HR.out.mono ?_
   clear HR
   rintro e W3 (⟨rfl, hJ3, hk3⟩ | ⟨rfl, hJx3⟩)
   ·have hc3 := Lib.hid (HP.out.kept (b := b) (B := W3) hk3)
    clear hk3 HP
    have hw5 : IntKind.i64.wrap ((q : Int) + (n : Int)) = ((q + n : Nat) : Int) := by rw [IntKind.wrap_i64]; omega
    obtain ⟨d1, d2⟩ := id hc3.out
    gi_wp2_with fail
    go_roundw
    case rel => exact ⟨k + 1, hlt, by rw [show (k + 1) * n = q + n by rw [Nat.add_mul, HQ.out, Nat.one_mul]]; first | rfl | simp, hJ3, by have := hc3.out; rw [HTT.out]; exact this⟩
    case measure => rw [HTT.out]; simp only [intOf]; omega
   ·gi_wp2_with fail
    refine bodyPost_ret (results_none rfl _ _ _) rfl ?_
    exact ⟨⟨_, rfl⟩, .inr hJx3⟩
  ·obtain rfl : m = k := by omega
   obtain ⟨c1, c2⟩ := hp
   have g1 : ¬ ((m * n : Nat) : Int) < ((m * n : Nat) : Int) := by omega
   gi_wp2_with fail
   go_end0
   first | exact ⟨⟨_, rfl⟩, .inl ⟨_, rfl, hJ⟩⟩ | exact ⟨⟨_, rfl⟩, .inl hJ⟩
end Go.Proofs.YtgmbefolgppmdaaGreatDoor
end
section
namespace Go.Proofs.YtgmbefolgppmdaaGreatDoor
open Go.RowKit Go.Shelf
set_option maxRecDepth 100000
attribute [local go_sem] Oper.semAt_some
structure SbM (w : World) (B q : Nat) (ts : List (List UInt8)) (W : World) : Prop where
 bx : ∃ o c, Box q 22 (.slice o ts.length c) W /\ Row (fun g => B <= g) 9 1 (.slice o ts.length c) ts.length (ts.map S) W
 below : Below w.heap.size w W
 size : B <= W.heap.size
theorem SbM.on {w B q ts} {A W : World} (h : SbM w B q ts A) (hb : Below A.heap.size A W) : SbM w B q ts W := by
 obtain ⟨o, c, h1, h2⟩ := h.bx
 exact ⟨⟨o, c, h1.below hb, h2.below hb⟩, below5 h.below hb, Nat.le_trans h.size hb.size⟩
theorem SbM.drew {w B q ts} {A : World} (h : SbM w B q ts A) : SbM w B q ts A.drew := h.on (Below.refl _ _).drew
theorem SbM.put {w B q ts} {A : World} (h : SbM w B q ts A) {L : Nat} {r : Loop} (hr : A.heap[L]? = some (.loop r)) (hL : w.heap.size <= L) (o : Obj) : SbM w B q ts (A.putObj L o) := by
 obtain ⟨a, c, h1, h2⟩ := h.bx
 exact ⟨⟨a, c, h1.put hr o, h2.put hr o⟩, below_put h.below hL hr h.below.size o, by have := h.size; simpa using this⟩
theorem strs_flat (ts : List (List UInt8)) : (ts.map fun x => [S x]).flatten = ts.map S := by
 induction ts with
 | nil => rfl
 | cons x r ih => rw [List.map_cons, List.flatten_cons, ih]; rfl
theorem Row.rd {R : Nat -> Prop} {v : Value} {ts : List (List UInt8)} {W : World} (h : Row R 9 1 v ts.length (ts.map S) W) : Rd v ts W := by
 have h' : Row R 9 1 v (ts.map fun x => [S x]).length (ts.map fun x => [S x]).flatten W := by rw [List.length_map, strs_flat]; exact h
 obtain ⟨o, cap, h1, h2, h3, h4, h5, h6⟩ := h'.grd (fun x hx => by obtain ⟨y, _, rfl⟩ := List.mem_map.1 hx; exact ⟨rfl, fun u hu => by rw [List.mem_singleton] at hu; subst hu; rfl⟩)
 rw [List.length_map] at h1 h2
 refine ⟨o, cap, h1, h2, h3, h4, fun j hj => ?_⟩
 obtain ⟨a, ha, e⟩ := h6 j (by rw [List.length_map]; exact hj) 0 (by decide)
 refine ⟨a, ha, ?_⟩
 rw [List.getElem_map] at e
 simpa using e
theorem SbM.push {w B q ts} {W Wq w10 : World} (hB : w.heap.size <= q) (hq : q < B) (h : SbM w B q ts W) (x : List UInt8) (hba : Below W.heap.size W Wq) {v v10 : Value} (hbx : Box q 22 v Wq) (hrow : Row (fun g => B <= g) 9 1 v ts.length (ts.map S) Wq)
  (hrow10 : Row (fun g => B <= g) 9 1 v10 (ts.length + 1) ((ts ++ [x]).map S) w10) (hgr10 : Wq.grownBy w10 v.ownBlock) :
  SbM w B q (ts ++ [x]) (w10.setCell ⟨q, 0, none⟩ v10) /\ KeepsOthers W (w10.setCell ⟨q, 0, none⟩ v10) /\ (∀ b, b < B -> b ≠ q -> (w10.setCell ⟨q, 0, none⟩ v10).heap[b]? = W.heap[b]?) := by
 have hown : ∀ g, v.ownBlock = some g -> B <= g := fun g hg => hrow.2 g hg
 have hsz := h.size
 have hbs := hba.size
 have hbx10 : Box q 22 v w10 := (hgr10.block _ hbx.lt (fun e => by have := hown _ e.symm; omega)).trans hbx
 have hblk : ∀ b, b < B -> b ≠ q -> (w10.setCell ⟨q, 0, none⟩ v10).heap[b]? = W.heap[b]? := fun b hb hne =>
  (Below.heap_setCell _ _ _ _ hne).trans ((hgr10.block b (by omega) (fun e => by have := hown b e.symm; omega)).trans (hba.block b (by omega)))
 obtain ⟨a10, c10, e10⟩ := hrow10.form
 subst e10
 refine ⟨⟨⟨a10, c10, ?_, ?_⟩, ?_, ?_⟩, ?_, hblk⟩
 ·rw [List.length_append]; exact hbx10.set _
 ·rw [List.length_append]; exact Row.setOther hrow10 (by omega) _
 ·exact Below.setCell (p := ⟨q, 0, none⟩) ((below5 h.below hba).grown hgr10 (below5 h.below hba).size (fun g hg => by have := hown g hg; omega)) hB _
 ·have := hgr10.size; simp [World.setCell]; omega
 ·exact (below_keepsOthers hba).trans ((hrow.keepsOthers hgr10).trans (KeepsOthers.setCell _ _ _))
end Go.Proofs.YtgmbefolgppmdaaGreatDoor
end
