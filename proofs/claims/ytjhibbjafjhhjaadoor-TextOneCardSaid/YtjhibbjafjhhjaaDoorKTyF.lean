/- Types of records, as the reference has them. -/
import Derived.Test.YtjhibbjafjhhjaaDoorKTyE
namespace Go.Proofs.YtjhibbjafjhhjaaDoor
open Go.RowKit Go.Shelf
set_option maxRecDepth 100000
theorem refTypes_any (w : World) : Calls Tryd.prog 18 #[] w fun e w' => e = .returned (.slice (some ⟨w.heap.size, 0, none⟩) 9 9) /\ Blk w.heap.size (Ty.keys.map I64).toArray 3 w' /\ Below w.heap.size w w' := by
 refine (callsIn_wide (n := 0)).1 ?_
 refine callsIn_of_wp Tryd.func18 rfl trivial ?_ rfl
 simp only [Tryd.ntmps18, List.size_toArray, List.length_nil, Nat.reduceSub, Array.replicate_succ, Array.replicate_zero, List.push_toArray, List.append_toArray, List.nil_append, List.cons_append]
 gi_wp2_with fail
 go_ret
 exact ⟨rfl, Blk.new w _ _, (Below.refl _ _).alloc (Nat.le_refl _) _⟩
def Ty.words : List (List UInt8) := Ty.names.map (·.2)
theorem Ty.keys_eq : Ty.keys = Ty.names.map (·.1) := by decide
set_option maxHeartbeats 4000000 in
theorem refName_any (t : Int) (w : World) : Calls Tryd.prog 37 #[.int .i64 t] w (Gives (S ((Ty.nameOf t).getD [])) w) := by
 refine (callsIn_wide (n := 0)).1 ?_
 refine callsIn_of_wp Tryd.func37 rfl trivial ?_ rfl
 simp only [Tryd.ntmps37, List.size_toArray, List.length_cons, List.length_nil, Nat.reduceAdd, Nat.reduceSub, Array.replicate_succ, Array.replicate_zero, List.push_toArray, List.append_toArray, List.nil_append, List.cons_append]
 gi_wp2_with fail
 refine (callsIn_wide.2 (refTypes_any w)).mono ?_
 rintro e w1 ⟨rfl, hk, b1⟩
 obtain ⟨g, hg⟩ : ∃ g, w.heap.size = g := ⟨_, rfl⟩
 rw [hg] at hk ⊢
 obtain ⟨g2, hg2⟩ : ∃ g, w1.heap.size = g := ⟨_, rfl⟩
 have b2 : Below w1.heap.size w1 (w1.alloc (.cells (Ty.words.map S).toArray 9)) := (Below.refl _ _).alloc (Nat.le_refl _) _
 have HW : Hid (Blk g2 (Ty.words.map S).toArray 9 (w1.alloc (.cells (Ty.words.map S).toArray 9))) := by show Blk _ _ _ _; rw [<- hg2]; exact Blk.new _ _ _
 have HK := Lib.hid (hk.below b2)
 have HB2 := Lib.hid (below5 b1 b2)
 clear hk b1 b2
 gi_wp2_with fail
 obtain ⟨W0, hW0⟩ : ∃ x, w1.alloc (.cells #[.string ⟨#[65]⟩, .string ⟨#[78, 83]⟩, .string ⟨#[67, 78, 65, 77, 69]⟩, .string ⟨#[83, 79, 65]⟩, .string ⟨#[80, 84, 82]⟩, .string ⟨#[77, 88]⟩, .string ⟨#[84, 88, 84]⟩, .string ⟨#[65, 65, 65, 65]⟩, .string ⟨#[68, 78, 65, 77, 69]⟩] 9) = x := ⟨_, rfl⟩
 rw [hW0]
 have hW1 : w1.alloc (.cells (Ty.words.map S).toArray 9) = W0 := hW0
 rw [hW1] at HW HK HB2
 clear hW0 hW1 hg hg2
 gi_loopw [5] (fun v5 W => ∃ k : Nat, k <= 9 /\ v5 = .int .i64 k /\ Hid ((Ty.names.find? fun p => p.1 == t) = (Ty.names.drop k).find? fun p => p.1 == t) /\ Below W0.heap.size W0 W) (fun v5 _ => 9 - (intOf v5).toNat)
 case atStart => exact ⟨0, Nat.zero_le _, rfl, rfl, Below.refl _ _⟩
 case round =>
  obtain ⟨k, hk, rfl, hf, hb⟩ := hrel
  have HB := Lib.hid (below5 HB2.out hb)
  have HF := Lib.hid hf
  have HBW := Lib.hid hb
  by_cases hlt : k < 9
  case neg =>
   have hlz : ¬ ((k : Int) < 9) := by omega
   have hn : Ty.nameOf t = none := by
    unfold Ty.nameOf; rw [HF.out, List.drop_eq_nil_of_le (by show 9 <= k; omega)]; rfl
   have HN := Lib.hid hn
   clear hf hb hn
   gi_wp2_with fail
   go_ret
   rw [HN.out]
   exact ⟨rfl, HB.out⟩
  case pos =>
  have hlz : (k : Int) < 9 := by omega
  have hkn : k < Ty.names.length := hlt
  obtain ⟨x, s, hx⟩ : ∃ x s, Ty.names[k] = (x, s) := ⟨_, _, rfl⟩
  have c1 : wr.cell? ⟨g, k, none⟩ = some (.int .i64 x) := by
   rw [(HK.out.below hb).cell k, Ty.keys_eq]; simp [hx, hkn]
  have c2 : wr.cell? ⟨g2, k, none⟩ = some (S s) := by
   rw [(HW.out.below hb).cell k]; simp [Ty.words, hx, hkn]
  have HX := Lib.hid hx
  clear hf hb hx
  by_cases hxt : x = t
  ·have hn : Ty.nameOf t = some s := by
    unfold Ty.nameOf; rw [HF.out, List.drop_eq_getElem_cons hkn, HX.out, List.find?_cons]; simp [hxt]
   have HN := Lib.hid hn
   clear hn
   subst hxt
   gi_wp2_with fail
   go_ret
   rw [HN.out]
   exact ⟨rfl, HB.out⟩
  ·have hxf : (x == t) = false := by simpa using hxt
   gi_wp2_with fail
   exact ⟨⟨k + 1, hlt, by go_num, by show _ = _; rw [HF.out]; exact find_next hkn (by rw [HX.out]; exact hxf), HBW.out⟩, by simp [intOf]; omega⟩
theorem Ty.name_ne {t : Int} {s : List UInt8} (h : Ty.nameOf t = some s) : s ≠ [] := by
 have h1 : ∀ p ∈ Ty.names, p.2 ≠ [] := by decide
 exact h1 _ (Ty.nameOf_mem h)
theorem refKnown_any (t : Int) (w : World) : Calls Tryd.prog 15 #[.int .i64 t] w (Gives (.bool (Ty.nameOf t).isSome) w) := by
 rcases hn : Ty.nameOf t with _ | s
 ·have HN := Lib.hid (refName_any t w)
  rw [hn] at HN
  refine (callsIn_wide (n := 0)).1 ?_
  refine callsIn_of_wp Tryd.func15 rfl trivial ?_ rfl
  simp only [Tryd.ntmps15, List.size_toArray, List.length_cons, List.length_nil, Nat.reduceAdd, Nat.reduceSub, Array.replicate_succ, Array.replicate_zero, List.push_toArray, List.append_toArray, List.nil_append, List.cons_append]
  gi_wp2_with fail
  refine (callsIn_wide.2 HN.out).mono ?_
  rintro e w1 ⟨rfl, b1⟩
  simp only [Option.getD]
  gi_wp2_with fail
  go_ret
  exact ⟨rfl, b1⟩
 ·have HN := Lib.hid (refName_any t w)
  rw [hn] at HN
  have hs := Ty.name_ne hn
  have hsa : ¬ ((⟨s.toArray⟩ : ByteArray) = ⟨#[]⟩) := by simpa using hs
  have hsb : s.isEmpty = false := by simpa using hs
  refine (callsIn_wide (n := 0)).1 ?_
  refine callsIn_of_wp Tryd.func15 rfl trivial ?_ rfl
  simp only [Tryd.ntmps15, List.size_toArray, List.length_cons, List.length_nil, Nat.reduceAdd, Nat.reduceSub, Array.replicate_succ, Array.replicate_zero, List.push_toArray, List.append_toArray, List.nil_append, List.cons_append]
  gi_wp2_with fail
  refine (callsIn_wide.2 HN.out).mono ?_
  rintro e w1 ⟨rfl, b1⟩
  simp only [Option.getD]
  gi_wp2_with fail
  go_ret
  exact ⟨rfl, b1⟩
theorem conv1 (g : Nat) (c : UInt8) (W : World) (h : W.cell? ⟨g, 0, none⟩ = some (.int .u8 (c.toNat : Int))) : (convert 67 9 (.slice (some ⟨g, 0, none⟩) 1 1)).run Tryd.prog W = .ok (S [c]) W :=
 run_convert_bytes_back (P := Tryd.prog) W 67 9 5 ⟨g, 0, none⟩ 1 [c] Tryd.underlying67 Tryd.underlying5 Tryd.underlying9 (fun j hj => by
  have : j = 0 := by simp at hj; omega
  subst this
  exact h)
theorem dig_byte (n : Nat) : ((UInt8.ofNat (48 + n % 10)).toNat : Int) = 48 + (n : Int) % 10 := by
 rw [UInt8.toNat_ofNat']; omega
theorem dec_step (n : Nat) : Lib.decDigits n = (if n < 10 then [] else Lib.decDigits (n / 10)) ++ [UInt8.ofNat (48 + n % 10)] := by
 rw [Lib.decDigits]
 split
 ·rename_i h; rw [Nat.mod_eq_of_lt h]; rfl
 ·rfl
set_option maxHeartbeats 4000000 in
theorem refDecimal_any (n : Nat) (h : n < 9223372036854775808) (w : World) : Calls Tryd.prog 44 #[.int .i64 n] w (Gives (S (Lib.decDigits n)) w) := by
 have nm : ((n : Int) == -9223372036854775808) = false := by
  have : ¬ ((n : Int) = -9223372036854775808) := by omega
  rw [beq_eq_false_iff_ne]; exact this
 have c0 := conv1 w.heap.size (UInt8.ofNat (48 + n % 10)) (w.alloc (.cells #[.int .u8 (48 + (n : Int) % 10)] 5)) (by rw [(Blk.new w #[Value.int .u8 (48 + (n : Int) % 10)] 5).cell 0, dig_byte]; rfl)
 obtain ⟨dn, hdn⟩ : ∃ c, UInt8.ofNat (48 + n % 10) = c := ⟨_, rfl⟩
 rw [hdn] at c0
 have HDN := Lib.hid hdn
 clear hdn
 have hRl := dec_len n (by omega)
 have hb0 : Below w.heap.size w (w.alloc (.cells #[.int .u8 (48 + (n : Int) % 10)] 5)) := (Below.refl _ _).alloc (Nat.le_refl _) _
 have HB0 := Lib.hid hb0
 obtain ⟨R, hR⟩ : ∃ R, Lib.decDigits n = R := ⟨_, rfl⟩
 rw [hR] at hRl ⊢
 have HR := Lib.hid hR
 clear hb0 hR
 refine (callsIn_wide (n := 0)).1 ?_
 refine callsIn_of_wp Tryd.func44 rfl trivial ?_ rfl
 simp only [Tryd.ntmps44, List.size_toArray, List.length_cons, List.length_nil, Nat.reduceAdd, Nat.reduceSub, Array.replicate_succ, Array.replicate_zero, List.push_toArray, List.append_toArray, List.nil_append, List.cons_append]
 gi_wp2_with fail
 clear c0 nm
 gi_loopw [0, 3] (fun v0 v3 W => ∃ (m : Nat) (s : List UInt8), m < 9223372036854775808 /\ v0 = .int .i64 m /\ v3 = S s /\ Hid (R = (if m < 10 then [] else Lib.decDigits (m / 10)) ++ s) /\ Below w.heap.size w W) (fun v0 _ _ => (intOf v0).toNat)
 case atStart => exact ⟨n, [dn], h, rfl, rfl, by show _ = _; rw [<- HR.out, <- HDN.out]; exact dec_step n, HB0.out⟩
 case round =>
  obtain ⟨m, s, hm, rfl, rfl, hs, hb⟩ := hrel
  have HB := Lib.hid hb
  have HS := Lib.hid hs.out
  by_cases hlt : m < 10
  ·have hz : ¬ (10 <= (m : Int)) := by omega
   clear hb hs
   gi_wp2_with fail
   go_ret
   have e := HS.out
   rw [if_pos hlt, List.nil_append] at e
   rw [e]
   exact ⟨rfl, HB.out⟩
  ·have hz : 10 <= (m : Int) := by omega
   have c1 := conv1 wr.heap.size (UInt8.ofNat (48 + (m / 10) % 10)) (wr.alloc (.cells #[.int .u8 (48 + ((m / 10 : Nat) : Int) % 10)] 5)) (by rw [(Blk.new wr #[Value.int .u8 (48 + ((m / 10 : Nat) : Int) % 10)] 5).cell 0, dig_byte]; rfl)
   have HB1 : Hid (Below w.heap.size w (wr.alloc (.cells #[.int .u8 (48 + ((m / 10 : Nat) : Int) % 10)] 5))) := HB.out.alloc HB.out.size _
   obtain ⟨q, hq⟩ : ∃ q, m / 10 = q := ⟨_, rfl⟩
   have hqz : (m : Int).tdiv 10 = (q : Int) := by rw [<- hq]; exact Int.ofNat_tdiv m 10 ▸ rfl
   have hqd : (m : Int) / 10 = (q : Int) := by omega
   rw [hq] at c1 HB1
   obtain ⟨dq, hdq⟩ : ∃ c, UInt8.ofNat (48 + q % 10) = c := ⟨_, rfl⟩
   rw [hdq] at c1
   have hsl : s.length <= 20 := by have := congrArg List.length HS.out; rw [List.length_append] at this; omega
   have hnew : R = (if q < 10 then [] else Lib.decDigits (q / 10)) ++ (dq :: s) := by
    have e := HS.out
    rw [if_neg hlt, hq, dec_step q, hdq] at e
    rw [e]; simp
   have HNEW := Lib.hid hnew
   have hqm : q < m := by omega
   clear hb hs hdq hnew hq
   gi_wp2_with fail
   exact ⟨⟨q, dq :: s, by omega, rfl, by show Value.string _ = Value.string _; congr 1, HNEW.out, HB1.out⟩, by simp [intOf]; omega⟩
end Go.Proofs.YtjhibbjafjhhjaaDoor
