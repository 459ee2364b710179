/- Sorting a row of records, alike ones in the order in which they came. -/
import Derived.Test.YtgmbefolgppmdaaGreatDoorKSrtF
namespace Go.Proofs.YtgmbefolgppmdaaGreatDoor
open Go.RowKit Go.Shelf Go.Sort
set_option maxRecDepth 100000
namespace Srt
variable {α : Type} {lt : α -> α -> Bool}
inductive Bk (lt : α -> α -> Bool) (bs : Nat) : List α -> Prop
 | nil : Bk lt bs []
 | cons {B D : List α} : B.length = bs -> Sorted lt B -> Bk lt bs D -> Bk lt bs (B ++ D)
theorem Bk.snoc {bs : Nat} {D B : List α} (h : Bk lt bs D) (hb : B.length = bs) (hs : Sorted lt B) : Bk lt bs (D ++ B) := by
 induction h with
 | nil => have := Bk.cons hb hs (Bk.nil (lt := lt) (bs := bs)); simpa using this
 | cons h1 h2 _ ih => rw [List.append_assoc]; exact .cons h1 h2 ih
theorem Bk.one {bs : Nat} {D : List α} (h : Bk lt bs D) (h0 : 0 < D.length) : ∃ B D', D = B ++ D' /\ B.length = bs /\ Sorted lt B /\ Bk lt bs D' := by
 cases h with
 | nil => simp at h0
 | cons h1 h2 h3 => exact ⟨_, _, rfl, h1, h2, h3⟩
theorem Bk.two {bs : Nat} {D : List α} (h : Bk lt bs D) (h0 : bs < D.length) : ∃ B1 B2 D', D = B1 ++ (B2 ++ D') /\ B1.length = bs /\ B2.length = bs /\ Sorted lt B1 /\ Sorted lt B2 /\ Bk lt bs D' := by
 obtain ⟨B1, D1, rfl, h1, h2, h3⟩ := h.one (by omega)
 obtain ⟨B2, D2, rfl, h4, h5, h6⟩ := h3.one (by rw [List.length_append] at h0; omega)
 exact ⟨B1, B2, D2, rfl, h1, h4, h2, h5, h6⟩
theorem Bk.less {bs : Nat} {D : List α} (h : Bk lt bs D) (_hb : 0 < bs) (h0 : D.length < 2 * bs) : D = [] \/ (D.length = bs /\ Sorted lt D) := by
 rcases D.eq_nil_or_concat with rfl | ⟨_, _, rfl⟩
 ·exact .inl rfl
 ·obtain ⟨B1, D1, e, h1, h2, h3⟩ := h.one (by simp)
  rw [e] at h0 ⊢
  rcases D1.eq_nil_or_concat with rfl | ⟨_, _, rfl⟩
  ·rw [List.append_nil]; exact .inr ⟨h1, h2⟩
  ·obtain ⟨B2, D2, e2, h4, h5, h6⟩ := h3.one (by simp)
   rw [e2] at h0
   simp only [List.length_append] at h0; omega
end Srt
section
variable {α : Type} [Inhabited α] {enc : α -> List Value} {k : Nat} {w0 : World} {blk off : Nat}
theorem symMerge_any {n : Nat} (g : SG enc k w0 blk off n) (aE : ∀ w, (isAgg 31).run Tryz.prog w = .ok true w) (zE : ∀ w, (Go.sizeOf 31).run Tryz.prog w = .ok k w) (hn : n <= 1000000) (cap : Nat)
  (gf : Nat) (eg : ∀ args w, (callFunc gf args).run Tryz.prog w = .ok (.enter gf args) w) (cf : α -> α -> Int) (hC : CmpOk gf enc k cf w0 blk off n) (ho : Srt.Ord (ltC cf)) (N : Nat) : SymOk gf enc k cf w0 blk off n cap N := by
 induction N using Nat.strongRecOn with
 | _ N ih =>
  intro P X Y Q a m b W hN hl ha hm hb hx hy hX hY hs
  by_cases h1 : X.length = 1
  ·obtain ⟨x, rfl⟩ := List.length_eq_one_iff.1 h1
   exact symMerge_one g aE zE hn cap gf eg cf hC ho P x Y Q a m b hl ha (by rw [<- hm]; rfl) hb hY W hs
  ·by_cases h2 : Y.length = 1
   ·obtain ⟨y, rfl⟩ := List.length_eq_one_iff.1 h2
    exact symMerge_last g aE zE hn cap gf eg cf hC ho P X y Q a m b hl ha hm (by rw [<- hb]; rfl) h1 hX W hs
   ·rcases Nat.lt_or_ge ((a + b) / 2) m with hc | hc
    ·exact symMerge_Fa g aE zE hn cap gf eg cf hC ho P X Y Q a m b (ih _ hN) hl ha hm hb (by omega) (by omega) hX hY hc W hs
    ·exact symMerge_Fb g aE zE hn cap gf eg cf hC ho P X Y Q a m b (ih _ hN) hl ha hm hb (by omega) (by omega) hX hY hc W hs
set_option maxHeartbeats 2000000 in
theorem stable_any {n : Nat} (g : SG enc k w0 blk off n) (aE : ∀ w, (isAgg 31).run Tryz.prog w = .ok true w) (zE : ∀ w, (Go.sizeOf 31).run Tryz.prog w = .ok k w) (hn : n <= 1000000) (cap : Nat)
  (gf : Nat) (eg : ∀ args w, (callFunc gf args).run Tryz.prog w = .ok (.enter gf args) w) (cf : α -> α -> Int) (hC : CmpOk gf enc k cf w0 blk off n) (ho : Srt.Ord (ltC cf))
  (l : List α) (hl : l.length = n) (W : World) (hs : SL enc k w0 blk off l W) :
  Calls Tryz.prog 110 #[.slice (some ⟨blk, off, none⟩) n cap, .int .i64 n, .func (.func gf) #[] #[]] W fun e w' => e = .returned (.tuple #[]) /\ SL enc k w0 blk off (Srt.srt (ltC cf) l) w' := by
 have HINS := Lib.hid (@insertion_any α _ enc k w0 blk off n g aE zE hn cap gf eg cf hC ho)
 have HSYM := Lib.hid (fun N => symMerge_any g aE zE hn cap gf eg cf hC ho N)
 have HO := Lib.hid ho
 have hnn : (n : Int) <= 1000000 := by omega
 have HLL := Lib.hid hl
 clear g aE zE hn eg hC ho hl
 go_enter Tryz.func110, Tryz.ntmps110
 go_wp2
 go_loopw [7, 8] (fun va vb wr => ∃ (a b : Nat) (D T : List α), va = .int .i64 a /\ vb = .int .i64 b /\ Hid (b = a + 20 /\ D.length = a /\ Srt.Bk (ltC cf) 20 D /\ a + T.length = n /\ Srt.Alike (ltC cf) (D ++ T) l) /\ SL enc k w0 blk off (D ++ T) wr) (fun va _ _ => n - (intOf va).toNat)
 case atStart => exact ⟨0, 20, [], l, rfl, rfl, ⟨rfl, rfl, .nil, by have := HLL.out; omega, .refl _⟩, hs⟩
 case round =>
  obtain ⟨a, b, D, T, rfl, rfl, HD, hs1⟩ := hrel
  by_cases hlt : b <= n
  ·have hltz : (b : Int) <= (n : Int) := by omega
   have w1 : IntKind.i64.wrap ((b : Int) + 20) = ((b + 20 : Nat) : Int) := by rw [IntWalk.i64_in _ (by omega)]; omega
   obtain ⟨X, hX⟩ : ∃ X, T.take 20 = X := ⟨_, rfl⟩
   obtain ⟨Q, hQ⟩ : ∃ Q, T.drop 20 = Q := ⟨_, rfl⟩
   have HT : Hid (T = X ++ Q /\ X.length = 20 /\ T.length = 20 + Q.length) := by
    have := HD.out
    refine ⟨by rw [<- hX, <- hQ, List.take_append_drop], by rw [<- hX, List.length_take]; omega, by rw [<- hQ, List.length_drop]; omega⟩
   clear hlt hX hQ
   go_wp2_with fail
   refine (HINS.out D X Q a b (by have := HD.out; have h := HT.out; rw [<- h.1]; simp only [List.length_append]; omega) HD.out.2.1 (by have := HD.out; have := HT.out; omega) _ (by rw [<- HT.out.1]; exact hs1)).mono ?_
   rintro e wa ⟨rfl, hs2⟩
   replace hs2 := Lib.hid hs2
   go_wp2_with fail
   refine ⟨⟨b, b + 20, D ++ Srt.srt (ltC cf) X, Q, rfl, rfl, ?_, by have h := hs2.out; simpa using h⟩, ?_⟩
   ·obtain ⟨h1, h2, h3, h4, h5⟩ := HD.out
    obtain ⟨t1, t2, t3⟩ := HT.out
    refine ⟨rfl, by rw [List.length_append, Srt.srt_len]; omega, h3.snoc (by rw [Srt.srt_len]; exact t2) (Srt.srt_st HO.out X).1, by omega, ?_⟩
    rw [List.append_assoc]
    rw [t1] at h5
    exact (Srt.Alike.append (.refl _) (Srt.Alike.append (Srt.srt_st HO.out X).2 (.refl _))).trans h5
   ·have := HD.out; have := HT.out; simp only [intOf, Int.toNat_natCast]; omega
  ·have hltz : ¬ ((b : Int) <= (n : Int)) := by omega
   have HT : Hid (T.length < 20) := by have := HD.out; show T.length < 20; omega
   clear hlt
   go_wp2_with fail
   refine (HINS.out D T [] a n (by have := HD.out; simp only [List.length_append, List.length_nil]; omega) HD.out.2.1 (by have := HD.out; omega) _ (by simpa using hs1)).mono ?_
   rintro e wa ⟨rfl, hs2⟩
   have hs3 : SL enc k w0 blk off (D ++ Srt.srt (ltC cf) T) wa := by simpa using hs2
   clear hs1 hs2
   go_wp2_with fail
   go_loopw [6] (fun vs wr => ∃ (bs : Nat) (D T : List α), vs = .int .i64 bs /\ Hid (20 <= bs /\ Srt.Bk (ltC cf) bs D /\ T.length < bs /\ Srt.Sorted (ltC cf) T /\ D.length + T.length = n /\ Srt.Alike (ltC cf) (D ++ T) l) /\ SL enc k w0 blk off (D ++ T) wr) (fun vs _ => n - (intOf vs).toNat)
   case atStart =>
    refine ⟨20, D, Srt.srt (ltC cf) T, rfl, ?_, hs3⟩
    obtain ⟨h1, h2, h3, h4, h5⟩ := HD.out
    have := HT.out
    refine ⟨Nat.le_refl _, h3, by rw [Srt.srt_len]; exact this, (Srt.srt_st HO.out T).1, by rw [Srt.srt_len]; omega, ?_⟩
    exact (Srt.Alike.append (.refl _) (Srt.srt_st HO.out T).2).trans h5
   case round =>
    clear hs3 HD HT
    obtain ⟨bs, D, T, rfl, HD, hs1⟩ := hrel
    by_cases hlt : bs < n
    ·have hltz : (bs : Int) < (n : Int) := by omega
     obtain ⟨b2, hb2⟩ : ∃ b2, b2 = 2 * bs := ⟨_, rfl⟩
     have w1 : IntKind.i64.wrap (2 * (bs : Int)) = (b2 : Int) := by rw [IntWalk.i64_in _ (by omega)]; omega
     have w2 : IntKind.i64.wrap ((bs : Int) * 2) = (b2 : Int) := by rw [IntWalk.i64_in _ (by omega)]; omega
     have HB := Lib.hid (And.intro hb2 hlt)
     clear hb2 hlt
     go_wp2
     go_loopw [7, 8] (fun va vb wr => ∃ (a b : Nat) (E D : List α), va = .int .i64 a /\ vb = .int .i64 b /\ Hid (b = a + b2 /\ E.length = a /\ Srt.Bk (ltC cf) b2 E /\ Srt.Bk (ltC cf) bs D /\ a + D.length + T.length = n /\ Srt.Alike (ltC cf) (E ++ (D ++ T)) l) /\ SL enc k w0 blk off (E ++ (D ++ T)) wr) (fun va _ _ => n - (intOf va).toNat)
     case atStart =>
      have h := HD.out
      exact ⟨0, b2, [], D, rfl, rfl, ⟨by omega, rfl, .nil, h.2.1, by omega, h.2.2.2.2.2⟩, hs1⟩
     case round =>
      clear hs1
      obtain ⟨a, b, E, D, rfl, rfl, HE, hs1⟩ := hrel
      have HD' : Hid (20 <= bs /\ T.length < bs /\ Srt.Sorted (ltC cf) T) := ⟨HD.out.1, HD.out.2.2.1, HD.out.2.2.2.1⟩
      clear HD
      have w3 : IntKind.i64.wrap ((a : Int) + bs) = ((a + bs : Nat) : Int) := by have := HE.out; rw [IntWalk.i64_in _ (by omega)]; omega
      by_cases hlt : b <= n
      ·have hltz : (b : Int) <= (n : Int) := by omega
       obtain ⟨m, hm⟩ : ∃ m, m = a + bs := ⟨_, rfl⟩
       rw [<- hm] at w3
       obtain ⟨bb, hbb⟩ : ∃ bb, bb = b + b2 := ⟨_, rfl⟩
       have w4 : IntKind.i64.wrap ((b : Int) + b2) = (bb : Int) := by have := HE.out; have := HB.out; rw [IntWalk.i64_in _ (by omega)]; omega
       have htwo := HE.out.2.2.2.1.two (by have := HE.out; have := HB.out; have := HD'.out; omega)
       obtain ⟨B1, B2, D', hD, l1, l2, s1, s2, hbk⟩ := htwo
       subst hD
       have HQ := Lib.hid (And.intro hm (And.intro hbb (And.intro l1 (And.intro l2 (And.intro s1 (And.intro s2 hbk))))))
       clear hlt hm hbb l1 l2 s1 s2 hbk
       go_wp2_with fail
       refine (HSYM.out (n + 1) E B1 B2 (D' ++ T) a m b _ (by have := HE.out; have := HQ.out; simp only [List.length_append] at *; omega) (by have := HE.out; simp only [List.length_append] at *; omega) HE.out.2.1 (by have := HQ.out; omega) (by have := HQ.out; have := HE.out; have := HB.out; omega) (by have := HQ.out; have := HD'.out; omega) (by have := HQ.out; have := HD'.out; omega) HQ.out.2.2.2.2.1 HQ.out.2.2.2.2.2.1 (by simpa using hs1)).mono ?_
       rintro e wb ⟨rfl, Z, hz, hs2⟩
       replace hs2 := Lib.hid hs2
       have HZ := Lib.hid hz
       clear hz
       go_wp2_with fail
       refine ⟨⟨b, bb, E ++ Z, D', rfl, rfl, ?_, by have h := hs2.out; simpa using h⟩, ?_⟩
       ·obtain ⟨h1, h2, h3, h4, h5, h6⟩ := HE.out
        obtain ⟨q1, q2, q3, q4, q5, q6, q7⟩ := HQ.out
        have hzl := HZ.out.len HO.out
        have hb := HB.out.1
        simp only [List.length_append] at hzl h5
        refine ⟨q2, by rw [List.length_append]; omega, h3.snoc (by omega) HZ.out.1, q7, by omega, ?_⟩
        rw [List.append_assoc]
        refine (Srt.Alike.append (.refl _) (Srt.Alike.append HZ.out.2 (.refl _))).trans ?_
        simpa using h6
       ·have := HE.out; have := HB.out; have := HD'.out; simp only [intOf, Int.toNat_natCast]; omega
      ·have hltz : ¬ ((b : Int) <= (n : Int)) := by omega
       have hless := HE.out.2.2.2.1.less (by have := HD'.out; omega) (by have := HE.out; have := HB.out; omega)
       obtain ⟨m, hm⟩ : ∃ m, m = a + bs := ⟨_, rfl⟩
       rw [<- hm] at w3
       by_cases hmn : m < n
       ·have hmz : (m : Int) < n := by omega
        have HQ : Hid (m = a + bs /\ D.length = bs /\ Srt.Sorted (ltC cf) D /\ 0 < T.length) := by
         have := HE.out; have := HD'.out
         rcases hless with rfl | ⟨h1, h2⟩
         ·simp only [List.length_nil] at *; omega
         ·exact ⟨hm, h1, h2, by omega⟩
        clear hlt hm hmn hless
        go_wp2_with fail
        refine (HSYM.out (n + 1) E D T [] a m n _ (by have := HE.out; omega) (by have := HE.out; simp only [List.length_append, List.length_nil] at *; omega) HE.out.2.1 (by have := HQ.out; omega) (by have := HQ.out; have := HE.out; omega) (by have := HQ.out; have := HD'.out; omega) (by have := HQ.out; omega) HQ.out.2.2.1 HD'.out.2.2 (by simpa using hs1)).mono ?_
        rintro e wb ⟨rfl, Z, hz, hs2⟩
        replace hs2 := Lib.hid hs2
        have HZ := Lib.hid hz
        clear hz
        go_wp2_with fail
        refine ⟨⟨b2, E, Z, rfl, ?_, by have h := hs2.out; simpa using h⟩, ?_⟩
        ·obtain ⟨h1, h2, h3, h4, h5, h6⟩ := HE.out
         have hzl := HZ.out.len HO.out
         have hb := HB.out.1
         have hd := HD'.out
         have hq := HQ.out
         simp only [List.length_append] at hzl
         refine ⟨by omega, h3, by omega, HZ.out.1, by omega, ?_⟩
         exact (Srt.Alike.append (.refl _) HZ.out.2).trans h6
        ·have := HB.out; have := HD'.out; simp only [intOf, Int.toNat_natCast]; omega
       ·have hmz : ¬ ((m : Int) < n) := by omega
        have HQ : Hid (Srt.Sorted (ltC cf) (D ++ T) /\ D.length + T.length <= bs) := by
         have := HE.out; have hd := HD'.out
         rcases hless with rfl | ⟨h1, h2⟩
         ·exact ⟨by simpa using hd.2.2, by simp only [List.length_nil]; omega⟩
         ·have h0 : T = [] := List.length_eq_zero_iff.1 (by omega)
          rw [h0, List.append_nil]; exact ⟨h2, by simp only [List.length_nil]; omega⟩
        clear hlt hm hmn hless
        replace hs1 := Lib.hid hs1
        go_wp2_with fail
        refine ⟨⟨b2, E, D ++ T, rfl, ?_, hs1.out⟩, ?_⟩
        ·obtain ⟨h1, h2, h3, h4, h5, h6⟩ := HE.out
         have hb := HB.out.1
         have hd := HD'.out
         have hq := HQ.out
         refine ⟨by omega, h3, by rw [List.length_append]; omega, hq.1, by rw [List.length_append]; omega, h6⟩
        ·have := HB.out; have := HD'.out; simp only [intOf, Int.toNat_natCast]; omega
    ·have hltz : ¬ ((bs : Int) < (n : Int)) := by omega
     have HR : Hid (D ++ T = Srt.srt (ltC cf) l) := by
      obtain ⟨h1, h2, h3, h4, h5, h6⟩ := HD.out
      refine Srt.St.eq_srt HO.out ⟨?_, h6⟩
      rcases h2.less (by omega) (by omega) with rfl | ⟨e1, e2⟩
      ·simpa using h4
      ·have h0 : T = [] := List.length_eq_zero_iff.1 (by omega)
       rw [h0, List.append_nil]; exact e2
     have HS := Lib.hid hs1
     clear hs1 hlt
     go_wp2
     go_end0
     exact ⟨rfl, by rw [<- HR.out]; exact HS.out⟩
set_option maxHeartbeats 1000000 in
theorem sortStable_any {n : Nat} (g : SG enc k w0 blk off n) (aE : ∀ w, (isAgg 31).run Tryz.prog w = .ok true w) (zE : ∀ w, (Go.sizeOf 31).run Tryz.prog w = .ok k w) (hn : n <= 1000000) (cap : Nat)
  (gf : Nat) (eg : ∀ args w, (callFunc gf args).run Tryz.prog w = .ok (.enter gf args) w) (cf : α -> α -> Int) (hC : CmpOk gf enc k cf w0 blk off n) (ho : Srt.Ord (ltC cf))
  (l : List α) (hl : l.length = n) (W : World) (hs : SL enc k w0 blk off l W) :
  Calls Tryz.prog 78 #[.slice (some ⟨blk, off, none⟩) n cap, .func (.func gf) #[] #[]] W fun e w' => e = .returned (.tuple #[]) /\ SL enc k w0 blk off (Srt.srt (ltC cf) l) w' := by
 have HC := Lib.hid (stable_any g aE zE hn cap gf eg cf hC ho l hl W hs)
 clear hC hs aE zE eg g
 go_enter Tryz.func78, Tryz.ntmps78
 go_wp2_with fail
 refine HC.out.mono ?_
 rintro e wa ⟨rfl, hs2⟩
 have HS := Lib.hid hs2
 clear hs2
 go_wp2_with fail
 go_end0
 exact ⟨rfl, HS.out⟩
end
end Go.Proofs.YtgmbefolgppmdaaGreatDoor
