/- Sorting a row of records: one by one. -/
import Derived.Test.YtgmbefolgppmdaaGreatDoorKSrtW
namespace Go.Proofs.YtgmbefolgppmdaaGreatDoor
open Go.RowKit Go.Shelf Go.Sort
set_option maxRecDepth 100000
section
variable {α : Type} [Inhabited α] {enc : α -> List Value} {k : Nat} {w0 : World} {blk off : Nat}
def ltC (cf : α -> α -> Int) (x y : α) : Bool := decide (cf x y < 0)
def CmpOk (gf : Nat) (enc : α -> List Value) (k : Nat) (cf : α -> α -> Int) (w0 : World) (blk off n : Nat) : Prop :=
 ∀ (W : World) (l : List α), SL enc k w0 blk off l W -> l.length = n -> ∀ x y : α, Calls Tryz.prog gf #[.agg (enc x).toArray, .agg (enc y).toArray] W fun e w' => e = .returned (.int .i64 (cf x y)) /\ Below W.heap.size W w'
structure InSL (enc : α -> List Value) (k : Nat) (w0 : World) (blk off : Nat) (l : List α) where
 W : World
 h : SL enc k w0 blk off l W
theorem wp_region_sl {P : Program} {id : Nat} {Q : Exit -> Act -> World -> Prop} {a : Act} {w : World} {ops : List Oper} {l : List α} (hm : P.follows .mixedOrders = true) (hB : Region.lexB .any ops.toArray = true) (hs : SL enc k w0 blk off l w)
  (h : wpQuiet P ops.toArray (fun w' => ∃ p : InSL enc k w0 blk off l, w' = p.W) (fun a' => ∀ w', (∃ p : InSL enc k w0 blk off l, w' = p.W) -> Q .normal a' w') ops a) : (Code.region id ops.toArray true).wp P Q a w :=
 wp_region_quiet (C := fun w' => ∃ p : InSL enc k w0 blk off l, w' = p.W) hm hB ⟨⟨w.drew, hs.drew⟩, rfl⟩ (by simpa using h)
theorem CmpOk.quiet {gf : Nat} {cf : α -> α -> Int} {n : Nat} (h : CmpOk gf enc k cf w0 blk off n) {l : List α} (hl : l.length = n) (x y : α) (p : InSL enc k w0 blk off l) :
  Calls Tryz.prog gf #[.agg (enc x).toArray, .agg (enc y).toArray] p.W fun e w' => e = .returned (.int .i64 (cf x y)) /\ ∃ p' : InSL enc k w0 blk off l, w' = p'.W :=
 (h p.W l p.h hl x y).mono fun _ w' ⟨he, hb⟩ => ⟨he, ⟨w', p.h.below hb⟩, rfl⟩
set_option maxHeartbeats 400000 in
theorem insertion_any {n : Nat} (g : SG enc k w0 blk off n) (aE : ∀ w, (isAgg 31).run Tryz.prog w = .ok true w) (zE : ∀ w, (Go.sizeOf 31).run Tryz.prog w = .ok k w) (hn : n <= 1000000) (cap : Nat)
  (gf : Nat) (eg : ∀ args w, (callFunc gf args).run Tryz.prog w = .ok (.enter gf args) w) (cf : α -> α -> Int) (hC : CmpOk gf enc k cf w0 blk off n) (ho : Srt.Ord (ltC cf))
  (P X Q : List α) (a b : Nat) (hl : (P ++ (X ++ Q)).length = n) (ha : P.length = a) (hb : P.length + X.length = b)
  (W : World) (hs : SL enc k w0 blk off (P ++ (X ++ Q)) W) :
  Calls Tryz.prog 124 #[.slice (some ⟨blk, off, none⟩) n cap, .int .i64 a, .int .i64 b, .func (.func gf) #[] #[]] W fun e w' => e = .returned (.tuple #[]) /\ SL enc k w0 blk off (P ++ (Srt.srt (ltC cf) X ++ Q)) w' := by
 have mixed : Tryz.prog.follows .mixedOrders = true := by kernel_rfl
 have HG := Lib.hid g
 have HO := Lib.hid ho
 have HCC := Lib.hid hC
 have HA := Lib.hid (And.intro ha hb)
 have HL := Lib.hid hl
 have hbn : (b : Int) <= n := by simp only [List.length_append] at hl; omega
 have hab : (a : Int) <= b := by omega
 have hnn : (n : Int) <= 1000000 := by omega
 have w1 : IntKind.i64.wrap ((a : Int) + 1) = ((a + 1 : Nat) : Int) := by rw [IntWalk.i64_in _ (by omega)]; omega
 clear g ho hC ha hb hl hn
 go_enter Tryz.func124, Tryz.ntmps124
 go_wp2
 go_loopw [8] (fun vi wr => ∃ (i : Nat) (X1 X2 : List α), vi = .int .i64 i /\ Hid (X = X1 ++ X2 /\ (i = a + X1.length \/ X = [] /\ i = a + 1)) /\ SL enc k w0 blk off (P ++ (Srt.srt (ltC cf) X1 ++ (X2 ++ Q))) wr) (fun vi _ => b + 1 - (intOf vi).toNat)
 case atStart =>
  rcases X with _ | ⟨x, X⟩
  ·exact ⟨a + 1, [], [], by go_num, Lib.hid ⟨rfl, .inr ⟨rfl, rfl⟩⟩, hs⟩
  ·exact ⟨a + 1, [x], X, by go_num, Lib.hid ⟨rfl, .inl rfl⟩, hs⟩
 case round =>
  obtain ⟨i, X1, X2, rfl, HX, hs1⟩ := hrel
  by_cases hlt : i < b
  ·have hltz : (i : Int) < (b : Int) := by omega
   obtain ⟨x, X2', h2⟩ : ∃ x X2', X2 = x :: X2' := by
    rcases X2 with _ | ⟨x, X2⟩
    ·exfalso
     have h1 := HA.out; have h3 := HX.out
     rcases h3 with ⟨h3, h4 | ⟨h4, h5⟩⟩
     ·have := congrArg List.length h3; simp only [List.length_append, List.length_nil] at this; omega
     ·rw [h4] at h1; simp only [List.length_nil] at h1; omega
    ·exact ⟨x, X2, rfl⟩
   subst h2
   have HI : Hid (i = a + X1.length /\ X = X1 ++ x :: X2') := by
    have h1 := HA.out; have h3 := HX.out
    rcases h3 with ⟨h3, h4 | ⟨h4, h5⟩⟩
    ·exact ⟨h4, h3⟩
    ·rw [h4] at h1; simp only [List.length_nil] at h1; omega
   have w2 : IntKind.i64.wrap ((i : Int) + 1) = ((i + 1 : Nat) : Int) := by rw [IntWalk.i64_in _ (by omega)]; omega
   have hil : (i : Int) + 1 <= n := by omega
   clear hlt HX
   go_wp2
   go_loopw [9] (fun vj wr2 => ∃ (j : Nat) (A B : List α), vj = .int .i64 j /\ Hid (Srt.srt (ltC cf) X1 = A ++ B /\ (∀ y ∈ B, ltC cf x y = true) /\ j = a + A.length) /\ SL enc k w0 blk off (P ++ (A ++ x :: (B ++ (X2' ++ Q)))) wr2) (fun vj _ => (intOf vj).toNat)
   case atStart => exact ⟨i, Srt.srt (ltC cf) X1, [], rfl, Lib.hid ⟨by simp, by simp, by rw [Srt.srt_len]; exact HI.out.1⟩, by simpa using hs1⟩
   case round =>
    obtain ⟨j, A, B, rfl, HB, hs2⟩ := hrel
    rcases List.eq_nil_or_concat A with rfl | ⟨A, y, rfl⟩
    ·have hja : ¬ ((a : Int) < (j : Int)) := by have := HB.out.2.2; simp at this; omega
     have HR : Hid (Srt.srt (ltC cf) (X1 ++ [x]) = x :: B) := by
      have := HB.out
      show _ = _
      rw [Srt.srt_snoc, this.1, List.nil_append, Srt.ins_all this.2.1]
     obtain ⟨L, hL⟩ : ∃ L, P ++ ([] ++ x :: (B ++ (X2' ++ Q))) = L := ⟨_, rfl⟩
     rw [hL] at hs2
     have HL' := Lib.hid hL
     clear hs1 hL
     haveI : Nonempty (InSL enc k w0 blk off L) := ⟨⟨_, hs2⟩⟩
     go_wp2_with fail
     have hjn : decide (a < j) = false := decide_eq_false (by have := HB.out.2.2; simp at this; omega)
     go_big_region_o
     all_goals go_wp2
     have hs3 := hs2.drew
     refine ⟨⟨i + 1, X1 ++ [x], X2', by go_num, ?_, ?_⟩, ?_⟩
     ·have := HI.out
      exact ⟨by rw [this.2]; simp, .inl (by rw [this.1]; simp; omega)⟩
     ·rw [HR.out]; have := hs3; rw [<- HL'.out] at this; simpa using this
     ·simp only [intOf]; omega
    ·rw [List.concat_eq_append] at HB hs2
     obtain ⟨jp, hjp⟩ : ∃ jp, jp = (P ++ A).length := ⟨_, rfl⟩
     have hj : j = jp + 1 := by
      have h1 := HB.out.2.2; have h2 := HA.out.1
      simp only [List.length_append, List.length_cons, List.length_nil] at h1 hjp; omega
     obtain ⟨L, hL⟩ : ∃ L, (P ++ A) ++ y :: ([] ++ x :: (B ++ (X2' ++ Q))) = L := ⟨_, rfl⟩
     have hs3 : SL enc k w0 blk off L wr := by rw [<- hL]; simpa using hs2
     have hLl : L.length = n := by
      rw [<- hL, <- HL.out]
      have h1 := congrArg List.length HB.out.1
      rw [Srt.srt_len] at h1
      rw [HI.out.2]
      simp only [List.length_append, List.length_cons, List.length_nil] at h1 ⊢; omega
     have hjl : jp + 1 < L.length := by
      rw [<- hL, hjp]; simp only [List.length_append, List.length_cons, List.length_nil]; omega
     have ex : L[jp + 1]'hjl = x := by
      have h0 : L = ((P ++ A) ++ [y]) ++ x :: (B ++ (X2' ++ Q)) := by rw [<- hL]; simp
      have h1 : jp + 1 = ((P ++ A) ++ [y]).length := by rw [hjp]; simp only [List.length_append, List.length_cons, List.length_nil]
      simp only [h0, h1]; simp
     have ey : L[jp]'(by omega) = y := by
      simp only [<- hL, hjp]; simp
     have hjn : decide (a < j) = true := decide_eq_true (by have h1 := HB.out.2.2; simp only [List.length_append, List.length_cons, List.length_nil] at h1; omega)
     have hjn' : decide ((a : Int) < (j : Int)) = true := decide_eq_true (by have := of_decide_eq_true hjn; omega)
     have w3 : IntKind.i64.wrap ((j : Int) - 1) = (jp : Int) := by rw [IntWalk.i64_in _ (by omega)]; omega
     have jz : (j : Int) < n := by omega
     have jz1 : (jp : Int) < n := by omega
     have lx : ∀ p : InSL enc k w0 blk off L, Sem.run Tryz.prog (loadCellsFrom ⟨blk, off + j * k, none⟩ 0 k #[]) p.W = .ok (enc x).toArray p.W := fun p => by
      have := p.h.load HG.out hLl Tryz.prog (jp + 1) hjl
      rw [ex, <- hj] at this; exact this
     have ly : ∀ p : InSL enc k w0 blk off L, Sem.run Tryz.prog (loadCellsFrom ⟨blk, off + jp * k, none⟩ 0 k #[]) p.W = .ok (enc y).toArray p.W := fun p => by
      have := p.h.load HG.out hLl Tryz.prog jp (by omega)
      rw [ey] at this; exact this
     have HCQ := Lib.hid (fun p => HCC.out.quiet hLl x y p)
     haveI : Nonempty (InSL enc k w0 blk off L) := ⟨⟨_, hs3⟩⟩
     have HJ := Lib.hid (And.intro hj (And.intro hjl hjp))
     have HL2 := Lib.hid hL
     have HLN := Lib.hid hLl
     clear hs1 hs2 hj ex ey hjl hjp hL hLl
     by_cases hlv : cf x y < 0
     ·go_wp2_with fail
      refine wp_region_sl mixed (by kernel_rfl) hs3 ?_
      repeat (quiet_step (first | (go_at_fn gf; exact HCQ.out _)))
      refine wpQuiet_nil ?_
      rintro wq ⟨p, rfl⟩
      go_wp2_with fail
      obtain ⟨wq, hq⟩ := p
      show Code.wp _ _ _ _ wq
      have lx1 : Sem.run Tryz.prog (loadCellsFrom ⟨blk, off + j * k, none⟩ 0 k #[]) wq.drew = .ok (enc x).toArray wq.drew := lx ⟨wq.drew, hq.drew⟩
      have ly1 : Sem.run Tryz.prog (loadCellsFrom ⟨blk, off + jp * k, none⟩ 0 k #[]) wq.drew = .ok (enc y).toArray wq.drew := ly ⟨wq.drew, hq.drew⟩
      have s1 := hq.st1 HG.out HLN.out Tryz.prog j (by have := HJ.out; omega) y
      have s2 := hq.st2 HG.out HLN.out Tryz.prog j jp (by have := HJ.out; omega) (by have := HJ.out; omega) y x
      have HS : Hid (SL enc k w0 blk off (P ++ (A ++ x :: ((y :: B) ++ (X2' ++ Q)))) ((wq.drew.setCells blk (off + j * k) (enc y)).setCells blk (off + jp * k) (enc x))) := by
       have h1 := HJ.out
       rw [<- HL2.out] at hq
       have := hq.swapped' HG.out
       rw [show (P ++ A).length + 1 + ([] : List α).length = j by simp only [List.length_nil]; omega, <- h1.2.2] at this
       show SL _ _ _ _ _ _ _
       have e : (P ++ A) ++ x :: ([] ++ y :: (B ++ (X2' ++ Q))) = P ++ (A ++ x :: ((y :: B) ++ (X2' ++ Q))) := by simp
       rwa [<- e]
      have kx : (enc x).length = k := HG.out.hk x
      have ky : (enc y).length = k := HG.out.hk y
      clear lx ly hs3 hq
      obtain ⟨cx, hcx⟩ : ∃ cx, cx = enc x := ⟨_, rfl⟩
      obtain ⟨cy, hcy⟩ : ∃ cy, cy = enc y := ⟨_, rfl⟩
      rw [<- hcx] at lx1 s2 kx
      rw [<- hcy] at ly1 s1 s2 ky
      rw [<- hcx, <- hcy] at HS
      have HLV := Lib.hid hlv
      clear hcx hcy HCQ hlv
      go_big_region_o
      all_goals go_wp2
      refine ⟨⟨jp, A, y :: B, rfl, ?_, by simpa using HS.out⟩, ?_⟩
      ·have h1 := HB.out
       have h2 := HJ.out
       refine ⟨by rw [h1.1]; simp, fun z hz => ?_, by have := h1.2.2; simp only [List.length_append, List.length_cons, List.length_nil] at this; omega⟩
       rcases List.mem_cons.1 hz with rfl | hz
       ·exact decide_eq_true HLV.out
       ·exact h1.2.1 _ hz
      ·have := HJ.out.1; simp only [intOf, Int.toNat_natCast]; omega
     ·go_wp2_with fail
      refine wp_region_sl mixed (by kernel_rfl) hs3 ?_
      repeat (quiet_step (first | (go_at_fn gf; exact HCQ.out _)))
      refine wpQuiet_nil ?_
      rintro wq ⟨p, rfl⟩
      have HLV := Lib.hid hlv
      go_wp2
      refine ⟨⟨i + 1, X1 ++ [x], X2', by go_num, ?_, ?_⟩, ?_⟩
      ·have := HI.out
       exact ⟨by rw [this.2]; simp, .inl (by rw [this.1]; simp; omega)⟩
      ·have h1 := HB.out
       have hst : Srt.Sorted (ltC cf) (A ++ y :: B) := by
        have := (Srt.srt_st HO.out X1).1
        rw [h1.1] at this; simpa using this
       have : Srt.srt (ltC cf) (X1 ++ [x]) = A ++ y :: x :: B := by
        rw [Srt.srt_snoc, h1.1, List.append_assoc]
        exact Srt.ins_stop HO.out hst (decide_eq_false (Int.not_lt.2 HLV.out)) h1.2.1
       rw [this]
       obtain ⟨wq, hq⟩ := p
       show SL _ _ _ _ _ _ wq
       rw [<- HL2.out] at hq; simpa using hq
      ·simp only [intOf]; omega
  ·have hltz : ¬ ((i : Int) < (b : Int)) := by omega
   have HE : Hid (X2 = [] /\ X = X1) := by
    have h1 := HA.out; have h3 := HX.out
    have h4 : X2 = [] := by
     rcases h3 with ⟨h3, h4 | ⟨h4, h5⟩⟩
     ·have := congrArg List.length h3; simp only [List.length_append] at this; exact List.length_eq_zero_iff.1 (by omega)
     ·rw [h4] at h3; exact (List.append_eq_nil_iff.1 h3.symm).2
    exact ⟨h4, by rw [h3.1, h4, List.append_nil]⟩
   have HS := Lib.hid hs1
   clear hs1 hlt
   go_wp2
   go_end0
   refine ⟨rfl, ?_⟩
   have := HS.out
   rw [HE.out.1] at this
   rw [HE.out.2]; simpa using this
end
end Go.Proofs.YtgmbefolgppmdaaGreatDoor
