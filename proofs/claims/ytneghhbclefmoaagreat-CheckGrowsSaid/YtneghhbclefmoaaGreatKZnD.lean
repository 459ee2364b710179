/- Zones: has a name a type; is a name there; from the origin down. -/
import Derived.Test.YtneghhbclefmoaaGreatKZnA
import Derived.Test.YtneghhbclefmoaaGreatKZnL
namespace Go.Proofs.YtneghhbclefmoaaGreat
open Go.RowKit Go.Shelf Go.Sort
set_option maxRecDepth 100000
def Blk (b : Nat) (cs : Array Value) (t : TypeId) (W : World) : Prop := W.heap[b]? = some (.cells cs t (0, 0))
theorem Blk.lt {b cs t W} (h : Blk b cs t W) : b < W.heap.size := (Array.getElem?_eq_some_iff.1 h).1
theorem Blk.below {b cs t} {W W' : World} (h : Blk b cs t W) (hb : Below W.heap.size W W') : Blk b cs t W' := (hb.block b h.lt).trans h
theorem Blk.new (W : World) (cs : Array Value) (t : TypeId) : Blk W.heap.size cs t (W.alloc (.cells cs t)) := World.alloc_heap_new W _
theorem Blk.alloc {b cs t W} (h : Blk b cs t W) (o : Obj) : Blk b cs t (W.alloc o) := (Below.heap_alloc W o b h.lt).trans h
theorem Blk.cell {b cs t W} (h : Blk b cs t W) (i : Nat) : W.cell? ⟨b, i, none⟩ = cs[i]? := by rw [cell_of_row W b i _ _ _ h]
theorem Blk.frozen {b cs t W} (h : Blk b cs t W) (i : Nat) : W.frozen? ⟨b, i, none⟩ = false := by unfold Blk at h; simp [World.frozen?, h]
theorem eg_hasCb (args : Array Value) (w : World) : (callFunc 105 args).run Tryz.prog w = .ok (.enter 105 args) w := by simp [go_sem]
set_option maxHeartbeats 1000000 in
theorem zHas_any {w w0 : World} (zo vr vn : Value) (l : List (El w)) (n : List (List UInt8)) (t : Int) (hb0 : Below w.heap.size w w0) (hv : RecsRd vr (l.map (·.1)) w0) (na : l.length <= 1000) (hn : Rd vn n w0) (nn : NB n) :
  Calls Tryz.prog 53 #[.agg #[zo, vr], vn, .int .i64 t] w0 (Gives (.bool (Zn.has (plE l) n t)) w0) := by
 obtain ⟨on, cn, rfl, _, _⟩ := hn.form
 obtain ⟨ov, cv, rfl⟩ : ∃ o cap, vr = .slice o l.length cap := by obtain ⟨_, o, cap, h, _⟩ := hv; exact ⟨o, cap, by rw [h, List.length_map]⟩
 obtain ⟨W3, hW3⟩ : ∃ W3, ((w0.alloc (.cells #[zo, .slice ov l.length cv] 29)).alloc (.cells #[.slice on n.length cn] 23)).alloc (.cells #[.int .i64 t] 3) = W3 := ⟨_, rfl⟩
 have hbW : Below w0.heap.size w0 W3 := by
  subst hW3; exact (((Below.refl _ _).alloc (Nat.le_refl _) _).alloc (by simp) _).alloc (by simp; omega) _
 have b0 : Blk w0.heap.size #[zo, .slice ov l.length cv] 29 W3 := by
  subst hW3; exact ((Blk.new w0 _ _).alloc _).alloc _
 have b1 : Blk (w0.heap.size + 1) #[.slice on n.length cn] 23 W3 := by
  subst hW3
  have := (Blk.new (w0.alloc (.cells #[zo, .slice ov l.length cv] 29)) #[.slice on n.length cn] 23).alloc (.cells #[.int .i64 t] 3)
  rwa [World.size_alloc] at this
 have b2 : Blk (w0.heap.size + 1 + 1) #[.int .i64 t] 3 W3 := by
  subst hW3
  have := Blk.new ((w0.alloc (.cells #[zo, .slice ov l.length cv] 29)).alloc (.cells #[.slice on n.length cn] 23)) #[.int .i64 t] 3
  rwa [World.size_alloc, World.size_alloc] at this
 have HC := Lib.hid (containsRec_any (w0 := W3) (.slice ov l.length cv) l (fun r => (r.type == t) && Nm.same r.owner n) 105 #[.pointer (some ⟨w0.heap.size + 1 + 1, 0, none⟩), .pointer (some ⟨w0.heap.size + 1, 0, none⟩)] eg_hasCb (below5 hb0 hbW) (hv.kept hbW) na
  (fun wr hwr x _ => hasCb_any x ⟨w0.heap.size + 1 + 1, 0, none⟩ ⟨w0.heap.size + 1, 0, none⟩ t _ n wr (below5 (below5 hb0 hbW) hwr) ((b2.below hwr).cell 0) ((b1.below hwr).cell 0) ((hn.below hbW).below hwr) nn))
 have HB := Lib.hid hbW
 have c1 : W3.cell? ⟨w0.heap.size, 1, none⟩ = some _ := b0.cell 1
 clear hv hn nn hb0 hbW b1 b2
 go_enter Tryz.func53, Tryz.ntmps53
 go_wp2_with fail
 refine HC.out.mono ?_
 rintro e w1 ⟨rfl, b1⟩
 go_wp2_with fail
 go_ret
 exact ⟨rfl, below5 HB.out b1⟩
def keepS (S : Nat -> Prop) (A B : World) : Prop := ∀ p : Addr, S p.block -> B.cell? p = A.cell? p
theorem keepS.refl (S : Nat -> Prop) (A : World) : keepS S A A := fun _ _ => rfl
theorem keepS.trans {S : Nat -> Prop} {A B C : World} (h : keepS S A B) (k : keepS S B C) : keepS S A C := fun p hp => (k p hp).trans (h p hp)
theorem keepS.put {S : Nat -> Prop} {L : Nat} (hL : ¬ S L) (A : World) (o : Obj) : keepS S A (A.putObj L o) := fun p hp => World.cell?_of_block (World.putObj_heap_other (fun e => hL (by rw [<- e]; exact hp)))
theorem keepS.of_below {S : Nat -> Prop} {K0 : Nat} {A B : World} (h : Below K0 A B) (hS : ∀ b, S b -> b < K0) : keepS S A B := fun p hp => World.cell?_of_block (h.block p.block (hS _ hp))
theorem keepS.set {S : Nat -> Prop} {b o : Nat} (hb : ¬ S b) (A : World) (u : Value) : keepS S A (A.setCell ⟨b, o, none⟩ u) := fun p hp => World.cell?_of_block (Below.heap_setCell _ _ _ _ (fun e => hb (by have e : p.block = b := e; rw [<- e]; exact hp)))
abbrev keepB (K0 : Nat) (A B : World) : Prop := keepS (fun b => b < K0) A B
theorem keepB.refl (K0 : Nat) (A : World) : keepB K0 A A := fun _ _ => rfl
theorem keepB.trans {K0 : Nat} {A B C : World} (h : keepB K0 A B) (k : keepB K0 B C) : keepB K0 A C := fun p hp => (k p hp).trans (h p hp)
theorem keepB.put {K0 L : Nat} (hL : K0 <= L) (A : World) (o : Obj) : keepB K0 A (A.putObj L o) := fun p hp => World.cell?_of_block (World.putObj_heap_other (fun e => by have : p.block < K0 := hp; omega))
theorem keepB.of_below {K0 : Nat} {A B : World} (h : Below K0 A B) : keepB K0 A B := fun p hp => World.cell?_of_block (h.block p.block hp)
theorem keepB.mono {K0 K1 : Nat} {A B : World} (h : keepB K1 A B) (hk : K0 <= K1) : keepB K0 A B := fun p hp => h p (Nat.lt_of_lt_of_le hp hk)
theorem Rd.keepB {v l} {ws W : World} (h : Rd v l ws) (hk : keepB ws.heap.size ws W) : Rd v l W := h.kept fun p hp => hk p hp
def dnY (ws : World) (n : List (List UInt8)) (k : Nat) (_ : World) (v : Array Value) (k' : Nat) : Prop := k = k' + 1 /\ k' <= n.length /\ ∃ o c, v = #[.slice o (n.length - k') c] /\ Rd (.slice o (n.length - k') c) (n.drop k') ws
set_option maxHeartbeats 1000000 in
theorem down1_iter (Sk : Nat -> Prop) (wn ws : World) (bn bz : Nat) (hsn : Sk bn) (hsz : Sk bz) (on oo : Option Addr) (cn co : Nat) (n o : List (List UInt8)) (hcn : ws.cell? ⟨bn, 0, none⟩ = some (.slice on n.length cn)) (hcz : ws.cell? ⟨bz, 0, none⟩ = some (.slice oo o.length co))
  (hn : Rd (.slice on n.length cn) n wn) (nn : n.length <= 1000) (hle : o.length <= n.length) :
  Iter Tryz.prog 104 #[.pointer (some ⟨bn, 0, none⟩), .pointer (some ⟨bz, 0, none⟩)] (keepS Sk ws) (fun A B => A = B) (keepS Sk) (dnY wn n) (n.length - o.length + 1) (fun k => k = 0) := by
 intro l J Jx W hpre _ _ hY h0
 refine callsIn_of_wp Tryz.func104 rfl trivial ?_ rfl
 simp only [Tryz.ntmps104, List.size_toArray, List.length_cons, List.length_nil, Nat.reduceAdd, Nat.reduceSub, Array.replicate_succ, Array.replicate_zero, List.push_toArray, List.append_toArray, List.nil_append, List.cons_append]
 have hc1 : W.cell? ⟨bn, 0, none⟩ = some _ := (hpre _ hsn).trans hcn
 have hc2 : W.cell? ⟨bz, 0, none⟩ = some _ := (hpre _ hsz).trans hcz
 have HK := Lib.hid hpre
 have HN := Lib.hid hn
 have HCN := Lib.hid hcn
 have HCZ := Lib.hid hcz
 have n1 : (n.length : Int) <= 1000 := by omega
 have o1 : (o.length : Int) <= n.length := by omega
 obtain ⟨_, _, e0, hcap, hcm, _⟩ := id hn
 cases e0
 unfold maxLen at hcm
 clear hpre hn hcn hcz
 gi_wp2
 gi_loopw [4] (fun p wr => ∃ k : Nat, k <= n.length - o.length + 1 /\ p = .int .i64 ((k : Int) - 1) /\ J k wr /\ keepS Sk ws wr) (fun p _ => (intOf p + 1).toNat)
 case atStart => exact ⟨n.length - o.length + 1, Nat.le_refl _, by go_num, h0, HK.out⟩
 case round =>
  obtain ⟨k, hk, rfl, hJ, hkb⟩ := hrel
  clear hc1 hc2
  rcases k with _ | k
  ·gi_wp2
   go_end0
   exact ⟨⟨_, rfl⟩, .inl ⟨_, rfl, hJ⟩⟩
  ·have hix : (((k + 1 : Nat) : Int) - 1) = (k : Int) := by omega
   obtain ⟨cm, hcm'⟩ : ∃ c, cn = c := ⟨_, rfl⟩
   have hc1 : wr.cell? ⟨bn, 0, none⟩ = some (.slice on n.length cm) := by rw [<- hcm']; exact (hkb _ hsn).trans HCN.out
   have hkn : (k : Int) <= n.length := by omega
   rw [hix]
   have HN' := HN.out
   rw [hcm'] at HN'
   have HR0 := Lib.hid (fun hc => HN'.tail0 k (by omega) hc)
   have HR1 := Lib.hid (HN'.tail k (by omega))
   have hcap2 : n.length <= cm := by omega
   have hcm2 : cm <= 2 ^ 63 - 1 := by omega
   clear hcm' HN'
   have HKB := Lib.hid hkb
   clear hkb
   gi_wp2_with fail
   ·obtain ⟨fn, tmps, assign, body, hy, hR⟩ := hY (k + 1) k _ wr hJ ⟨rfl, by omega, _, _, rfl, HR0.out (by assumption)⟩
    rw [hy]
    gi_wp2
    refine hR.mono ?_
    rintro e W3 (⟨rfl, hJ3, hk3⟩ | ⟨rfl, hJx3⟩)
    ·have hkb3 := HKB.out.trans hk3
     gi_wp2
     go_roundw
     case rel => exact ⟨k, by omega, by go_num, hJ3, hkb3⟩
     case measure => simp [intOf]
    ·gi_wp2
     refine bodyPost_ret (results_none rfl _ _ _) rfl ?_
     exact ⟨⟨_, rfl⟩, .inr hJx3⟩
   ·obtain ⟨fn, tmps, assign, body, hy, hR⟩ := hY (k + 1) k _ wr hJ ⟨rfl, by omega, _, _, rfl, HR1.out⟩
    rw [hy]
    gi_wp2
    refine hR.mono ?_
    rintro e W3 (⟨rfl, hJ3, hk3⟩ | ⟨rfl, hJx3⟩)
    ·have hkb3 := HKB.out.trans hk3
     gi_wp2
     go_roundw
     case rel => exact ⟨k, by omega, by go_num, hJ3, hkb3⟩
     case measure => simp [intOf]
    ·gi_wp2
     refine bodyPost_ret (results_none rfl _ _ _) rfl ?_
     exact ⟨⟨_, rfl⟩, .inr hJx3⟩
theorem down_any (zo vr : Value) (on : Option Addr) (ln cn : Nat) (w : World) :
  Calls Tryz.prog 52 #[.agg #[zo, vr], .slice on ln cn] w fun e w' => e = .returned (.func (.func 104) #[] #[.pointer (some ⟨w.heap.size + 1, 0, none⟩), .pointer (some ⟨w.heap.size, 0, none⟩)]) /\
   (w.alloc (.cells #[zo, vr] 29)).alloc (.cells #[.slice on ln cn] 23) = w' := by
 go_enter Tryz.func52, Tryz.ntmps52
 go_wp2
 go_ret
 exact ⟨rfl, rfl⟩
end Go.Proofs.YtneghhbclefmoaaGreat
