
import Derived.Test.YtneghhbclefmoaaGreatKRcH
section
/- Zones: is there a record such that .. -/
namespace Go.Proofs.YtneghhbclefmoaaGreat
open Go.RowKit Go.Shelf Go.Sort
set_option maxRecDepth 100000
def Zn.firstAt (p : Rc.PRec -> Bool) : List Rc.PRec -> Nat -> Int
 | [], _ => -1
 | x :: l, k => if p x then (k : Int) else Zn.firstAt p l (k + 1)
theorem Zn.firstAt_any (p : Rc.PRec -> Bool) : ∀ (l : List Rc.PRec) (k : Nat), decide (0 <= Zn.firstAt p l k) = l.any p
 | [], _ => by simp [Zn.firstAt]
 | x :: l, k => by
  rw [Zn.firstAt, List.any_cons]
  cases h : p x with
  | true => simp
  | false => simpa using Zn.firstAt_any p l (k + 1)
set_option maxHeartbeats 1000000 in
theorem indexRec_any {w w0 : World} (v : Value) (l : List (El w)) (p : Rc.PRec -> Bool) (gf : Nat) (cb : Array Value) (eg : ∀ args w, (callFunc gf args).run Tryz.prog w = .ok (.enter gf args) w) (_hb0 : Below w.heap.size w w0) (hv : RecsRd v (l.map (·.1)) w0) (na : l.length <= 1000)
  (hcb : ∀ wr, Below w0.heap.size w0 wr -> ∀ x ∈ l, Calls Tryz.prog gf (#[.agg (encE x).toArray] ++ cb) wr (Gives (.bool (p x.1.2)) wr)) :
  Calls Tryz.prog 106 #[v, .func (.func gf) #[] cb] w0 (Gives (.int .i64 (Zn.firstAt p (plE l) 0)) w0) := by
 obtain ⟨o, cap, rfl⟩ : ∃ o cap, v = .slice o l.length cap := by obtain ⟨_, o, cap, h, _⟩ := hv; exact ⟨o, cap, by rw [h, List.length_map]⟩
 have HV := Lib.hid hv.el
 have HCB := Lib.hid hcb
 have na' : (l.length : Int) <= 1000 := by omega
 clear hv hcb na
 go_enter Tryz.func106, Tryz.ntmps106
 go_wp2
 go_loopw [8] (fun i wr => ∃ k : Nat, Hid (k <= l.length /\ Zn.firstAt p (plE l) 0 = Zn.firstAt p (plE (l.drop k)) k) /\ i = .int .i64 k /\ Below w0.heap.size w0 wr) (fun i _ => l.length - (intOf i).toNat)
 case atStart => exact ⟨0, ⟨by omega, rfl⟩, rfl, Below.refl _ _⟩
 case round =>
  obtain ⟨k, hto, rfl, hb⟩ := hrel
  by_cases hlt : k < l.length
  ·have hltz : (k : Int) < (l.length : Int) := by omega
   obtain ⟨x, hx⟩ : ∃ x, l[k] = x := ⟨_, rfl⟩
   obtain ⟨p0, n0, q0, p1, n1, q1, p2, n2, q2, p3, n3, q3, p4, n4, q4, ex⟩ := x.cells
   obtain ⟨ga, rfl, e0, e1, e2, e3, e4, e5, e6⟩ := HV.out _ hb k hlt _ _ _ _ _ _ _ (by rw [hx]; exact ex)
   have HC := Lib.hid (HCB.out _ hb x (by rw [<- hx]; exact List.getElem_mem _))
   have HZ : Hid (Zn.firstAt p (plE (l.drop k)) k = if p x.1.2 then (k : Int) else Zn.firstAt p (plE (l.drop (k + 1))) (k + 1)) := by
    show _ = _
    rw [List.drop_eq_getElem_cons hlt, hx]; rfl
   have HE := Lib.hid ex
   obtain ⟨bz, hz⟩ : ∃ bz, p x.1.2 = bz := ⟨_, rfl⟩
   have HSZ := Lib.hid hz
   clear hx ex hz HV
   cases bz with
   | true =>
    go_wp2_with fail
    have hc := HC.out
    rw [HE.out] at hc
    refine hc.mono ?_
    rintro e w3 ⟨rfl, b3⟩
    rw [HSZ.out]
    have hb3 := Lib.hid (below5 hb b3)
    clear b3 hc
    go_wp2_with fail
    go_ret
    exact ⟨by rw [hto.out.2, HZ.out, HSZ.out]; rfl, hb3.out⟩
   | false =>
    go_wp2_with fail
    have hc := HC.out
    rw [HE.out] at hc
    refine hc.mono ?_
    rintro e w3 ⟨rfl, b3⟩
    rw [HSZ.out]
    have hb3 := Lib.hid (below5 hb b3)
    clear b3 hc
    go_wp2_with fail
    refine ⟨⟨k + 1, ⟨hlt, ?_⟩, by go_num, hb3.out⟩, by simp [intOf]; omega⟩
    rw [hto.out.2, HZ.out, HSZ.out]; rfl
  ·have hltz : ¬ ((k : Int) < (l.length : Int)) := by omega
   have HF : Hid (Zn.firstAt p (plE l) 0 = -1) := by show _ = _; rw [hto.out.2, List.drop_of_length_le (by omega)]; rfl
   go_wp2
   go_ret
   exact ⟨by rw [HF.out]; rfl, hb⟩
set_option maxHeartbeats 1000000 in
theorem containsRec_any {w w0 : World} (v : Value) (l : List (El w)) (p : Rc.PRec -> Bool) (gf : Nat) (cb : Array Value) (eg : ∀ args w, (callFunc gf args).run Tryz.prog w = .ok (.enter gf args) w) (hb0 : Below w.heap.size w w0) (hv : RecsRd v (l.map (·.1)) w0) (na : l.length <= 1000)
  (hcb : ∀ wr, Below w0.heap.size w0 wr -> ∀ x ∈ l, Calls Tryz.prog gf (#[.agg (encE x).toArray] ++ cb) wr (Gives (.bool (p x.1.2)) wr)) :
  Calls Tryz.prog 59 #[v, .func (.func gf) #[] cb] w0 (Gives (.bool ((plE l).any p)) w0) := by
 have HC := Lib.hid (indexRec_any v l p gf cb eg hb0 hv na hcb)
 have HF := Lib.hid (Zn.firstAt_any p (plE l) 0)
 clear hv hcb
 obtain ⟨z, hz⟩ : ∃ z, Zn.firstAt p (plE l) 0 = z := ⟨_, rfl⟩
 have HZ := Lib.hid hz
 clear hz
 go_enter Tryz.func59, Tryz.ntmps59
 go_wp2_with fail
 refine HC.out.mono ?_
 rintro e w1 ⟨rfl, b1⟩
 rw [HZ.out]
 go_wp2_with fail
 go_ret
 exact ⟨by rw [<- HF.out, HZ.out]; rfl, b1⟩
end Go.Proofs.YtneghhbclefmoaaGreat
end
section
/- Zones: made; whether a name is there. -/
namespace Go.Proofs.YtneghhbclefmoaaGreat
open Go.RowKit Go.Shelf Go.Sort
set_option maxRecDepth 100000
def El.up {w w' : World} (hb : Below w.heap.size w w') (x : El w) : El w' := ⟨x.1, x.2.1.below hb, x.2.2⟩
theorem up_fst {w w' : World} (hb : Below w.heap.size w w') (l : List (El w)) : (l.map (El.up hb)).map (·.1) = l.map (·.1) := by simp [El.up, Function.comp_def]
theorem up_pl {w w' : World} (hb : Below w.heap.size w w') (l : List (El w)) : plE (l.map (El.up hb)) = plE l := by simp [plE, El.up, Function.comp_def]
theorem down_list {w w0 : World} (l1 : List (El w0)) (h : ∀ x ∈ l1, RecRd x.1.1 x.1.2 w) : ∃ l' : List (El w), l'.map (·.1) = l1.map (·.1) /\ plE l' = plE l1 /\ l'.length = l1.length := by
 induction l1 with
 | nil => exact ⟨[], rfl, rfl, rfl⟩
 | cons x l1 ih =>
  obtain ⟨l', h1, h2, h3⟩ := ih (fun y hy => h y (List.mem_cons_of_mem _ hy))
  refine ⟨⟨x.1, h x List.mem_cons_self, x.2.2⟩ :: l', by simp [h1], ?_, by simp [h3]⟩
  simp only [plE, List.map_cons] at h2 ⊢
  rw [h2]
set_option maxHeartbeats 1000000 in
theorem zNew_any {w : World} (oo : Option Addr) (on oc : Nat) (v : Value) (l : List (El w)) (hv : RecsRd v (l.map (·.1)) w) (hn : l.length <= 1000) :
  Calls Tryz.prog 12 #[.slice oo on oc, v] w
   fun e w' => ∃ v' l', e = .returned (.agg #[.slice oo on oc, v']) /\ RecsRd v' ((l' : List (El w)).map (·.1)) w' /\ plE l' = Rc.canon (plE l) /\ l'.length <= l.length /\ Below w.heap.size w w' := by
 have hb0 : Below w.heap.size w (w.alloc (.cells #[.slice none 0 0, .slice none 0 0] 29)) := (Below.refl _ _).alloc (Nat.le_refl _) _
 have HC := Lib.hid (canon_any v (l.map (El.up hb0)) (by rw [up_fst]; exact hv.kept hb0) (by simpa using hn))
 have HP := Lib.hid (up_pl hb0 l)
 clear hv hn
 go_enter Tryz.func12, Tryz.ntmps12
 go_wp2_with fail
 refine HC.out.mono ?_
 rintro e w1 ⟨v', l1, rfl, r1, p1, n1, b1, fr1, el1⟩
 obtain ⟨l', d1, d2, d3⟩ := down_list (w := w) l1 (fun x hx => el1 x hx w (fun y hy => by
  obtain ⟨z, _, rfl⟩ := List.mem_map.1 hy
  exact z.2.1))
 obtain ⟨o', c', rfl⟩ : ∃ o c, v' = .slice o l1.length c := by obtain ⟨_, o, c, h, _⟩ := r1; exact ⟨o, c, by rw [h, List.length_map]⟩
 have hk : ∀ c, w1.cell? ⟨w.heap.size, c, none⟩ = (w.alloc (.cells #[.slice none 0 0, .slice none 0 0] 29)).cell? ⟨w.heap.size, c, none⟩ := fun c => b1.cell (p := ⟨w.heap.size, c, none⟩) (by simp)
 have hz : ∀ c, w1.frozen? ⟨w.heap.size, c, none⟩ = (w.alloc (.cells #[.slice none 0 0, .slice none 0 0] 29)).frozen? ⟨w.heap.size, c, none⟩ := fun c => World.frozen?_of_block (b1.block w.heap.size (by simp))
 have k0 := hk 0
 have k1 := hk 1
 have z0 := hz 0
 have z1 := hz 1
 simp at k0 k1 z0 z1
 have hb1 : Below w.heap.size w w1 := hb0.trans (b1.mono (by simp))
 have hb2 : ∀ u1 u2, Below w.heap.size w ((w1.setCell ⟨w.heap.size, 0, none⟩ u1).setCell ⟨w.heap.size, 1, none⟩ u2) := fun u1 u2 => (hb1.setCell (Nat.le_refl _) _).setCell (Nat.le_refl _) _
 have hr : ∀ u1 u2, RecsRd (.slice o' l1.length c') (l'.map (·.1)) ((w1.setCell ⟨w.heap.size, 0, none⟩ u1).setCell ⟨w.heap.size, 1, none⟩ u2) := fun u1 u2 => by
  obtain ⟨_, o2, c2, e1, e2, e3, e4, e5⟩ := r1
  rw [List.length_map] at e1 e2
  cases e1
  refine ⟨fun x hx => ?_, o', c', by rw [d1, List.length_map], by rw [d1, List.length_map]; exact e2, e3, e4, fun j hj => ?_⟩
  ·obtain ⟨y, _, rfl⟩ := List.mem_map.1 hx
   exact y.2.1.below (hb2 u1 u2)
  ·simp only [d1] at hj ⊢
   obtain ⟨a, ha, hcell⟩ := e5 j hj
   refine ⟨a, ha, ?_⟩
   have hbl := fr1 a.block (by rw [ha]; rfl)
   have hne : (a.add j).block ≠ w.heap.size := by
    have : (a.add j).block = a.block := by unfold Addr.add; split <;> rfl
    rw [this]; simp at hbl; omega
   rw [World.cell?_of_block (Below.heap_setCell _ _ _ _ hne), World.cell?_of_block (Below.heap_setCell _ _ _ _ hne)]
   exact hcell
 have q1 : ∀ u1 u2, ((w1.setCell ⟨w.heap.size, 0, none⟩ u1).setCell ⟨w.heap.size, 1, none⟩ u2).cell? ⟨w.heap.size, 1, none⟩ = some u2 := fun u1 u2 => World.cell?_setCell_same _ _ _ (by rw [World.cell?_setCell_other _ _ _ _ (by simp)]; exact k1)
 have q0 : ∀ u1 u2, ((w1.setCell ⟨w.heap.size, 0, none⟩ u1).setCell ⟨w.heap.size, 1, none⟩ u2).cell? ⟨w.heap.size, 0, none⟩ = some u1 := fun u1 u2 => by rw [World.cell?_setCell_other _ _ _ _ (by simp)]; exact World.cell?_setCell_same _ _ _ k0
 have Q := Lib.hid (And.intro q0 q1)
 have HH := Lib.hid (And.intro hr hb2)
 have HQ : Hid (plE l' = Rc.canon (plE l) /\ l'.length <= l.length) := ⟨by rw [d2, p1, HP.out], by rw [d3]; simpa using n1⟩
 clear r1 p1 n1 b1 hk hz fr1 el1 hr hb2 d1 d2 d3 q0 q1
 go_wp2_with fail
 have q0 := Q.out.1
 have q1 := Q.out.2
 refine bodyPost_ret (by simp [results, Tryz.results12, go_sem, q0, q1]; try rfl) rfl ?_
 exact ⟨_, l', rfl, HH.out.1 _ _, HQ.out.1, HQ.out.2, HH.out.2 _ _⟩
end Go.Proofs.YtneghhbclefmoaaGreat
end
section
/- Zones: has a name a type. -/
namespace Go.Proofs.YtneghhbclefmoaaGreat
open Go.RowKit Go.Shelf Go.Sort
set_option maxRecDepth 100000
set_option maxHeartbeats 1000000 in
theorem hasCb_any {w : World} (x : El w) (tp bp : Addr) (t : Int) (vn : Value) (n : List (List UInt8)) (wr : World) (hb : Below w.heap.size w wr) (ht : wr.cell? tp = some (.int .i64 t)) (hc : wr.cell? bp = some vn) (hn : Rd vn n wr) (nn : NB n) :
  Calls Tryz.prog 105 #[.agg (encE x).toArray, .pointer (some tp), .pointer (some bp)] wr (Gives (.bool ((x.1.2.type == t) && Nm.same x.1.2.owner n)) wr) := by
 obtain ⟨vo, ds, h0, ho, an, am, at', ar, h1, _⟩ := x.2.1
 have ex : encE x = [vo, .int .u32 (x.1.2.ttl : Int), .int .i64 x.1.2.type, an, am, at', ar] := by show x.1.1 = _; rw [h0, h1]
 rw [ex]
 have HO := Lib.hid (ho.below hb)
 have HN := Lib.hid hn
 have NO := Lib.hid x.2.2.owner
 have hlt := cell_lt hc
 have hlt2 := cell_lt ht
 have hc' : ∀ o, (wr.alloc o).cell? bp = some vn := fun o => (((Below.refl wr.heap.size wr).alloc (Nat.le_refl _) o).cell hlt).trans hc
 have ht' : ∀ o, (wr.alloc o).cell? tp = some (.int .i64 t) := fun o => (((Below.refl wr.heap.size wr).alloc (Nat.le_refl _) o).cell hlt2).trans ht
 clear ho hn hb ex h0 h1
 obtain ⟨bz, hz⟩ : ∃ bz, (x.1.2.type == t) = bz := ⟨_, rfl⟩
 rw [hz]
 cases bz with
 | true =>
  have h2 : decide (x.1.2.type = t) = true := by simpa using hz
  have h3 : x.1.2.type = t := by simpa using hz
  go_enter Tryz.func105, Tryz.ntmps105
  go_wp2_with fail
  refine (nSame_any _ _ _ _ _ (HO.out.below ((Below.refl _ _).alloc (Nat.le_refl _) _)) (HN.out.below ((Below.refl _ _).alloc (Nat.le_refl _) _)) NO.out nn).mono ?_
  rintro e w1 ⟨rfl, b1⟩
  have hb1 := ((Below.refl wr.heap.size wr).alloc (Nat.le_refl _) _).trans (b1.mono (by simp))
  go_wp2_with fail
  go_ret
  exact ⟨by simp, hb1⟩
 | false =>
  have h2 : decide (x.1.2.type = t) = false := by simpa using hz
  go_enter Tryz.func105, Tryz.ntmps105
  go_wp2_with fail
  go_ret
  exact ⟨by simp, (Below.refl _ _).alloc (Nat.le_refl _) _⟩
end Go.Proofs.YtneghhbclefmoaaGreat
end
