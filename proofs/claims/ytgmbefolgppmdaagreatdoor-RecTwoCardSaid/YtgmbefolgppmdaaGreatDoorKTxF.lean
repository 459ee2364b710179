/- rdata: an address in groups of octets. -/
import Derived.Test.YtgmbefolgppmdaaGreatDoorKTxA
import Derived.Test.YtgmbefolgppmdaaGreatDoorKRcB
import Derived.Test.YtgmbefolgppmdaaGreatDoorKZnD
import Derived.Test.YtgmbefolgppmdaaGreatDoorKReg
import Derived.Test.YtgmbefolgppmdaaGreatDoorKNmC
section
namespace Go.Proofs.YtgmbefolgppmdaaGreatDoor
open Go.RowKit Go.Shelf
set_option maxRecDepth 100000
attribute [local go_sem] Oper.semAt_some
namespace Tx
def val (l : List UInt8) : Nat := l.foldl (fun v c => v * 256 + c.toNat) 0
def grp (bs : List UInt8) (n : Nat) (F : List UInt8 -> List UInt8) (k : Nat) : List (List UInt8) := (List.range k).map fun i => F ((bs.drop (i * n)).take n)
theorem grp_succ (bs : List UInt8) (n : Nat) (F : List UInt8 -> List UInt8) (k : Nat) : grp bs n F (k + 1) = grp bs n F k ++ [F ((bs.drop (k * n)).take n)] := by unfold grp; rw [List.range_succ, List.map_append]; rfl
theorem grp_len (bs : List UInt8) (n : Nat) (F : List UInt8 -> List UInt8) (k : Nat) : (grp bs n F k).length = k := by simp [grp]
theorem val_snoc (l : List UInt8) (c : UInt8) : val (l ++ [c]) = val l * 256 + c.toNat := by simp [val]
theorem val_le : ∀ {l : List UInt8}, l.length <= 2 -> val l < 65536
 | [], _ => by simp [val]
 | [x], _ => by have := x.toNat_lt; simp [val]; omega
 | [x, y], _ => by have := x.toNat_lt; have := y.toNat_lt; simp [val]; omega
 | _ :: _ :: _ :: _, h => by simp at h
theorem val_le1 : ∀ {l : List UInt8}, l.length <= 1 -> val l < 256
 | [], _ => by simp [val]
 | [x], _ => by have := x.toNat_lt; simp [val]; omega
 | _ :: _ :: _, h => by simp at h
theorem join_len {l : List (List UInt8)} {sep : List UInt8} {m : Nat} (h : ∀ x ∈ l, x.length <= m) : (Lib.join l sep).length <= l.length * (m + sep.length) := by
 cases l with
 | nil => simp [Lib.join_nil]
 | cons x r =>
  rw [Lib.join_cons, List.length_append]
  have h1 := h x List.mem_cons_self
  have h2 : (Lib.joinTail sep r).length <= r.length * (m + sep.length) := by
   clear h1
   induction r with
   | nil => simp [Lib.joinTail]
   | cons y r ih =>
    have := ih (fun z hz => h z (by rcases List.mem_cons.1 hz with e | e <;> simp [e]))
    have hy := h y (by simp)
    simp only [Lib.joinTail, List.map_cons, List.flatten_cons, List.length_append, List.length_cons] at this ⊢
    rw [Nat.add_mul]; omega
  rw [List.length_cons, Nat.add_mul]; omega
end Tx
theorem bits_or (v c : Nat) (hv : v < 256) (hc : c < 256) : bits BinOp.or IntKind.u64 ((v : Int) * 256) (IntKind.u64.wrap (c : Int)) = ((v * 256 + c : Nat) : Int) := by
 have h1 : IntKind.u64.wrap (c : Int) = (c : Int) := by rw [IntKind.wrap_u64]; omega
 have h2 : v * 256 ||| c = v * 256 + c := by
  have := Nat.shiftLeft_add_eq_or_of_lt (b := c) (i := 8) (by omega) v
  rw [Nat.shiftLeft_eq] at this
  exact this.symm
 rw [h1]
 unfold bits
 have h3 : ((v : Int) * 256) = ((v * 256 : Nat) : Int) := by omega
 rw [h3]
 have h4 : ((v * 256 : Nat) : Int) % 2 ^ IntKind.u64.bits = ((v * 256 : Nat) : Int) := Int.emod_eq_of_lt (by omega) (by show _ < (18446744073709551616 : Int); omega)
 have h5 : c % 2 ^ IntKind.u64.bits = c := Nat.mod_eq_of_lt (by show _ < 18446744073709551616; omega)
 have h6 : ((v * 256 : Nat) : Int).toNat = v * 256 := Int.toNat_natCast _
 simp only [BitVec.toNat_or, BitVec.toNat_ofInt, Int.natCast_pow, Int.cast_ofNat_Int]
 rw [h4, h6]
 have h7 : ((c : Int) % 2 ^ IntKind.u64.bits).toNat = c := by
  rw [show ((c : Int) % 2 ^ IntKind.u64.bits) = ((c % 2 ^ IntKind.u64.bits : Nat) : Int) by simp, h5]; rfl
 rw [h7, h2, IntKind.wrap_u64]; omega
structure GrM (w : World) (ds : Array Value) (base : Nat) (a : Addr) (l cap n : Nat) (ts : List (List UInt8)) (W : World) : Prop where
 db : Blk w.heap.size ds 29 W
 bb : Box (w.heap.size + 1) 3 (.int .i64 base) W
 ck : ckPre (w.heap.size + 3) (some a) l cap n W
 sb : SbM w (w.heap.size + 7) (w.heap.size + 2) ts W
theorem GrM.on {w ds base a l cap n ts} {A W : World} (h : GrM w ds base a l cap n ts A) (hb : Below A.heap.size A W) : GrM w ds base a l cap n ts W :=
 ⟨h.db.below hb, h.bb.below hb, ⟨(hb.cell (cell_lt h.ck.1)).trans h.ck.1, (hb.cell (cell_lt h.ck.2)).trans h.ck.2⟩, h.sb.on hb⟩
theorem GrM.put {w ds base a l cap n ts} {A : World} (h : GrM w ds base a l cap n ts A) {r : Loop} (hr : A.heap[w.heap.size + 6]? = some (.loop r)) (o : Obj) : GrM w ds base a l cap n ts (A.putObj (w.heap.size + 6) o) :=
 ⟨h.db.put hr o, h.bb.put hr o, h.ck.kept ⟨sameCell.put (by omega) _ _, sameCell.put (by omega) _ _⟩, h.sb.put hr (by omega) o⟩
set_option maxHeartbeats 4000000 in
theorem groups_any (t : Int) (p1 p2 p3 : Option Addr) (n1 q1 n2 q2 n3 q3 : Nat) (a : Addr) (m n cap base : Nat) (bs sep : List UInt8) (w : World) (hn : n = 1 \/ n = 2) (hm : 0 < m) (hm' : m <= 1000) (hbs : bs.length = m * n) (hsep : sep.length <= 100)
  (hr : BtRd (.slice (some a) (m * n) cap) bs w) (F : List UInt8 -> List UInt8) (hF : ∀ c, (F c).length <= 1000)
  (hC : ∀ c, c.length = n -> ∀ W, Below w.heap.size w W -> Calls Tryz.prog 31 #[.int .u64 (Tx.val c), .int .i64 base] W (Gives (S (F c)) W)) :
  Calls Tryz.prog 104 #[.agg #[.int .i64 t, .slice p1 n1 q1, .slice p2 n2 q2, .slice p3 n3 q3, .slice (some a) (m * n) cap], .int .i64 n, .int .i64 base, S sep] w (Gives (S (Lib.join (Tx.grp bs n F m) sep)) w) := by
 have hcap : m * n <= cap /\ cap <= 9223372036854775807 := by
  obtain ⟨o, c, e, h1, h2, _⟩ := hr
  simp only [Value.slice.injEq] at e
  obtain ⟨_, _, rfl⟩ := e
  rw [List.length_map, hbs] at h1
  unfold maxLen at h2
  exact ⟨h1, h2⟩
 have hn1 : 1 <= n := by omega
 have hn2 : n <= 2 := by omega
 have HN := Lib.hid hn
 have HR := Lib.hid hr
 have HC := Lib.hid hC
 have HF := Lib.hid hF
 have HBS := Lib.hid hbs
 have HCAP := Lib.hid hcap
 clear hn hr hC hF hbs hcap
 refine (callsIn_wide (n := 0)).1 ?_
 refine callsIn_of_wp_marks Tryz.func104 rfl trivial ?_ rfl
 simp only [Tryz.ntmps104, List.size_toArray, List.length_cons, List.length_nil, Nat.reduceAdd, Nat.reduceSub, Array.replicate_succ, Array.replicate_zero, List.push_toArray, List.append_toArray, List.nil_append, List.cons_append]
 gi_wp2_with (gi_at_call 123; refine (callsIn_wide.2 (chunk_any _ _ _ n hn1 (by omega) _)).mono ?_; rintro e ws ⟨rfl, hws⟩)
 rw [show w.heap.size + 1 + 1 = w.heap.size + 2 from rfl, show w.heap.size + 2 + 1 = w.heap.size + 3 from rfl, show w.heap.size + 3 + 1 = w.heap.size + 4 from rfl]
 have hb0 : Below w.heap.size w ws := by rw [<- hws]; exact (((((Below.refl _ _).alloc (Nat.le_refl _) _).alloc (by simp) _).alloc (by simp; omega) _).alloc (by simp; omega) _).alloc (by simp; omega) _
 have hs0 : ws.heap.size = w.heap.size + 5 := by rw [<- hws]; simp
 have k0 : Blk w.heap.size #[.int .i64 t, .slice p1 n1 q1, .slice p2 n2 q2, .slice p3 n3 q3, .slice (some a) (m * n) cap] 29 ws := by rw [<- hws]; exact ((((Blk.new w _ _).alloc _).alloc _).alloc _).alloc _
 have k1 : Box (w.heap.size + 1) 3 (.int .i64 base) ws := by
  rw [<- hws]
  have := Box.new (w.alloc (.cells #[.int .i64 t, .slice p1 n1 q1, .slice p2 n2 q2, .slice p3 n3 q3, .slice (some a) (m * n) cap] 29)) 3 (.int .i64 base)
  rw [World.size_alloc] at this
  exact ((this.alloc _).alloc _).alloc _
 have k2 : Box (w.heap.size + 2) 22 (.slice none 0 0) ws := by
  rw [<- hws]
  have := Box.new ((w.alloc (.cells #[.int .i64 t, .slice p1 n1 q1, .slice p2 n2 q2, .slice p3 n3 q3, .slice (some a) (m * n) cap] 29)).alloc (.cells #[.int .i64 base] 3)) 22 (.slice none 0 0)
  rw [World.size_alloc, World.size_alloc] at this
  exact (this.alloc _).alloc _
 have k3 : Box (w.heap.size + 3) 27 (.slice (some a) (m * n) cap) ws := by
  rw [<- hws]
  have := Box.new (((w.alloc (.cells #[.int .i64 t, .slice p1 n1 q1, .slice p2 n2 q2, .slice p3 n3 q3, .slice (some a) (m * n) cap] 29)).alloc (.cells #[.int .i64 base] 3)).alloc (.cells #[.slice none 0 0] 22)) 27 (.slice (some a) (m * n) cap)
  rw [World.size_alloc, World.size_alloc, World.size_alloc] at this
  exact this.alloc _
 have k4 : Box (w.heap.size + 4) 3 (.int .i64 n) ws := by
  rw [<- hws]
  have := Box.new ((((w.alloc (.cells #[.int .i64 t, .slice p1 n1 q1, .slice p2 n2 q2, .slice p3 n3 q3, .slice (some a) (m * n) cap] 29)).alloc (.cells #[.int .i64 base] 3)).alloc (.cells #[.slice none 0 0] 22)).alloc (.cells #[.slice (some a) (m * n) cap] 27)) 3 (.int .i64 n)
  rw [World.size_alloc, World.size_alloc, World.size_alloc, World.size_alloc] at this
  exact this
 have HS0 := Lib.hid hs0
 have HM0 : Hid (∀ W, Below ws.heap.size ws W -> w.heap.size + 7 <= W.heap.size -> GrM w #[.int .i64 t, .slice p1 n1 q1, .slice p2 n2 q2, .slice p3 n3 q3, .slice (some a) (m * n) cap] base a (m * n) cap n [] W) := fun W hW hs =>
  ⟨k0.below hW, k1.below hW, ⟨(hW.cell (cell_lt k3.cell)).trans k3.cell, (hW.cell (cell_lt k4.cell)).trans k4.cell⟩, ⟨none, 0, k2.below hW, Row.nil _ _ _ _⟩, below5 hb0 hW, hs⟩
 clear hws hb0 k0 k1 k2 k3 k4 hs0
 refine rf_outer rfl (enters_of Tryz.func129 (by kernel_rfl) rfl) (chunk1_iter (w.heap.size + 3) a m cap n HN.out HCAP.out.1 (by omega))
  (fun A B h => by subst h; exact KeepsOthers.drew _) (fun A B C h k => h.trans k)
  (fun A ob => ⟨sameCell.put (by have := HS0.out; omega) A ob, sameCell.put (by have := HS0.out; omega) A ob⟩)
  (fun _ _ _ _ h => by obtain ⟨_, h, _⟩ := h; subst h; rfl)
  (fun k W => GrM w #[.int .i64 t, .slice p1 n1 q1, .slice p2 n2 q2, .slice p3 n3 q3, .slice (some a) (m * n) cap] base a (m * n) cap n (Tx.grp bs n F k) W) (fun _ _ => False)
  (fun _ A _ h e => by subst e; exact h.on (Below.refl _ _).drew) (fun _ _ _ h _ => h)
  (fun _ A r ob h hr => by have := HS0.out; rw [this] at hr ⊢; exact h.put hr ob) (fun _ A r ob h hr => h)
  (fun r => ?start) (fun r => ?pre) ?round ?done (fun _ _ h => h.elim)
 case start => exact HM0.out _ (((Below.refl _ _).alloc (Nat.le_refl _) _).alloc (by simp) _) (by have := HS0.out; simp; omega)
 case pre => exact (HM0.out _ (((Below.refl _ _).alloc (Nat.le_refl _) _).alloc (by simp) _) (by have := HS0.out; simp; omega)).ck
 case round =>
  rintro lp k k' v W hM ⟨hk, rfl, rfl⟩
  gi_wp2
  refine rfNext_same (by exact ⟨rfl, rfl⟩) hM (fun _ A r ob h hr => by have := HS0.out; rw [this] at hr ⊢; exact h.put hr ob) ?_
  clear hM
  rintro W r rfl hr hM
  rw [HS0.out] at hr
  obtain ⟨ch, hch⟩ : ∃ ch, (bs.drop (k * n)).take n = ch := ⟨_, rfl⟩
  have hkn : k * n + n <= m * n := by have : (k + 1) * n <= m * n := Nat.mul_le_mul_right _ hk; rw [Nat.add_mul] at this; omega
  have hlen : ch.length = n := by rw [<- hch, List.length_take, List.length_drop, HBS.out]; omega
  obtain ⟨ea, hea⟩ : ∃ ea, a.add (k * n) = ea := ⟨_, rfl⟩
  have HCE : Hid (∀ W', Below W.heap.size W W' -> ∀ j (h : j < ch.length), W'.cell? (ea.add j) = some (.int .u8 (ch[j].toNat : Int))) := fun W' hW j hj => by
   rw [hlen] at hj
   obtain ⟨o, c, e, h1, h2, h3, h4⟩ := HR.out
   simp only [Value.slice.injEq] at e
   obtain ⟨rfl, _, rfl⟩ := e
   obtain ⟨a', ha', hc⟩ := h4 (k * n + j) (by rw [List.length_map, HBS.out]; omega)
   cases ha'
   have hb := below5 hM.sb.below hW
   rw [<- hea, add_add', hb.cell (cell_lt hc), hc, List.getElem_map]
   congr 3
   subst hch
   rw [List.getElem_take, List.getElem_drop]
  have HM := Lib.hid hM
  have HCH := Lib.hid hch
  have HLE := Lib.hid hlen
  have HWR := Lib.hid hr
  have nz : (n : Int) <= 2 := by omega
  rw [hea]
  clear hM hch hlen hea hkn hr
  gi_wp2_with fail
  gi_loopw [11, 21] (fun vv vi W' => ∃ j : Nat, j <= n /\ vi = .int .i64 j /\ vv = .int .u64 (Tx.val (ch.take j)) /\ Below W.heap.size W W') (fun _ vi _ => n - (intOf vi).toNat)
  case atStart => exact ⟨0, Nat.zero_le _, rfl, rfl, Below.refl _ _⟩
  case round =>
   obtain ⟨j, hj, rfl, rfl, hb⟩ := hrel
   by_cases hlt : j < n
   ·have hlz : (j : Int) < (n : Int) := by omega
    have hlc : j < ch.length := by rw [HLE.out]; exact hlt
    have e1 := HCE.out _ hb j hlc
    have hv1 : Tx.val (ch.take j) < 256 := Tx.val_le1 (by rw [List.length_take]; omega)
    have HB := Lib.hid hb
    clear hb
    gi_wp2_with fail
    refine ⟨⟨j + 1, hlt, by go_num, ?_, HB.out⟩, by simp [intOf]; omega⟩
    rw [List.take_succ_eq_append_getElem hlc, Tx.val_snoc, bits_or _ _ hv1 (UInt8.toNat_lt _)]
   ·have hlz : ¬ (j : Int) < (n : Int) := by omega
    obtain rfl : j = n := by omega
    have htk : ch.take j = ch := List.take_of_length_le (by have := HLE.out; omega)
    rw [htk]
    have HM1 := Lib.hid (HM.out.on hb)
    have HB := Lib.hid hb
    obtain ⟨ts, hts⟩ : ∃ ts, Tx.grp bs j F k = ts := ⟨_, rfl⟩
    have htl : ts.length = k := by rw [<- hts, Tx.grp_len]
    rw [hts] at HM1
    have HTS := Lib.hid hts
    obtain ⟨ob, cb, hbx, hrow⟩ := HM1.out.sb.bx
    rw [htl] at hbx hrow
    have HTL := Lib.hid htl
    have HBX := Lib.hid hbx
    have HROW := Lib.hid hrow
    clear hb hts htl hbx hrow htk
    gi_wp2_with fail
    refine drawnH [0, 2, 3, 4, 5] (fun w' => w'.cell? ⟨w.heap.size + 2, 0, none⟩ = some (.slice ob k cb) /\ w'.cell? ⟨w.heap.size + 1, 0, none⟩ = some (.int .i64 base)) 7 rfl (by kernel_rfl) ?_
    intro w' hw'
    have hbd : Below wr.heap.size wr w' := by subst hw'; exact (Below.refl _ _).drew
    have hS : w'.cell? ⟨w.heap.size + 2, 0, none⟩ = some (.slice ob k cb) /\ w'.cell? ⟨w.heap.size + 1, 0, none⟩ = some (.int .i64 base) := ⟨(HBX.out.below hbd).cell, (HM1.out.bb.below hbd).cell⟩
    have HBD := Lib.hid hbd
    clear hw' hbd
    refine tP 1 ?qv1 (fun w1 _ => ?qy1) ?_
    case qy1 => (go_simp; try first | rfl | (rw [if_pos (by omega)]) | (rw [if_neg (by omega)]) | (rw [if_neg (by simp; omega)]) | (split <;> first | (exfalso; omega) | rfl))
    refine tH 0 ?qv0 hS (fun w1 ⟨d1, d2⟩ => ?qy0) ?_
    case qy0 => (go_simp; try first | rfl | (rw [if_pos (by omega)]) | (rw [if_neg (by omega)]) | (rw [if_neg (by simp; omega)]) | (split <;> first | (exfalso; omega) | rfl))
    refine tH 2 ?qv2 hS (fun w1 ⟨d1, d2⟩ => ?qy2) ?_
    case qy2 => (go_simp; try first | rfl | (rw [if_pos (by omega)]) | (rw [if_neg (by omega)]) | (rw [if_neg (by simp; omega)]) | (split <;> first | (exfalso; omega) | rfl))
    simp only [Act.put, List.setIfInBounds_toArray, List.set_cons_succ, List.set_cons_zero]
    refine oneH 3 (by rfl) (by kernel_rfl) (fun K hK => ?_)
    gi_wp2_with fail
    refine (callsIn_wide.2 (HC.out ch HLE.out _ (below5 HM1.out.sb.below HBD.out))).mono ?_
    rintro e w4 ⟨rfl, b4⟩
    have HB4 := Lib.hid (below5 HBD.out b4)
    clear hS b4
    have hS : w4.cell? ⟨w.heap.size + 2, 0, none⟩ = some (.slice ob k cb) /\ w4.cell? ⟨w.heap.size + 1, 0, none⟩ = some (.int .i64 base) := ⟨(HBX.out.below HB4.out).cell, (HM1.out.bb.below HB4.out).cell⟩
    gi_wp2_with fail
    refine hK _ _ (fun _ => hS) ?_
    clear hK K hS
    refine oneH 4 (by rfl) (by kernel_rfl) (fun K hK => ?_)
    gi_wp2_with fail
    have HB5 : Hid (Below wr.heap.size wr (w4.alloc (.cells #[S (F ch)] 9))) := HB4.out.alloc HB4.out.size _
    refine hK _ _ (fun _ => ⟨(HBX.out.below HB5.out).cell, (HM1.out.bb.below HB5.out).cell⟩) ?_
    clear hK K
    refine oneH 5 (by rfl) (by kernel_rfl) (fun K hK => ?_)
    have HR5 : Hid (Row (fun g => w.heap.size + 7 <= g) 9 1 (.slice ob k cb) k (ts.map fun x => [S x]).flatten (w4.alloc (.cells #[S (F ch)] 9))) := by show Row _ _ _ _ _ _ _; rw [strs_flat]; exact HROW.out.below HB5.out
    refine append_g (fun g => w.heap.size + 7 <= g) 9 _ 1 16 Tryz.info_str rfl (by decide) rfl _ _ _ Tryz.underlying22 rfl _ k (ts.map fun x => [S x]) (by rfl) HR5.out _ [[S (F ch)]] (by rfl) (GRd.new [S (F ch)] rfl (by simp [Value.oneCell', S]) w4 9) (by simp; omega) (by omega) (by have := HM1.out.sb.size; have := HB5.out.size; omega) ?_
    intro v10 w10 hrow10 hgr10
    obtain ⟨o10, c10, e10⟩ := hrow10.form
    subst e10
    have hlt2 : w.heap.size + 2 < (w4.alloc (.cells #[S (F ch)] 9)).heap.size := by have := HM1.out.sb.size; have := HB5.out.size; omega
    have hown : ∀ g, (Value.slice ob k cb).ownBlock = some g -> w.heap.size + 7 <= g := fun g hg => HROW.out.2 g hg
    have hbx10 : Box (w.heap.size + 2) 22 (.slice ob k cb) w10 := (hgr10.block _ hlt2 (fun e => by have := hown _ e.symm; omega)).trans (HBX.out.below HB5.out)
    have hbb10 : Box (w.heap.size + 1) 3 (.int .i64 base) w10 := (hgr10.block _ (by omega) (fun e => by have := hown _ e.symm; omega)).trans (HM1.out.bb.below HB5.out)
    have y0 := hbx10.cell
    have y1 := hbx10.frozen
    have HBB := Lib.hid hbb10
    have HR10 := Lib.hid hrow10
    have HG10 := Lib.hid hgr10
    refine hK _ _ (fun _ => ⟨y0, HBB.out.cell⟩) ?_
    clear hK K hrow10 hgr10 hbx10 hbb10
    refine oneH 6 (by rfl) (by kernel_rfl) (fun K hK => ?_)
    gi_wp2_with fail
    refine hK _ _ (fun h => by simp at h) ?_
    clear hK K y0 y1
    refine doneH (by kernel_rfl) ?_
    gi_wp2_with fail
    have hR5' := HR5.out
    rw [strs_flat] at hR5'
    have hR10 := HR10.out
    rw [List.length_cons, List.length_nil, show (ts.map (fun x => [S x]) ++ [[S (F ch)]]) = (ts ++ [F ch]).map (fun x => [S x]) by simp, strs_flat] at hR10
    have HK := HM1.out.sb.push (q := w.heap.size + 2) (by omega) (by omega) (F ch) HB5.out (HBX.out.below HB5.out) (by rw [HTL.out]; exact hR5') (by rw [HTL.out]; exact hR10) HG10.out
    obtain ⟨p1', p2', p3'⟩ := HK
    have hWs := HM.out.sb.size
    have hws := HB.out.size
    have hblk : ∀ b, b < w.heap.size + 7 -> b ≠ w.heap.size + 2 -> (w10.setCell ⟨w.heap.size + 2, 0, none⟩ (.slice o10 (k + 1) c10)).heap[b]? = W.heap[b]? := fun b hb hne => (p3' b hb hne).trans (HB.out.block b (by omega))
    have hkp : ckKp (w.heap.size + 3) W (w10.setCell ⟨w.heap.size + 2, 0, none⟩ (.slice o10 (k + 1) c10)) :=
     ⟨World.cell?_of_block (hblk (w.heap.size + 3) (by omega) (by omega)), World.cell?_of_block (hblk (w.heap.size + 3 + 1) (by omega) (by omega))⟩
    refine ⟨(below_keepsOthers HB.out).trans p2', hkp, ?_⟩
    show GrM _ _ _ _ _ _ _ (Tx.grp bs j F (k + 1)) _
    rw [Tx.grp_succ, HTS.out, HCH.out]
    exact ⟨(hblk _ (by omega) (by omega)).trans HM.out.db, (hblk _ (by omega) (by omega)).trans HM.out.bb, HM.out.ck.kept hkp, p1'⟩
 case done =>
  rintro k W rfl hM hKd
  obtain ⟨ts, hts⟩ : ∃ ts, Tx.grp bs n F k = ts := ⟨_, rfl⟩
  have htl : ts.length = k := by rw [<- hts, Tx.grp_len]
  rw [hts] at hM
  have HTSd := Lib.hid hts
  have hjl : (Lib.join ts sep).length <= 140737488355328 := by
   have h1 := Tx.join_len (l := ts) (sep := sep) (m := 1000) (fun x hx => by rw [<- hts] at hx; unfold Tx.grp at hx; obtain ⟨i, _, rfl⟩ := List.mem_map.1 hx; exact HF.out _)
   have h2 : ts.length * (1000 + sep.length) <= 1000 * 1100 := Nat.mul_le_mul (by omega) (by omega)
   omega
  obtain ⟨ob, cb, hbx, hrow⟩ := hM.sb.bx
  have hrd := hrow.rd
  have c0 := hbx.cell
  have HM := Lib.hid hM
  have HRD := Lib.hid hrd
  obtain ⟨⟨_, ho⟩, hgR⟩ := hrow
  rcases ho with ⟨e, h0⟩ | ⟨g, cap', cur, e, _, hg, _⟩
  ·omega
  ·simp only [Value.slice.injEq] at e
   obtain ⟨rfl, _, rfl⟩ := e
   have hgl : g < W.heap.size := (Array.getElem?_eq_some_iff.1 hg).1
   have HJL := Lib.hid hjl
   have HTL := Lib.hid htl
   clear hM hrd hbx hgR hg hts hjl htl
   have HTS' : Hid (Tx.grp bs n F k = ts) := HTSd
   gi_wp2_with fail
   refine (callsIn_wide.2 (sjoin_any g 0 cb ts sep W HRD.out hgl (by have := HTL.out; omega) HJL.out)).mono ?_
   rintro e w9 ⟨rfl, b9⟩
   have HB9 := Lib.hid (below5 HM.out.sb.below b9)
   have hK9 : w9.heap[ws.heap.size]? = some (.deferred (some [])) := (b9.block _ (Array.getElem?_eq_some_iff.1 hKd).1).trans hKd
   gi_wp2_with fail
   refine leaveD rfl hK9 (results_tmp rfl _ _ _) ?_
   exact ⟨by rw [HTS'.out]; rfl, below_putD HB9.out (by have := HS0.out; omega) (by have := HB9.out.size; have := HS0.out; omega) _⟩
end Go.Proofs.YtgmbefolgppmdaaGreatDoor
end
section
namespace Go.Proofs.YtgmbefolgppmdaaGreatDoor
open Go.RowKit Go.Shelf
set_option maxRecDepth 100000
attribute [local go_sem] Oper.semAt_some
namespace Tx
def dec1 (c : List UInt8) : List UInt8 := Lib.decDigits (val (c.take 2))
theorem dec1_len (c : List UInt8) : (dec1 c).length <= 1000 := by
 have h1 := val_le (l := c.take 2) (by rw [List.length_take]; omega)
 have := dec_len (val (c.take 2)) (by omega)
 unfold dec1; omega
theorem dec1_of {c : List UInt8} (h : c.length = 1) : dec1 c = Lib.decDigits (val c) := by unfold dec1; rw [List.take_of_length_le (by omega)]
def addr (bs : List UInt8) : List UInt8 := Lib.join (grp bs 1 dec1 4) [46]
end Tx
theorem words1_none (b q : Nat) (p : Option Addr) (c : Nat) (W : World) (h : W.cell? ⟨b, 2, none⟩ = some (.slice p 0 c)) :
  Calls Tryz.prog 102 #[.pointer (some ⟨b, 0, none⟩), .pointer (some ⟨q, 0, none⟩)] W fun e w' => e = .returned (.tuple #[]) /\ W = w' := by
 refine (callsIn_wide (n := 0)).1 ?_
 refine callsIn_of_wp Tryz.func102 rfl trivial ?_ rfl
 simp only [Tryz.ntmps102, List.size_toArray, List.length_cons, List.length_nil, Nat.reduceAdd, Nat.reduceSub, Array.replicate_succ, Array.replicate_zero, List.push_toArray, List.append_toArray, List.nil_append, List.cons_append]
 gi_wp2_with fail
 gi_loopw [7] (fun vi wr => vi = .int .i64 0 /\ W = wr) (fun _ _ => 0)
 case atStart => exact ⟨rfl, rfl⟩
 case round =>
  obtain ⟨rfl, rfl⟩ := hrel
  gi_wp2_with fail
  go_end0
  exact ⟨rfl, rfl⟩
set_option maxHeartbeats 4000000 in
theorem wordsA_any (p1 p2 p3 : Option Addr) (q1 q2 q3 : Nat) (a : Addr) (cap : Nat) (bs : List UInt8) (w : World) (ht : Tab w) (hbs : bs.length = 4) (hr : BtRd (.slice (some a) 4 cap) bs w) :
  Calls Tryz.prog 70 #[.agg #[.int .i64 1, .slice p1 0 q1, .slice p2 0 q2, .slice p3 0 q3, .slice (some a) 4 cap]] w
   fun e w' => ∃ g c, e = .returned (.slice (some ⟨g, 0, none⟩) 1 c) /\ Rd (.slice (some ⟨g, 0, none⟩) 1 c) [Tx.addr bs] w' /\ g < w'.heap.size /\ Below w.heap.size w w' := by
 have HT := Lib.hid ht
 have HR := Lib.hid hr
 have HBS := Lib.hid hbs
 clear ht hr hbs
 refine (callsIn_wide (n := 0)).1 ?_
 refine callsIn_of_wp Tryz.func70 rfl trivial ?_ rfl
 simp only [Tryz.ntmps70, List.size_toArray, List.length_cons, List.length_nil, Nat.reduceAdd, Nat.reduceSub, Array.replicate_succ, Array.replicate_zero, List.push_toArray, List.append_toArray, List.nil_append, List.cons_append]
 gi_wp2_with fail
 obtain ⟨W2, hW2⟩ : ∃ W2, (w.alloc (.cells #[.int .i64 1, .slice p1 0 q1, .slice p2 0 q2, .slice p3 0 q3, .slice (some a) 4 cap] 29)).alloc (.cells #[.slice none 0 0] 22) = W2 := ⟨_, rfl⟩
 rw [hW2]
 have hb2 : Below w.heap.size w W2 := by subst hW2; exact ((Below.refl _ _).alloc (Nat.le_refl _) _).alloc (by simp) _
 have k0 : Blk w.heap.size #[.int .i64 1, .slice p1 0 q1, .slice p2 0 q2, .slice p3 0 q3, .slice (some a) 4 cap] 29 W2 := by subst hW2; exact (Blk.new w _ _).alloc _
 have k1 : Box (w.heap.size + 1) 22 (.slice none 0 0) W2 := by
  subst hW2
  have := Box.new (w.alloc (.cells #[.int .i64 1, .slice p1 0 q1, .slice p2 0 q2, .slice p3 0 q3, .slice (some a) 4 cap] 29)) 22 (.slice none 0 0)
  rwa [World.size_alloc] at this
 have s2 : w.heap.size + 2 <= W2.heap.size := by subst hW2; simp
 have HB2 := Lib.hid hb2
 have K0 := Lib.hid k0
 have K1 := Lib.hid k1
 have S2 := Lib.hid s2
 have c0 : W2.cell? ⟨w.heap.size, 0, none⟩ = some (.int .i64 1) := k0.cell 0
 have c2 : W2.cell? ⟨w.heap.size, 2, none⟩ = some (.slice p2 0 q2) := k0.cell 2
 have c3 : W2.cell? ⟨w.heap.size, 3, none⟩ = some (.slice p3 0 q3) := k0.cell 3
 have HW := Lib.hid (words1_none w.heap.size (w.heap.size + 1) p2 q2 W2 c2)
 clear hW2 hb2 k0 k1 s2 c2
 gi_loopw [18] (fun vi wr => vi = .int .i64 0 /\ W2 = wr) (fun _ _ => 0)
 case atStart => exact ⟨rfl, rfl⟩
 case round =>
  obtain ⟨rfl, rfl⟩ := hrel
  gi_wp2_with fail
  refine (callsIn_wide.2 HW.out).mono ?_
  rintro e w' ⟨rfl, rfl⟩
  clear HW
  gi_wp2_with fail
  gi_loopw [36] (fun vi wr => vi = .int .i64 0 /\ W2 = wr) (fun _ _ => 0)
  case atStart => exact ⟨rfl, rfl⟩
  case round =>
   obtain ⟨rfl, rfl⟩ := hrel
   gi_wp2_with fail
   have HST : Hid (∀ W', Below W2.heap.size W2 W' -> W'.cell? ⟨w.heap.size + 1, 0, none⟩ = some (.slice none 0 0) /\ W'.cell? ⟨w.heap.size, 0, none⟩ = some (.int .i64 1) /\ W'.cell? ⟨w.heap.size, 1, none⟩ = some (.slice p1 0 q1) /\ W'.cell? ⟨w.heap.size, 2, none⟩ = some (.slice p2 0 q2) /\ W'.cell? ⟨w.heap.size, 3, none⟩ = some (.slice p3 0 q3) /\ W'.cell? ⟨w.heap.size, 4, none⟩ = some (.slice (some a) 4 cap)) := fun W' hb =>
    ⟨(K1.out.below hb).cell, (K0.out.below hb).cell 0, (K0.out.below hb).cell 1, (K0.out.below hb).cell 2, (K0.out.below hb).cell 3, (K0.out.below hb).cell 4⟩
   clear c0 c3
   refine drawnH [0, 1, 2, 3, 4] (fun W' => W'.cell? ⟨w.heap.size + 1, 0, none⟩ = some (.slice none 0 0) /\ W'.cell? ⟨w.heap.size, 0, none⟩ = some (.int .i64 1) /\ W'.cell? ⟨w.heap.size, 1, none⟩ = some (.slice p1 0 q1) /\ W'.cell? ⟨w.heap.size, 2, none⟩ = some (.slice p2 0 q2) /\ W'.cell? ⟨w.heap.size, 3, none⟩ = some (.slice p3 0 q3) /\ W'.cell? ⟨w.heap.size, 4, none⟩ = some (.slice (some a) 4 cap)) 6 rfl (by kernel_rfl) ?_
   intro w' hw'
   have hbd : Below W2.heap.size W2 w' := by subst hw'; exact (Below.refl _ _).drew
   have hS := HST.out _ hbd
   have HBD := Lib.hid hbd
   clear hw' hbd
   refine tH 0 ?qv0 hS (fun w1 ⟨d1, d2, d3, d4, d5, d6⟩ => ?qy0) ?_
   case qy0 => (go_simp; try first | rfl | (rw [if_pos (by omega)]) | (rw [if_neg (by omega)]) | (rw [if_neg (by simp; omega)]) | (split <;> first | (exfalso; omega) | rfl))
   refine tH 1 ?qv1 hS (fun w1 ⟨d1, d2, d3, d4, d5, d6⟩ => ?qy1) ?_
   case qy1 => (go_simp; try first | rfl | (rw [if_pos (by omega)]) | (rw [if_neg (by omega)]) | (rw [if_neg (by simp; omega)]) | (split <;> first | (exfalso; omega) | rfl))
   simp only [Act.put, List.setIfInBounds_toArray, List.set_cons_succ, List.set_cons_zero]
   clear hS
   have HG : Hid (Calls Tryz.prog 104 #[.agg #[.int .i64 1, .slice p1 0 q1, .slice p2 0 q2, .slice p3 0 q3, .slice (some a) (4 * 1) cap], .int .i64 ((1 : Nat) : Int), .int .i64 ((10 : Nat) : Int), S [46]] w' (Gives (S (Tx.addr bs)) w')) :=
    groups_any 1 p1 p2 p3 0 q1 0 q2 0 q3 a 4 1 cap 10 bs [46] w' (.inl rfl) (by decide) (by decide) HBS.out (by decide) (Sl.below HR.out (below5 HB2.out HBD.out)) Tx.dec1 Tx.dec1_len (fun c hc W hb => by
     rw [Tx.dec1_of hc]
     exact fmtU_any _ (by have := Tx.val_le (l := c) (by omega); omega) W (HT.out.below (below5 (below5 HB2.out HBD.out) hb)))
   refine oneH 2 (by rfl) (by kernel_rfl) (fun K hK => ?_)
   gi_wp2_with fail
   refine (callsIn_wide.2 HG.out).mono ?_
   rintro e w4 ⟨rfl, b4⟩
   have HB4 := Lib.hid (below5 HBD.out b4)
   clear b4 HG
   gi_wp2_with fail
   refine hK _ _ (fun _ => HST.out _ HB4.out) ?_
   clear hK K
   refine oneH 3 (by rfl) (by kernel_rfl) (fun K hK => ?_)
   gi_wp2_with fail
   have HB5 : Hid (Below W2.heap.size W2 (w4.alloc (.cells #[S (Tx.addr bs)] 9))) := HB4.out.alloc HB4.out.size _
   refine hK _ _ (fun _ => HST.out _ HB5.out) ?_
   clear hK K
   refine oneH 4 (by rfl) (by kernel_rfl) (fun K hK => ?_)
   refine append_g (fun g => w.heap.size + 2 <= g) 9 _ 1 16 Tryz.info_str rfl (by decide) rfl _ _ _ Tryz.underlying22 rfl _ 0 [] (by rfl) (Row.nil _ _ _ _) _ [[S (Tx.addr bs)]] (by rfl) (GRd.new [S (Tx.addr bs)] rfl (by simp [Value.oneCell', S]) w4 9) (by simp) (by omega) (by have := S2.out; have := HB5.out.size; omega) ?_
   intro v10 w10 hrow10 hgr10
   obtain ⟨o10, c10, e10⟩ := hrow10.form
   subst e10
   have HR10 := Lib.hid hrow10
   have HG10 := Lib.hid hgr10
   have hb10 : Below W2.heap.size W2 w10 := HB5.out.grown hgr10 HB5.out.size (fun g hg => by simp [Value.ownBlock] at hg)
   refine hK _ _ (fun _ => HST.out _ hb10) ?_
   have HB10 := Lib.hid hb10
   clear hK K hrow10 hgr10 hb10
   refine oneH 5 (by rfl) (by kernel_rfl) (fun K hK => ?_)
   gi_wp2_with fail
   refine hK _ _ (fun h => by simp at h) ?_
   clear hK K
   refine doneH (by kernel_rfl) ?_
   gi_wp2_with fail
   go_ret
   have hr10 := HR10.out
   rw [show ([] ++ [[S (Tx.addr bs)]] : List (List Value)).flatten = [Tx.addr bs].map S from rfl] at hr10
   have hrd := Row.rd (ts := [Tx.addr bs]) hr10
   obtain ⟨⟨_, ho⟩, _⟩ := hr10
   rcases ho with ⟨e, h0⟩ | ⟨g, cap', cur, e, _, hg, _⟩
   ·simp at h0
   ·simp only [Value.slice.injEq] at e
    obtain ⟨rfl, _, rfl⟩ := e
    exact ⟨g, c10, rfl, hrd, (Array.getElem?_eq_some_iff.1 hg).1, below5 HB2.out HB10.out⟩
set_option maxHeartbeats 1000000 in
theorem dataTextA_any (p1 p2 p3 : Option Addr) (q1 q2 q3 : Nat) (a : Addr) (cap : Nat) (bs : List UInt8) (w : World) (ht : Tab w) (hbs : bs.length = 4) (hr : BtRd (.slice (some a) 4 cap) bs w) :
  Calls Tryz.prog 33 #[.agg #[.int .i64 1, .slice p1 0 q1, .slice p2 0 q2, .slice p3 0 q3, .slice (some a) 4 cap]] w (Gives (S (Tx.addr bs)) w) := by
 have HC := Lib.hid (fun W (hb : Below w.heap.size w W) => wordsA_any p1 p2 p3 q1 q2 q3 a cap bs W (ht.below hb) hbs (Sl.below hr hb))
 have hal : (Tx.addr bs).length <= 10000 := by
  have h1 := Tx.join_len (l := Tx.grp bs 1 Tx.dec1 4) (sep := [46]) (m := 1000) (fun x hx => by unfold Tx.grp at hx; obtain ⟨i, _, rfl⟩ := List.mem_map.1 hx; exact Tx.dec1_len _)
  rw [Tx.grp_len] at h1
  exact Nat.le_trans h1 (by decide)
 have HAL := Lib.hid hal
 clear ht hbs hr hal
 refine (callsIn_wide (n := 0)).1 ?_
 refine callsIn_of_wp Tryz.func33 rfl trivial ?_ rfl
 simp only [Tryz.ntmps33, List.size_toArray, List.length_cons, List.length_nil, Nat.reduceAdd, Nat.reduceSub, Array.replicate_succ, Array.replicate_zero, List.push_toArray, List.append_toArray, List.nil_append, List.cons_append]
 gi_wp2_with fail
 refine (callsIn_wide.2 (HC.out _ ?hb)).mono ?_
 case hb => exact (Below.refl _ _).alloc (Nat.le_refl _) _
 rintro e w2 ⟨g, c, rfl, hrd, hg, b2⟩
 have HRD := Lib.hid hrd
 have HG := Lib.hid hg
 have HB2 : Hid (Below w.heap.size w w2) := ((Below.refl _ _).alloc (Nat.le_refl _) _).trans (b2.mono (by simp))
 clear b2 hrd hg
 gi_wp2_with fail
 refine (callsIn_wide.2 (sjoin_any g 0 c [Tx.addr bs] [32] w2 HRD.out HG.out (by simp) ?hl)).mono ?_
 case hl => rw [Lib.join_one]; have := HAL.out; omega
 rintro e w3 ⟨rfl, b3⟩
 have HB3 := Lib.hid (below5 HB2.out b3)
 gi_wp2_with fail
 go_ret
 exact ⟨by rw [Lib.join_one]; rfl, HB3.out⟩
end Go.Proofs.YtgmbefolgppmdaaGreatDoor
end
section
namespace Go.Proofs.YtgmbefolgppmdaaGreatDoor
open Go.RowKit Go.Shelf
set_option maxRecDepth 100000
attribute [local go_sem] Oper.semAt_some
theorem Tx.addr_len (bs : List UInt8) : (Tx.addr bs).length <= 10000 := by
 have h1 := Tx.join_len (l := Tx.grp bs 1 Tx.dec1 4) (sep := [46]) (m := 1000) (fun x hx => by unfold Tx.grp at hx; obtain ⟨i, _, rfl⟩ := List.mem_map.1 hx; exact Tx.dec1_len _)
 rw [Tx.grp_len] at h1
 exact Nat.le_trans h1 (by decide)
theorem nm_text_len {o : List (List UInt8)} (no : NB o) : (Nm.text o).length <= 5000000 := by
 by_cases h : o = []
 ·subst h; decide
 ·rw [Nm.text_pos h]; have := no.words; omega
theorem rd_lit (l : List (List UInt8)) (w : World) (t : TypeId) (hl : l.length <= 1000) : Rd (.slice (some ⟨w.heap.size, 0, none⟩) l.length l.length) l (w.alloc (.cells (l.map S).toArray t)) := by
 refine ⟨_, _, rfl, Nat.le_refl _, by unfold maxLen; omega, (fun h => by cases h), fun j hj => ⟨_, rfl, ?_⟩⟩
 have hadd : (⟨w.heap.size, 0, none⟩ : Addr).add j = ⟨w.heap.size, j, none⟩ := by unfold Addr.add; split <;> simp_all
 rw [hadd, (Blk.new w _ t).cell j]
 simp [hj]
def Tx.recA (o : List (List UInt8)) (ttl : Nat) (bs : List UInt8) : List UInt8 := Lib.join [Nm.text o, Lib.decDigits ttl, [73, 78], [65], Tx.addr bs] [32]
set_option maxHeartbeats 4000000 in
theorem recTextA_any (po : Option Addr) (qo : Nat) (o : List (List UInt8)) (ttl : Nat) (p1 p2 p3 : Option Addr) (q1 q2 q3 : Nat) (a : Addr) (cap : Nat) (bs : List UInt8) (w : World) (ht : Tab w) (htt : ttl < 4294967296) (hbs : bs.length = 4) (hr : BtRd (.slice (some a) 4 cap) bs w)
  (ho : Rd (.slice po o.length qo) o w) (no : NB o) :
  Calls Tryz.prog 12 #[.agg #[.slice po o.length qo, .int .u32 (ttl : Int), .int .i64 1, .slice p1 0 q1, .slice p2 0 q2, .slice p3 0 q3, .slice (some a) 4 cap]] w (Gives (S (Tx.recA o ttl bs)) w) := by
 have HN := Lib.hid (fun W (hb : Below w.heap.size w W) => nText_any _ o W (ho.below hb) no)
 have HU := Lib.hid (fun W (hb : Below w.heap.size w W) => fmtU_any ttl (by omega) W (ht.below hb))
 have HY := Lib.hid (fun W (hb : Below w.heap.size w W) => typeText_any 1 (by decide) W (ht.below hb))
 have HD := Lib.hid (fun W (hb : Below w.heap.size w W) => dataTextA_any p1 p2 p3 q1 q2 q3 a cap bs W (ht.below hb) hbs (Sl.below hr hb))
 have hw : IntKind.u64.wrap (ttl : Int) = ttl := by rw [IntKind.wrap_u64]; omega
 have HL1 := Lib.hid (show (Nm.text o).length <= 5000000 from nm_text_len no)
 have HL2 := Lib.hid (dec_len ttl (by omega))
 clear ht hbs hr ho no
 refine (callsIn_wide (n := 0)).1 ?_
 refine callsIn_of_wp Tryz.func12 rfl trivial ?_ rfl
 simp only [Tryz.ntmps12, List.size_toArray, List.length_cons, List.length_nil, Nat.reduceAdd, Nat.reduceSub, Array.replicate_succ, Array.replicate_zero, List.push_toArray, List.append_toArray, List.nil_append, List.cons_append]
 gi_wp2_with fail
 obtain ⟨W2, hW2⟩ : ∃ W2, w.alloc (.cells #[.slice po o.length qo, .int .u32 (ttl : Int), .int .i64 1, .slice p1 0 q1, .slice p2 0 q2, .slice p3 0 q3, .slice (some a) 4 cap] 31) = W2 := ⟨_, rfl⟩
 rw [hW2]
 have hb2 : Below w.heap.size w W2 := by subst hW2; exact (Below.refl _ _).alloc (Nat.le_refl _) _
 have k0 : Blk w.heap.size #[.slice po o.length qo, .int .u32 (ttl : Int), .int .i64 1, .slice p1 0 q1, .slice p2 0 q2, .slice p3 0 q3, .slice (some a) 4 cap] 31 W2 := by subst hW2; exact Blk.new w _ _
 have HB2 := Lib.hid hb2
 have HST : Hid (∀ W', Below W2.heap.size W2 W' -> W'.cell? ⟨w.heap.size, 0, none⟩ = some (.slice po o.length qo) /\ W'.cell? ⟨w.heap.size, 1, none⟩ = some (.int .u32 (ttl : Int)) /\ W'.cell? ⟨w.heap.size, 2, none⟩ = some (.int .i64 1) /\ W'.cell? ⟨w.heap.size, 3, none⟩ = some (.slice p1 0 q1) /\ W'.cell? ⟨w.heap.size, 4, none⟩ = some (.slice p2 0 q2) /\ W'.cell? ⟨w.heap.size, 5, none⟩ = some (.slice p3 0 q3) /\ W'.cell? ⟨w.heap.size, 6, none⟩ = some (.slice (some a) 4 cap)) := fun W' hb =>
  ⟨(k0.below hb).cell 0, (k0.below hb).cell 1, (k0.below hb).cell 2, (k0.below hb).cell 3, (k0.below hb).cell 4, (k0.below hb).cell 5, (k0.below hb).cell 6⟩
 clear hW2 hb2 k0
 refine drawnH [1, 2, 4, 6, 9, 10, 12, 13, 14, 15] (fun W' => W'.cell? ⟨w.heap.size, 0, none⟩ = some (.slice po o.length qo) /\ W'.cell? ⟨w.heap.size, 1, none⟩ = some (.int .u32 (ttl : Int)) /\ W'.cell? ⟨w.heap.size, 2, none⟩ = some (.int .i64 1) /\ W'.cell? ⟨w.heap.size, 3, none⟩ = some (.slice p1 0 q1) /\ W'.cell? ⟨w.heap.size, 4, none⟩ = some (.slice p2 0 q2) /\ W'.cell? ⟨w.heap.size, 5, none⟩ = some (.slice p3 0 q3) /\ W'.cell? ⟨w.heap.size, 6, none⟩ = some (.slice (some a) 4 cap)) 17 rfl (by kernel_rfl) ?_
 intro w' hw'
 have hbd : Below W2.heap.size W2 w' := by subst hw'; exact (Below.refl _ _).drew
 have hS := HST.out _ hbd
 have HBD := Lib.hid hbd
 clear hw' hbd
 refine tP 0 ?qv0 (fun w1 _ => ?qy0) ?_
 case qy0 => (go_simp; try first | rfl | (rw [if_pos (by omega)]) | (rw [if_neg (by omega)]) | (rw [if_neg (by simp; omega)]) | (split <;> first | (exfalso; omega) | rfl))
 refine tP 3 ?qv3 (fun w1 _ => ?qy3) ?_
 case qy3 => (go_simp; try first | rfl | (rw [if_pos (by omega)]) | (rw [if_neg (by omega)]) | (rw [if_neg (by simp; omega)]) | (split <;> first | (exfalso; omega) | rfl))
 refine tP 7 ?qv7 (fun w1 _ => ?qy7) ?_
 case qy7 => (go_simp; try first | rfl | (rw [if_pos (by omega)]) | (rw [if_neg (by omega)]) | (rw [if_neg (by simp; omega)]) | (split <;> first | (exfalso; omega) | rfl))
 refine tP 8 ?qv8 (fun w1 _ => ?qy8) ?_
 case qy8 => (go_simp; try first | rfl | (rw [if_pos (by omega)]) | (rw [if_neg (by omega)]) | (rw [if_neg (by simp; omega)]) | (split <;> first | (exfalso; omega) | rfl))
 refine tP 11 ?qv11 (fun w1 _ => ?qy11) ?_
 case qy11 => (go_simp; try first | rfl | (rw [if_pos (by omega)]) | (rw [if_neg (by omega)]) | (rw [if_neg (by simp; omega)]) | (split <;> first | (exfalso; omega) | rfl))
 simp only [Act.put, List.setIfInBounds_toArray, List.set_cons_succ, List.set_cons_zero]
 refine tH 4 ?qv4 hS (fun w1 ⟨d0, d1, d2, d3, d4, d5, d6⟩ => ?qy4) ?_
 case qy4 => (go_simp; try first | rfl | (rw [if_pos (by omega)]) | (rw [if_neg (by omega)]) | (rw [if_neg (by simp; omega)]) | (split <;> first | (exfalso; omega) | rfl))
 simp only [Act.put, List.setIfInBounds_toArray, List.set_cons_succ, List.set_cons_zero]
 refine tP 5 ?qv5 (fun w1 _ => ?qy5) ?_
 case qy5 => (go_simp; try first | rfl | (rw [if_pos (by omega)]) | (rw [if_neg (by omega)]) | (rw [if_neg (by simp; omega)]) | (split <;> first | (exfalso; omega) | rfl))
 simp only [Act.put, List.setIfInBounds_toArray, List.set_cons_succ, List.set_cons_zero]
 refine tH 1 ?qv1 hS (fun w1 ⟨d0, d1, d2, d3, d4, d5, d6⟩ => ?qy1) ?_
 case qy1 => (go_simp; try first | rfl | (rw [if_pos (by omega)]) | (rw [if_neg (by omega)]) | (rw [if_neg (by simp; omega)]) | (split <;> first | (exfalso; omega) | rfl))
 refine tH 9 ?qv9 hS (fun w1 ⟨d0, d1, d2, d3, d4, d5, d6⟩ => ?qy9) ?_
 case qy9 => (go_simp; try first | rfl | (rw [if_pos (by omega)]) | (rw [if_neg (by omega)]) | (rw [if_neg (by simp; omega)]) | (split <;> first | (exfalso; omega) | rfl))
 refine tH 12 ?qv12 hS (fun w1 ⟨d0, d1, d2, d3, d4, d5, d6⟩ => ?qy12) ?_
 case qy12 => (go_simp; try first | rfl | (rw [if_pos (by omega)]) | (rw [if_neg (by omega)]) | (rw [if_neg (by simp; omega)]) | (split <;> first | (exfalso; omega) | rfl))
 simp only [Act.put, List.setIfInBounds_toArray, List.set_cons_succ, List.set_cons_zero]
 clear hS
 refine oneH 2 (by rfl) (by kernel_rfl) (fun K hK => ?_)
 gi_wp2_with fail
 refine (callsIn_wide.2 (HN.out _ (below5 HB2.out HBD.out))).mono ?_
 rintro e w3 ⟨rfl, b3⟩
 have HB3 := Lib.hid (below5 HBD.out b3)
 clear b3 HN
 gi_wp2_with fail
 refine hK _ _ (fun _ => HST.out _ HB3.out) ?_
 clear hK K
 refine oneH 6 (by rfl) (by kernel_rfl) (fun K hK => ?_)
 gi_wp2_with fail
 refine (callsIn_wide.2 (HU.out _ (below5 HB2.out HB3.out))).mono ?_
 rintro e w4 ⟨rfl, b4⟩
 have HB4 := Lib.hid (below5 HB3.out b4)
 clear b4 HU
 gi_wp2_with fail
 refine hK _ _ (fun _ => HST.out _ HB4.out) ?_
 clear hK K
 refine oneH 10 (by rfl) (by kernel_rfl) (fun K hK => ?_)
 gi_wp2_with fail
 refine (callsIn_wide.2 (HY.out _ (below5 HB2.out HB4.out))).mono ?_
 rintro e w5 ⟨rfl, b5⟩
 have HB5 := Lib.hid (below5 HB4.out b5)
 clear b5 HY
 gi_wp2_with fail
 refine hK _ _ (fun _ => HST.out _ HB5.out) ?_
 clear hK K
 refine oneH 13 (by rfl) (by kernel_rfl) (fun K hK => ?_)
 gi_wp2_with fail
 refine (callsIn_wide.2 (HD.out _ (below5 HB2.out HB5.out))).mono ?_
 rintro e w6 ⟨rfl, b6⟩
 have HB6 := Lib.hid (below5 HB5.out b6)
 clear b6 HD
 gi_wp2_with fail
 refine hK _ _ (fun _ => HST.out _ HB6.out) ?_
 clear hK K
 refine oneH 14 (by rfl) (by kernel_rfl) (fun K hK => ?_)
 gi_wp2_with fail
 have HB7 : Hid (Below W2.heap.size W2 (w6.alloc (.cells #[S (Nm.text o), S (Lib.decDigits ttl), .string ⟨#[73, 78]⟩, S (Ty.text 1), S (Tx.addr bs)] 9))) := HB6.out.alloc HB6.out.size _
 have hrd : Rd (.slice (some ⟨w6.heap.size, 0, none⟩) 5 5) [Nm.text o, Lib.decDigits ttl, [73, 78], [65], Tx.addr bs] (w6.alloc (.cells #[S (Nm.text o), S (Lib.decDigits ttl), .string ⟨#[73, 78]⟩, S (Ty.text 1), S (Tx.addr bs)] 9)) := rd_lit [Nm.text o, Lib.decDigits ttl, [73, 78], [65], Tx.addr bs] w6 9 (by simp)
 have hjl : (Tx.recA o ttl bs).length <= 140737488355328 := by
  have h1 := Tx.join_len (l := [Nm.text o, Lib.decDigits ttl, [73, 78], [65], Tx.addr bs]) (sep := [32]) (m := 5000000) (fun x hx => by
   have := HL1.out; have := HL2.out; have := Tx.addr_len bs
   simp only [List.mem_cons, List.not_mem_nil, or_false] at hx
   rcases hx with rfl | rfl | rfl | rfl | rfl <;> first | omega | simp)
  exact Nat.le_trans h1 (by simp)
 have HJ : Hid (Calls Tryz.prog 29 #[.slice (some ⟨w6.heap.size, 0, none⟩) 5 5, S [32]] (w6.alloc (.cells #[S (Nm.text o), S (Lib.decDigits ttl), .string ⟨#[73, 78]⟩, S (Ty.text 1), S (Tx.addr bs)] 9)) (Gives (S (Tx.recA o ttl bs)) (w6.alloc (.cells #[S (Nm.text o), S (Lib.decDigits ttl), .string ⟨#[73, 78]⟩, S (Ty.text 1), S (Tx.addr bs)] 9)))) :=
  sjoin_any w6.heap.size 0 5 [Nm.text o, Lib.decDigits ttl, [73, 78], [65], Tx.addr bs] [32] _ hrd (by simp) (by simp) hjl
 clear hrd hjl
 refine hK _ _ (fun _ => HST.out _ HB7.out) ?_
 clear hK K
 refine oneH 15 (by rfl) (by kernel_rfl) (fun K hK => ?_)
 gi_wp2_with fail
 refine (callsIn_wide.2 HJ.out).mono ?_
 rintro e w8 ⟨rfl, b8⟩
 have HB8 := Lib.hid (below5 HB7.out b8)
 clear b8 HJ
 gi_wp2_with fail
 refine hK _ _ (fun _ => HST.out _ HB8.out) ?_
 clear hK K
 refine oneH 16 (by rfl) (by kernel_rfl) (fun K hK => ?_)
 gi_wp2_with fail
 refine hK _ _ (fun h => by simp at h) ?_
 clear hK K
 refine doneH (by kernel_rfl) ?_
 gi_wp2_with fail
 go_ret
 exact ⟨rfl, below5 HB2.out HB8.out⟩
end Go.Proofs.YtgmbefolgppmdaaGreatDoor
end
section
namespace Go.Proofs.YtgmbefolgppmdaaGreatDoor
open Go.RowKit Go.Shelf
set_option maxRecDepth 100000
attribute [local go_sem] Oper.semAt_some
theorem ofA_any (w : World) : Calls Tryz.prog 82 #[.int .i64 1] w (Gives (.agg #[.int .i64 0, .int .i64 0, .int .i64 0, .int .i64 4]) w) := by
 go_enter Tryz.func82, Tryz.ntmps82
 go_wp2
 refine bodyPost_ret (v := .agg #[.int .i64 0, .int .i64 0, .int .i64 0, .int .i64 4]) (by simp [results, Tryz.results82, go_sem]; try rfl) rfl ?_
 exact ⟨rfl, (Below.refl _ _).alloc (Nat.le_refl _) _⟩
set_option maxHeartbeats 1000000 in
theorem formA_any (p1 p2 p3 : Option Addr) (q1 q2 q3 : Nat) (a : Addr) (cap : Nat) (w : World) :
  Calls Tryz.prog 51 #[.agg #[.int .i64 1, .slice p1 0 q1, .slice p2 0 q2, .slice p3 0 q3, .slice (some a) 4 cap]] w (Gives (.bool true) w) := by
 refine (callsIn_wide (n := 0)).1 ?_
 refine callsIn_of_wp Tryz.func51 rfl trivial ?_ rfl
 simp only [Tryz.ntmps51, List.size_toArray, List.length_cons, List.length_nil, Nat.reduceAdd, Nat.reduceSub, Array.replicate_succ, Array.replicate_zero, List.push_toArray, List.append_toArray, List.nil_append, List.cons_append]
 gi_wp2_with fail
 refine (callsIn_wide.2 (ofA_any _)).mono ?_
 rintro e w2 ⟨rfl, b2⟩
 have hb2 : Below w.heap.size w w2 := ((Below.refl _ _).alloc (Nat.le_refl _) _).trans (b2.mono (by simp))
 have k0 : Blk w.heap.size #[.int .i64 1, .slice p1 0 q1, .slice p2 0 q2, .slice p3 0 q3, .slice (some a) 4 cap] 29 w2 := (Blk.new w _ _).below b2
 have hlt := k0.lt
 have c1 : (w2.alloc (.cells #[.int .i64 0, .int .i64 0, .int .i64 0, .int .i64 4] 113)).cell? ⟨w.heap.size, 1, none⟩ = some (.slice p1 0 q1) := (k0.alloc _).cell 1
 have c2 : (w2.alloc (.cells #[.int .i64 0, .int .i64 0, .int .i64 0, .int .i64 4] 113)).cell? ⟨w.heap.size, 2, none⟩ = some (.slice p2 0 q2) := (k0.alloc _).cell 2
 have c3 : (w2.alloc (.cells #[.int .i64 0, .int .i64 0, .int .i64 0, .int .i64 4] 113)).cell? ⟨w.heap.size, 3, none⟩ = some (.slice p3 0 q3) := (k0.alloc _).cell 3
 have c4 : (w2.alloc (.cells #[.int .i64 0, .int .i64 0, .int .i64 0, .int .i64 4] 113)).cell? ⟨w.heap.size, 4, none⟩ = some (.slice (some a) 4 cap) := (k0.alloc _).cell 4
 have HB2 := Lib.hid hb2
 have HLT := Lib.hid hlt
 clear b2 hb2 k0 hlt
 gi_wp2_with fail
 go_ret
 exact ⟨rfl, HB2.out.alloc HB2.out.size _⟩
set_option maxHeartbeats 1000000 in
theorem idxNone_any (v : Value) (p : Option Addr) (c : Nat) (w : World) : Calls Tryz.prog 83 #[.slice p 0 c, v] w fun e w' => e = .returned (.int .i64 (-1)) /\ w = w' := by
 refine (callsIn_wide (n := 0)).1 ?_
 refine callsIn_of_wp Tryz.func83 rfl trivial ?_ rfl
 simp only [Tryz.ntmps83, List.size_toArray, List.length_cons, List.length_nil, Nat.reduceAdd, Nat.reduceSub, Array.replicate_succ, Array.replicate_zero, List.push_toArray, List.append_toArray, List.nil_append, List.cons_append]
 gi_wp2_with fail
 gi_loopw [8] (fun vi wr => vi = .int .i64 0 /\ w = wr) (fun _ _ => 0)
 case atStart => exact ⟨rfl, rfl⟩
 case round =>
  obtain ⟨rfl, rfl⟩ := hrel
  gi_wp2_with fail
  go_ret
  exact ⟨rfl, rfl⟩
theorem contNone_any (v : Value) (p : Option Addr) (c : Nat) (w : World) : Calls Tryz.prog 52 #[.slice p 0 c, v] w fun e w' => e = .returned (.bool false) /\ w = w' := by
 refine (callsIn_wide (n := 0)).1 ?_
 refine callsIn_of_wp Tryz.func52 rfl trivial ?_ rfl
 simp only [Tryz.ntmps52, List.size_toArray, List.length_cons, List.length_nil, Nat.reduceAdd, Nat.reduceSub, Array.replicate_succ, Array.replicate_zero, List.push_toArray, List.append_toArray, List.nil_append, List.cons_append]
 gi_wp2_with fail
 refine (callsIn_wide.2 (idxNone_any v p c w)).mono ?_
 rintro e w' ⟨rfl, rfl⟩
 gi_wp2_with fail
 go_ret
 exact ⟨rfl, rfl⟩
set_option maxHeartbeats 1000000 in
theorem dataCheckA_any (p1 p2 p3 : Option Addr) (q1 q2 q3 : Nat) (a : Addr) (cap : Nat) (w : World) :
  Calls Tryz.prog 24 #[.agg #[.int .i64 1, .slice p1 0 q1, .slice p2 0 q2, .slice p3 0 q3, .slice (some a) 4 cap]] w (Gives (.int .i64 0) w) := by
 refine (callsIn_wide (n := 0)).1 ?_
 refine callsIn_of_wp Tryz.func24 rfl trivial ?_ rfl
 simp only [Tryz.ntmps24, List.size_toArray, List.length_cons, List.length_nil, Nat.reduceAdd, Nat.reduceSub, Array.replicate_succ, Array.replicate_zero, List.push_toArray, List.append_toArray, List.nil_append, List.cons_append]
 gi_wp2_with fail
 refine (callsIn_wide.2 (formA_any p1 p2 p3 q1 q2 q3 a cap _)).mono ?_
 rintro e w2 ⟨rfl, b2⟩
 have hb2 : Below w.heap.size w w2 := ((Below.refl _ _).alloc (Nat.le_refl _) _).trans (b2.mono (by simp))
 have k0 : Blk w.heap.size #[.int .i64 1, .slice p1 0 q1, .slice p2 0 q2, .slice p3 0 q3, .slice (some a) 4 cap] 29 w2 := (Blk.new w _ _).below b2
 have c0 : w2.cell? ⟨w.heap.size, 0, none⟩ = some (.int .i64 1) := k0.cell 0
 have c1 : w2.cell? ⟨w.heap.size, 1, none⟩ = some (.slice p1 0 q1) := k0.cell 1
 have c3 : w2.cell? ⟨w.heap.size, 3, none⟩ = some (.slice p3 0 q3) := k0.cell 3
 have c4 : w2.cell? ⟨w.heap.size, 4, none⟩ = some (.slice (some a) 4 cap) := k0.cell 4
 have HB2 := Lib.hid hb2
 clear b2 hb2 k0
 gi_wp2_with fail
 gi_loopw [22] (fun vi wr => vi = .int .i64 0 /\ w2 = wr) (fun _ _ => 0)
 case atStart => exact ⟨rfl, rfl⟩
 case round =>
  obtain ⟨rfl, rfl⟩ := hrel
  gi_wp2_with fail
  refine (callsIn_wide.2 (contNone_any _ _ _ w2)).mono ?_
  rintro e w' ⟨rfl, rfl⟩
  gi_wp2_with fail
  go_ret
  exact ⟨rfl, HB2.out⟩
set_option maxHeartbeats 1000000 in
theorem recCheckA_any (po : Option Addr) (qo : Nat) (o : List (List UInt8)) (ttl : Nat) (p1 p2 p3 : Option Addr) (q1 q2 q3 : Nat) (a : Addr) (cap : Nat) (w : World) (htt : ttl <= 2147483647) (ho : Rd (.slice po o.length qo) o w) (no : NB o) (hc : Nm.check o = 0) :
  Calls Tryz.prog 9 #[.agg #[.slice po o.length qo, .int .u32 (ttl : Int), .int .i64 1, .slice p1 0 q1, .slice p2 0 q2, .slice p3 0 q3, .slice (some a) 4 cap]] w (Gives (.int .i64 0) w) := by
 have HN := Lib.hid (fun W (hb : Below w.heap.size w W) => nCheck_any _ o W (ho.below hb) no)
 have HC := Lib.hid hc
 have h1 : (ttl : Int) <= 2147483647 := by omega
 clear ho no hc
 refine (callsIn_wide (n := 0)).1 ?_
 refine callsIn_of_wp Tryz.func9 rfl trivial ?_ rfl
 simp only [Tryz.ntmps9, List.size_toArray, List.length_cons, List.length_nil, Nat.reduceAdd, Nat.reduceSub, Array.replicate_succ, Array.replicate_zero, List.push_toArray, List.append_toArray, List.nil_append, List.cons_append]
 gi_wp2_with fail
 refine (callsIn_wide.2 (HN.out _ ?hb)).mono ?_
 case hb => exact (Below.refl _ _).alloc (Nat.le_refl _) _
 rintro e w2 ⟨rfl, b2⟩
 rw [HC.out]
 have hb2 : Below w.heap.size w w2 := ((Below.refl _ _).alloc (Nat.le_refl _) _).trans (b2.mono (by simp))
 have k0 : Blk w.heap.size #[.slice po o.length qo, .int .u32 (ttl : Int), .int .i64 1, .slice p1 0 q1, .slice p2 0 q2, .slice p3 0 q3, .slice (some a) 4 cap] 31 w2 := (Blk.new w _ _).below b2
 have c1 : w2.cell? ⟨w.heap.size, 1, none⟩ = some (.int .u32 (ttl : Int)) := k0.cell 1
 have c2 : w2.cell? ⟨w.heap.size, 2, none⟩ = some (.int .i64 1) := k0.cell 2
 have c3 : w2.cell? ⟨w.heap.size, 3, none⟩ = some (.slice p1 0 q1) := k0.cell 3
 have c4 : w2.cell? ⟨w.heap.size, 4, none⟩ = some (.slice p2 0 q2) := k0.cell 4
 have c5 : w2.cell? ⟨w.heap.size, 5, none⟩ = some (.slice p3 0 q3) := k0.cell 5
 have c6 : w2.cell? ⟨w.heap.size, 6, none⟩ = some (.slice (some a) 4 cap) := k0.cell 6
 have HB2 := Lib.hid hb2
 clear b2 hb2 k0
 gi_wp2_with fail
 refine (callsIn_wide.2 (dataCheckA_any p1 p2 p3 q1 q2 q3 a cap w2)).mono ?_
 rintro e w3 ⟨rfl, b3⟩
 have HB3 := Lib.hid (below5 HB2.out b3)
 gi_wp2_with fail
 go_ret
 exact ⟨rfl, HB3.out⟩
end Go.Proofs.YtgmbefolgppmdaaGreatDoor
end
