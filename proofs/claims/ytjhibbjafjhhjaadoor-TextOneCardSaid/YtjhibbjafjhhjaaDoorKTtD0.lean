/- Reports: plain data, their rows; how they lie in memory. -/
import Derived.Test.YtjhibbjafjhhjaaDoorKTtC
import Derived.Test.YtjhibbjafjhhjaaDoorKRf2
namespace Go.Proofs.YtjhibbjafjhhjaaDoor
open Go.RowKit Go.Shelf
set_option maxRecDepth 100000
namespace Tt
structure Er where
 path : List UInt8
 line : Int
 err : Int
structure Fl where
 kind : Int
 owner : List (List UInt8)
 type : Int
structure Eg where
 kind : Int
 parent : List (List UInt8)
 child : List (List UInt8)
 host : List (List UInt8)
 server : Int
structure Se where
 kind : Int
 name : List (List UInt8)
 type : Int
 picks : List Int
structure Rep where
 es : List Er
 fs : List Fl
 gs : List Eg
 ss : List Se
 err : Int
def wd (t : List (List UInt8)) (k : Nat) : List UInt8 := t[k]?.getD []
theorem wd_at {t : List (List UInt8)} {k : Nat} (h : k < t.length) : wd t k = t[k] := by simp [wd, h]
def erRow (e : Er) : List (List UInt8) := [[101, 114, 114, 111, 114], errText e.path e.line.toNat (wd errs e.err.toNat)]
def flRow (f : Fl) : List (List UInt8) := [[102, 108, 97, 119], wd flaws f.kind.toNat, Nm.text f.owner, Ty.text f.type.toNat]
def egRow (g : Eg) : List (List UInt8) := [[101, 100, 103, 101], wd edges g.kind.toNat, Nm.text g.parent, Nm.text g.child, host g.host, Lib.decDigits g.server.toNat]
def seRow (s : Se) : List (List UInt8) := [[115, 101, 101, 110], wd ends s.kind.toNat, Nm.text s.name, Ty.text s.type.toNat, picks (s.picks.map Int.toNat)]
def endRow (e : Int) : List (List (List UInt8)) := if e = 0 then [] else [[[115, 116, 111, 112, 112, 101, 100], wd errs e.toNat]]
def rows (r : Rep) : List (List (List UInt8)) := r.es.map erRow ++ (r.fs.map flRow ++ (r.gs.map egRow ++ (r.ss.map seRow ++ endRow r.err)))
structure Er.Ok (e : Er) : Prop where
 p : e.path.length <= 50
 l0 : 0 <= e.line
 l1 : e.line <= 1099511627776
 e0 : 1 <= e.err
 e1 : e.err <= 12
structure Fl.Ok (f : Fl) : Prop where
 n : NB f.owner
 k0 : 1 <= f.kind
 k1 : f.kind <= 9
 t0 : 1 <= f.type
 t1 : f.type <= 65535
structure Eg.Ok (g : Eg) : Prop where
 p : NB g.parent
 c : NB g.child
 h : NB g.host
 k0 : 1 <= g.kind
 k1 : g.kind <= 4
 s0 : 0 <= g.server
 s1 : g.server <= 1099511627776
structure Se.Ok (s : Se) : Prop where
 n : NB s.name
 l : s.picks.length <= 20
 k0 : 1 <= s.kind
 k1 : s.kind <= 9
 t0 : 1 <= s.type
 t1 : s.type <= 65535
 p : ∀ x ∈ s.picks, 0 <= x /\ x <= 1099511627776
structure Rep.Ok (r : Rep) : Prop where
 el : r.es.length <= 10
 fl : r.fs.length <= 10
 gl : r.gs.length <= 10
 sl : r.ss.length <= 10
 e : ∀ x ∈ r.es, x.Ok
 f : ∀ x ∈ r.fs, x.Ok
 g : ∀ x ∈ r.gs, x.Ok
 s : ∀ x ∈ r.ss, x.Ok
 r0 : 0 <= r.err
 r1 : r.err <= 12
end Tt
def LRd {α : Type} (k : Nat) (enc : α -> List Value -> World -> Prop) (v : Value) (l : List α) (W : World) : Prop :=
 ∃ xs : List (List Value), GRd k v xs W /\ xs.length = l.length /\ ∀ j (h : j < l.length) (h' : j < xs.length), enc l[j] xs[j] W
def Stays {α : Type} (enc : α -> List Value -> World -> Prop) : Prop := ∀ a cs W W', enc a cs W -> Below W.heap.size W W' -> enc a cs W'
theorem LRd.below {α : Type} {k : Nat} {enc : α -> List Value -> World -> Prop} {v : Value} {l : List α} {W W' : World} (h : LRd k enc v l W) (he : Stays enc) (hb : Below W.heap.size W W') : LRd k enc v l W' := by
 obtain ⟨xs, h1, h2, h3⟩ := h
 exact ⟨xs, h1.below hb, h2, fun j h h' => he _ _ _ _ (h3 j h h') hb⟩
theorem LRd.form {α : Type} {k : Nat} {enc : α -> List Value -> World -> Prop} {v : Value} {l : List α} {W : World} (h : LRd k enc v l W) : ∃ o c, v = .slice o l.length c := by
 obtain ⟨xs, h1, h2, h3⟩ := h
 obtain ⟨o, c, e, _⟩ := h1.form
 exact ⟨o, c, by rw [e, h2]⟩
theorem LRd.at {α : Type} {k : Nat} {enc : α -> List Value -> World -> Prop} {o : Option Addr} {n c : Nat} {l : List α} {W : World} (h : LRd k enc (.slice o n c) l W) (hk : 0 < k) (j : Nat) (hj : j < l.length) :
  ∃ cs z, enc l[j] cs W /\ cs.length = k /\ (∃ a, o = some a /\ z = a.add (j * k)) /\ W.cell? z = cs[0]? /\ ∀ c, 0 < c -> c < k -> W.cell? ⟨z.block, z.off + c, none⟩ = cs[c]? := by
 obtain ⟨xs, h1, h2, h3⟩ := h
 have hj' : j < xs.length := by omega
 obtain ⟨a, rfl, e0, e1⟩ := h1.at hk j hj'
 exact ⟨xs[j], a.add (j * k), h3 j hj hj', h1.len _ (List.getElem_mem hj'), ⟨a, rfl, rfl⟩, e0, e1⟩
def encEr (e : Tt.Er) (cs : List Value) (W : World) : Prop := ∃ b, cs = [.pointer (some ⟨b, 0, none⟩)] /\ Blk b #[S e.path, .int .i64 e.line, .int .i64 e.err] 32 W
def encFl (f : Tt.Fl) (cs : List Value) (W : World) : Prop := ∃ vo, cs = [.int .i64 f.kind, vo, .int .i64 f.type] /\ Rd vo f.owner W
def encEg (g : Tt.Eg) (cs : List Value) (W : World) : Prop := ∃ vp vc vh, cs = [.int .i64 g.kind, vp, vc, vh, .int .i64 g.server] /\ Rd vp g.parent W /\ Rd vc g.child W /\ Rd vh g.host W
def encSe (s : Tt.Se) (cs : List Value) (W : World) : Prop := ∃ vn vp, cs = [.int .i64 s.kind, vn, .int .i64 s.type, vp] /\ Rd vn s.name W /\ Sl vp (s.picks.map I64) W
theorem Sl.below {v : Value} {cs : List Value} {W W' : World} (h : Sl v cs W) (hb : Below W.heap.size W W') : Sl v cs W' := by
 obtain ⟨o, c, h1, h2, h3, h4, h5⟩ := h
 exact ⟨o, c, h1, h2, h3, h4, fun j hj => by obtain ⟨a, ha, e⟩ := h5 j hj; exact ⟨a, ha, (hb.cell (cell_lt e)).trans e⟩⟩
theorem stays_er : Stays encEr := fun _ _ _ _ ⟨b, e, h⟩ hb => ⟨b, e, h.below hb⟩
theorem stays_fl : Stays encFl := fun _ _ _ _ ⟨b, e, h⟩ hb => ⟨b, e, h.below hb⟩
theorem stays_eg : Stays encEg := fun _ _ _ _ ⟨b, c, d, e, h, i, j⟩ hb => ⟨b, c, d, e, h.below hb, i.below hb, j.below hb⟩
theorem stays_se : Stays encSe := fun _ _ _ _ ⟨b, c, e, h, i⟩ hb => ⟨b, c, e, h.below hb, i.below hb⟩
structure RepRd (ve vf vg vs : Value) (r : Tt.Rep) (W : World) : Prop where
 e : LRd 1 encEr ve r.es W
 f : LRd 3 encFl vf r.fs W
 g : LRd 5 encEg vg r.gs W
 s : LRd 4 encSe vs r.ss W
theorem RepRd.below {ve vf vg vs : Value} {r : Tt.Rep} {W W' : World} (h : RepRd ve vf vg vs r W) (hb : Below W.heap.size W W') : RepRd ve vf vg vs r W' :=
 ⟨h.e.below stays_er hb, h.f.below stays_fl hb, h.g.below stays_eg hb, h.s.below stays_se hb⟩
theorem NuRd.of_sl {v : Value} {l : List Int} {W : World} (h : Sl v (l.map I64) W) (hp : ∀ x ∈ l, 0 <= x) : NuRd v (l.map Int.toNat) W := by
 unfold NuRd
 have : (l.map Int.toNat).map (fun n : Nat => Value.int .i64 (n : Int)) = l.map I64 := by
  rw [List.map_map]
  refine List.map_congr_left fun x hx => ?_
  have := hp x hx
  show Value.int .i64 ((x.toNat : Int)) = I64 x
  rw [Int.toNat_of_nonneg this]
 rw [this]; exact h
theorem rd_built (l : List (List UInt8)) (hl : l.length <= 1000) (W : World) : Rd (.slice (some ⟨W.heap.size, 0, none⟩) l.length l.length) l (W.alloc (.cells (l.map S).toArray 9)) := by
 refine ⟨_, _, rfl, Nat.le_refl _, by unfold maxLen; omega, (fun h => by cases h), fun j hj => ⟨_, rfl, ?_⟩⟩
 have hadd : (⟨W.heap.size, 0, none⟩ : Addr).add j = ⟨W.heap.size, j, none⟩ := by unfold Addr.add; split <;> simp_all
 rw [hadd, (Blk.new W (l.map S).toArray 9).cell j]
 simp [hj]
theorem NB.text_len {n : List (List UInt8)} (h : NB n) : (Nm.text n).length <= 5000000 := by
 unfold Nm.text
 split
 ·simp
 ·have := h.words; omega
namespace Tt
theorem wd_len {t : List (List UInt8)} {k m : Nat} (h : ∀ s ∈ t, s.length <= m) : (wd t k).length <= m := by
 unfold wd
 rcases hk : t[k]? with _ | s
 ·simp
 ·exact h s (List.mem_of_getElem? hk)
def Short (r : List (List UInt8)) : Prop := r.length <= 10 /\ 0 < r.length /\ ∀ s ∈ r, s.length <= 5000000
theorem Er.Ok.short {e : Er} (h : e.Ok) : Short (erRow e) := by
 refine ⟨by simp [erRow], by simp [erRow], fun s hs => ?_⟩
 simp only [erRow, List.mem_cons, List.not_mem_nil, or_false] at hs
 rcases hs with rfl | rfl
 ·decide
 ·unfold errText
  have h1 := dec_len e.line.toNat (by have := h.l1; omega)
  have h2 : (wd errs e.err.toNat).length <= 10 := wd_len errs_len
  have h3 := h.p
  simp only [List.length_append, List.length_cons, List.length_nil]; omega
theorem Fl.Ok.short {f : Fl} (h : f.Ok) : Short (flRow f) := by
 refine ⟨by simp [flRow], by simp [flRow], fun s hs => ?_⟩
 simp only [flRow, List.mem_cons, List.not_mem_nil, or_false] at hs
 rcases hs with rfl | rfl | rfl | rfl
 ·decide
 ·have : (wd flaws f.kind.toNat).length <= 20 := wd_len flaws_len
  omega
 ·exact h.n.text_len
 ·have := Ty.text_len f.type.toNat (by have := h.t1; omega)
  omega
theorem host_len {n : List (List UInt8)} (h : NB n) : (host n).length <= 5000000 := by
 unfold host
 split
 ·simp
 ·exact h.text_len
theorem Eg.Ok.short {g : Eg} (h : g.Ok) : Short (egRow g) := by
 refine ⟨by simp [egRow], by simp [egRow], fun s hs => ?_⟩
 simp only [egRow, List.mem_cons, List.not_mem_nil, or_false] at hs
 rcases hs with rfl | rfl | rfl | rfl | rfl | rfl
 ·decide
 ·have : (wd edges g.kind.toNat).length <= 20 := wd_len edges_len
  omega
 ·exact h.p.text_len
 ·exact h.c.text_len
 ·exact host_len h.h
 ·have := dec_len g.server.toNat (by have := h.s1; omega)
  omega
theorem Se.Ok.short {s : Se} (h : s.Ok) : Short (seRow s) := by
 refine ⟨by simp [seRow], by simp [seRow], fun x hx => ?_⟩
 simp only [seRow, List.mem_cons, List.not_mem_nil, or_false] at hx
 rcases hx with rfl | rfl | rfl | rfl | rfl
 ·decide
 ·have : (wd ends s.kind.toNat).length <= 20 := wd_len ends_len
  omega
 ·exact h.n.text_len
 ·have := Ty.text_len s.type.toNat (by have := h.t1; omega)
  omega
 ·have := picks_len (l := s.picks.map Int.toNat) (by rw [List.length_map]; exact h.l) (fun n hn => by
   obtain ⟨y, hy, rfl⟩ := List.mem_map.1 hn
   have := h.p y hy; omega)
  omega
end Tt
end Go.Proofs.YtjhibbjafjhhjaaDoor
