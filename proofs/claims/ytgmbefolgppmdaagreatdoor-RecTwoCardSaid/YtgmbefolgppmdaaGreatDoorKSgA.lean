/- Rows of data, the document's: alike, in order. -/
import Derived.Test.YtgmbefolgppmdaaGreatDoorKCdA
import Derived.Test.YtgmbefolgppmdaaGreatDoorKGr
namespace Go.Proofs.YtgmbefolgppmdaaGreatDoor
open Go.RowKit Go.Shelf Go.Sort Go.ChangeShapes Go.WideShapes
set_option maxRecDepth 100000
theorem DatRd.cells5 {vs : List Value} {r : Rc.PRec} {W : World} (h : DatRd vs r W) : ∃ us p1 q1 p2 n2 q2 p3 n3 q3 p4 n4 q4, vs = [.int .i64 r.type, .slice p1 us.length q1, .slice p2 n2 q2, .slice p3 n3 q3, .slice p4 n4 q4] /\ Sl (.slice p1 us.length q1) us W /\ us.length = r.names.length /\ (∀ u ∈ us, ∃ o l c, u = .slice o l c) := by
 obtain ⟨vn, vm, vt, vr, rfl, ⟨us, u1, u2, u3⟩, h2, h3, h4⟩ := h
 obtain ⟨p1, q1, e1, _⟩ := u2.form
 obtain ⟨p2, q2, e2, _⟩ := h2.form
 obtain ⟨p3, q3, e3, _⟩ := h3.form
 obtain ⟨p4, q4, e4, _⟩ := Sl.form h4
 subst e1; subst e2; subst e3; subst e4
 refine ⟨us, p1, q1, p2, _, q2, p3, _, q3, p4, _, q4, rfl, u2, u1, fun u hu => ?_⟩
 obtain ⟨i, hi, rfl⟩ := List.mem_iff_getElem.1 hu
 obtain ⟨o, c, e, _⟩ := (u3 i hi (by omega)).form
 exact ⟨_, _, _, e⟩
theorem DatRd.ok {vs : List Value} {r : Rc.PRec} {W : World} (h : DatRd vs r W) : vs.length = 5 /\ ∀ u ∈ vs, u.oneCell' = true := by
 obtain ⟨us, p1, q1, p2, n2, q2, p3, n3, q3, p4, n4, q4, rfl, _⟩ := h.cells5
 refine ⟨rfl, fun u hu => ?_⟩
 simp only [List.mem_cons, List.not_mem_nil, or_false] at hu
 rcases hu with rfl | rfl | rfl | rfl | rfl <;> rfl
def DtsRd (v : Value) (l : List RP) (W : World) : Prop := GRd 5 v (l.map (·.1)) W /\ ∀ x ∈ l, DatRd x.1 x.2 W
theorem DtsRd.below {v : Value} {l : List RP} {W W' : World} (h : DtsRd v l W) (hb : Below W.heap.size W W') : DtsRd v l W' := ⟨h.1.below hb, fun x hx => (h.2 x hx).below hb⟩
theorem DtsRd.form {v : Value} {l : List RP} {W : World} (h : DtsRd v l W) : ∃ o cap, v = .slice o l.length cap /\ l.length <= cap /\ cap <= 9223372036854775807 := by
 obtain ⟨o, cap, h1, h2, h3⟩ := h.1.form
 rw [List.length_map] at h1 h2
 exact ⟨o, cap, h1, h2, h3⟩
theorem DtsRd.el {o : Option Addr} {n cap : Nat} {l : List RP} {W : World} (h : DtsRd (.slice o n cap) l W) : ∀ W', Below W.heap.size W W' -> ∀ (i : Nat) (hi : i < l.length) (c0 c1 c2 c3 c4 : Value), l[i].1 = [c0, c1, c2, c3, c4] -> ∃ a, o = some a /\
  W'.cell? (a.add (i * 5)) = some c0 /\ W'.cell? ⟨(a.add (i * 5)).block, (a.add (i * 5)).off + 1, none⟩ = some c1 /\ W'.cell? ⟨(a.add (i * 5)).block, (a.add (i * 5)).off + 2, none⟩ = some c2 /\ W'.cell? ⟨(a.add (i * 5)).block, (a.add (i * 5)).off + 3, none⟩ = some c3 /\ W'.cell? ⟨(a.add (i * 5)).block, (a.add (i * 5)).off + 4, none⟩ = some c4 := by
 intro W' hb i hi c0 c1 c2 c3 c4 hx
 obtain ⟨a, ha, h0, h1⟩ := (h.1.below hb).at (by decide) i (by simpa using hi)
 simp only [List.getElem_map, hx] at h0 h1
 exact ⟨a, ha, h0, h1 1 (by decide) (by decide), h1 2 (by decide) (by decide), h1 3 (by decide) (by decide), h1 4 (by decide) (by decide)⟩
def plD (l : List RP) : List Rc.PRec := l.map (·.2)
end Go.Proofs.YtgmbefolgppmdaaGreatDoor
