/- TypeAny: for every argument the law returns true, and what was there before the call is as it was. The tables that it lists are tied to the program. -/
import Derived.Test.YtjhibbjafjhhjaaDoorRows
import Derived.Test.YtjhibbjafjhhjaaDoorCards
import Derived.Test.YtjhibbjafjhhjaaDoorTie
import Derived.Test.YtjhibbjafjhhjaaDoorKTyI
import Derived.ProofKit
import Derived.LaidMore
import Derived.Lay
import Derived.OpenShut
import Derived.Stop.Joined
import Derived.Stop.LaidErr
import Derived.Lib.LaidTab
import Derived.SevenTiedAt
import Derived.ShutString
import Derived.ChangeOld
import Derived.Below
namespace Go.Proofs.YtjhibbjafjhhjaaDoor.lawTypeAnyCard
open Go.Proofs.YtjhibbjafjhhjaaDoor
open Go.ChangeShapes Go.WideShapes Go.ChangeAt Go.RowKit
open Go.ChangeMaps (open_string shut_string)
theorem own : ownKnob Tryd.prog.godebug = none := by kernel_rfl
theorem laidOut : laidOutB Tryd.prog = true := by kernel_rfl
set_option maxRecDepth 100000 in
theorem door_met (os : Os) (args : Array Value) : laidMetH Tryd.prog Rows.typeAnyRow.laid ((World.laidAll Tryd.prog os Rows.typeAnyRow.laid).forCall (fun _ _ => 0) ⟨#[], args, []⟩).memory := by
 rw [MakeChecks.laidMetH_plain _ _ _ (by kernel_rfl)]; exact laidMet_laidAll _ (by kernel_rfl) (by kernel_rfl)
theorem pow_data : Rows.laid_internal_strconv_uint64pow10 (H := Unit) = Lib.tabData .u64 Lib.pow10Tab := by kernel_rfl
set_option maxRecDepth 100000 in
theorem tab_of {W : World} (h : laidMetH Tryd.prog Rows.typeAnyRow.laid W) : Tab W := by
 rw [MakeChecks.laidMetH_plain _ _ _ (by kernel_rfl)] at h
 have h2 := h.tail.tail
 obtain ⟨r, h3⟩ : ∃ r, laidMet Tryd.prog (("internal/strconv.uint64pow10", Lib.tabData .u64 Lib.pow10Tab) :: r) W := by rw [<- pow_data]; exact ⟨_, h2⟩
 exact Lib.tabIs_of_head (g := 3) (t := 169) (e := 82) (n := 20) (by kernel_rfl) (by kernel_rfl) Tryd.underlying169 Tryd.underlying82 (by kernel_rfl) (by kernel_rfl) h3
theorem row_es (u : TypeId) (h : Tryd.prog.typeName? 3 u = some "*errors.errorString") : u = 179 :=
 typeName_ptr_named (nm := "errors.errorString") (by rw [show "*" ++ "errors.errorString" = "*errors.errorString" by decide]; kernel_rfl) (by kernel_rfl) (by decide) u (by rw [show "*" ++ "errors.errorString" = "*errors.errorString" by decide]; exact h)
set_option maxRecDepth 100000 in
theorem ev_of {W : World} (h : laidMetH Tryd.prog Rows.typeAnyRow.laid W) : EV W := by
 rw [MakeChecks.laidMetH_plain _ _ _ (by kernel_rfl)] at h
 have h2 := h.tail.tail.tail.tail
 obtain ⟨r, h3⟩ : ∃ r, laidMet Tryd.prog (("strconv.ErrRange", .iface "*errors.errorString" (.ptr (.agg [.lit (.string [118, 97, 108, 117, 101, 32, 111, 117, 116, 32, 111, 102, 32, 114, 97, 110, 103, 101])]))) :: r) W := ⟨_, h2⟩
 have hg : Tryd.prog.globalNamed "strconv.ErrRange" = some 2 := by kernel_rfl
 obtain ⟨a, s, hv, _⟩ := laid_sentinel h3 hg (show (Tryd.prog.globals[2]?).map (·.type) = some 71 by kernel_rfl) Tryd.underlying71 row_es Tryd.underlying179 Tryd.underlying181 rfl rfl Tryd.underlying9 (by kernel_rfl) (by kernel_rfl)
 exact ⟨_, by rw [World.var?_cell hg hv 0]; rfl, .inr ⟨_, _, rfl⟩⟩
set_option maxRecDepth 100000 in
theorem lifted (os : Os) (started : os.Started) (H : Type) (enc : TypeId × Value -> H) :
  ReturnsInHanded {} Tryd.checked os 5 .any (fun w args => (Rows.typeAnySpec.pre enc Tryd.prog Tryd.f5 [] false w args /\ laidMetH Tryd.prog Rows.typeAnyRow.laid w) /\ sizedMet enc Tryd.prog Tryd.f5 (OpenSpec.ofChange Rows.typeAnySpec) false w args) (Rows.typeAnySpec.post enc Tryd.prog Tryd.f5 false true false false) := by
 refine returnsInHanded_of_change_and (C := Tryd.checked) (X := fun w _ => laidMetH Tryd.prog Rows.typeAnyRow.laid w) (fun _ _ _ hh h => h.of_heap hh) own started (by kernel_rfl) Tryd.func5
  (ChangeSpec.witness_shaped (enc := enc) (C := Tryd.checked) (os := os) (X := fun w _ => laidMetH Tryd.prog Rows.typeAnyRow.laid w) false (World.laidAll Tryd.prog os Rows.typeAnyRow.laid) #[.string ByteArray.empty, .int .i64 0] 8 (World.laidAll_os _ _ _) (World.shaped_of_ZipB (by kernel_rfl) (by kernel_rfl)) (by kernel_rfl) (by kernel_rfl) (by kernel_rfl) (door_met os _)) ?_
 intro W base args ds gs before hval0 hW _ _ hL _
 have hval : ∀ (j : Nat) t v, Tryd.f5.params[j]? = some t -> args[j]? = some v -> Value.okWide Tryd.prog W .any base t v := hval0
 have hW' := hW
 obtain ⟨p, q, hA0, hV, rfl, hfz, hnd⟩ := hW
 have hA : DataW.TrodAll enc Tryd.prog W 0 (fun _ => true) true Tryd.f5.params.toList args.toList ds p := hA0
 rw [Tryd.params5] at hA hval
 obtain ⟨v0, vs0, d0, ds0, p0, q0, hargs, rfl, rfl, h0, r0⟩ := trodAll_cons hA
 obtain ⟨v1, vs1, d1, ds1, p1, q1, rfl, rfl, rfl, h1, r1⟩ := trodAll_cons r0
 obtain ⟨rfl, rfl, rfl⟩ := trodAll_nil r1
 obtain rfl : args = #[v0, v1] := by cases args; simp_all
 obtain ⟨rfl, rfl⟩ := trodVars_none hV
 obtain ⟨s0, rfl, rfl, rfl, w0⟩ := open_string Tryd.underlying9 (hval 0 9 v0 rfl rfl) h0
 have k0 := h0
 have e0 : s0 = ⟨s0.data.toList.toArray⟩ := by cases s0; simp
 obtain ⟨a1, rfl, rfl, rfl, w1⟩ := open_int Tryd.underlying3 (hval 1 3 v1 rfl rfl) h1
 clear hA0 hval0
 have hwalk := walkTypeAny s0.data.toList a1 W (by have h := w0; rw [Lib.size_eq] at h; exact h) w1 (tab_of hL) (ev_of hL)
 have hwalk : Calls Tryd.prog 5 #[.string s0, .int .i64 a1] W fun e w' => e = .returned (.bool true) /\ Below W.heap.size W w' := by
  first | exact hwalk | (simpa [S, Lib.mk_data] using hwalk)
 refine hwalk.mono fun e W' ⟨he, bel⟩ => ?_
 subst he
 exact ⟨_, rfl, _, _, _, [], _, [], hW', trodAll_mk1 (shut_bool Tryd.underlying4 _), (trodAll_cons_mk (shut_string Tryd.underlying9 w0) (trodAll_cons_mk (shut_int Tryd.underlying3 w1) trodAll_mk0)), rfl, bel.frame _, fun h => by cases h⟩
theorem over : Rows.typeAnyRow.holds Tryd.pinned (OpenSpec.ofChange Rows.typeAnySpec) :=
 OpenClaim.holds_of_wide 5 Tryd.f5 rfl rfl rfl rfl rfl rfl rfl ⟨rfl, rfl, rfl, rfl, rfl⟩ rfl rfl rfl rfl rfl (by kernel_rfl) Tryd.func5 (by kernel_rfl)
  (of_decide_eq_true (by kernel_rfl)) (by unfold Func.isWrapper; first | (rw [if_pos (by decide +kernel)]; kernel_rfl) | (rw [if_neg (by decide +kernel)]; exact ⟨rfl, rfl⟩))
  (fun os started H enc _ => lifted os started H enc)
theorem proved : Rows.TypeAnyCardSaid :=
 Claim7.holds_tied_plain_at .later [] [.data, .data, .data, .data, .sentinel, .sentinel, .pinned] true Rows.typeAnyCard.stood.harness Rows.typeAnyCard.stood.looks
  over (fun _ h => by cases h) (by kernel_rfl) (fun _ h => by cases h) typeAny_row_tie rfl ⟨rfl, rfl⟩ (by kernel_rfl) rfl
  (fun f fn hf hfn => by
   obtain rfl : f = 5 := Option.some.inj ((show Tryd.prog.funcNamed "toponym/toponymlaw3.TypeAny" = some 5 by kernel_rfl).symm.trans hf) |>.symm
   obtain rfl : fn = Tryd.f5 := (Option.some.inj (Tryd.func5.symm.trans hfn)).symm
   exact ⟨by kernel_rfl, fun j t ht => by
    rw [Tryd.params5] at ht
    have hm : t ∈ [9, 3] := by simpa using Array.mem_of_getElem? ht
    have hall : ([9, 3].all fun u => !Tryd.prog.wantsStandIn u) = true := by kernel_rfl
    exact (show Tryd.prog.wantsStandIn t = false by simpa using List.all_eq_true.1 hall t hm)⟩)
  (by kernel_rfl)
end Go.Proofs.YtjhibbjafjhhjaaDoor.lawTypeAnyCard
