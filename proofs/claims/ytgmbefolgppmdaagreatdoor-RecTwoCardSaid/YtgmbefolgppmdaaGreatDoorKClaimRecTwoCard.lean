/- RecTwo: for every argument the law returns true, and what was there before the call is as it was. The tables that it lists are tied to the program. -/
import Derived.Test.YtgmbefolgppmdaaGreatDoorRows
import Derived.Test.YtgmbefolgppmdaaGreatDoorCards
import Derived.Test.YtgmbefolgppmdaaGreatDoorTie
import Derived.Test.YtgmbefolgppmdaaGreatDoorKTwP
import Derived.ProofKit
import Derived.LaidMore
import Derived.OpenShut
import Derived.Stop.Joined
import Derived.Stop.LaidErr
import Derived.Lib.LaidTab
import Derived.SevenTiedAt
import Derived.ShutString
import Derived.ChangeOld
import Derived.Below
namespace Go.Proofs.YtgmbefolgppmdaaGreatDoor.lawRecTwoCard
open Go.Proofs.YtgmbefolgppmdaaGreatDoor
open Go.ChangeShapes Go.WideShapes Go.ChangeAt Go.RowKit
open Go.ChangeMaps (open_string shut_string)
theorem own : ownKnob Tryz.prog.godebug = none := by kernel_rfl
theorem laidOut : laidOutB Tryz.prog = true := by kernel_rfl
set_option maxRecDepth 100000 in
theorem door_met (os : Os) (args : Array Value) : laidMetH Tryz.prog Rows.recTwoRow.laid ((World.doorLaid Tryz.prog 24 os).forCall (fun _ _ => 0) ⟨#[], args, []⟩).memory :=
 laidMetH_of_parts3 (fuel := 8) (laidMet_of_run' 8 (by kernel_rfl) (by kernel_rfl)) (by kernel_rfl) (by kernel_rfl)
theorem pow_data : Rows.laid_internal_strconv_uint64pow10 (H := Unit) = Lib.tabData .u64 Lib.pow10Tab := by kernel_rfl
set_option maxRecDepth 100000 in
theorem tab_of {W : World} (h : laidMetH Tryz.prog Rows.recTwoRow.laid W) : Tab W := by
 rw [MakeChecks.laidMetH_plain _ _ _ (by kernel_rfl)] at h
 have h2 := h.tail.tail
 obtain ⟨r, h3⟩ : ∃ r, laidMet Tryz.prog (("internal/strconv.uint64pow10", Lib.tabData .u64 Lib.pow10Tab) :: r) W := by rw [<- pow_data]; exact ⟨_, h2⟩
 exact Lib.tabIs_of_head (g := 1) (t := 141) (e := 67) (n := 20) (by kernel_rfl) (by kernel_rfl) Tryz.underlying141 Tryz.underlying67 (by kernel_rfl) (by kernel_rfl) h3
def dbl : List Int := [0, 1, 56, 2, 57, 49, 28, 3, 61, 58, 42, 50, 38, 29, 17, 4, 62, 47, 59, 36, 45, 43, 51, 22, 53, 39, 33, 30, 24, 18, 12, 5, 63, 55, 48, 27, 60, 41, 37, 16, 46, 35, 44, 21, 52, 32, 23, 11, 54, 26, 40, 15, 34, 20, 31, 10, 25, 14, 19, 9, 13, 8, 7, 6]
theorem db_data : Rows.laid_math_bits_deBruijn64tab (H := Unit) = Lib.tabData .u8 dbl := by kernel_rfl
set_option maxRecDepth 100000 in
theorem db_of {W : World} (h : laidMetH Tryz.prog Rows.recTwoRow.laid W) : Db W := by
 rw [MakeChecks.laidMetH_plain _ _ _ (by kernel_rfl)] at h
 have h2 := h.tail
 obtain ⟨r, h3⟩ : ∃ r, laidMet Tryz.prog (("math/bits.deBruijn64tab", Lib.tabData .u8 dbl) :: r) W := by rw [<- db_data]; exact ⟨_, h2⟩
 have h4 : Lib.TabIs Tryz.prog W "math/bits.deBruijn64tab" .u8 dbl := Lib.tabIs_of_head (g := 3) (t := 154) (e := 5) (n := 64) (by kernel_rfl) (by kernel_rfl) Tryz.underlying154 Tryz.underlying5 (by kernel_rfl) (by kernel_rfl) h3
 exact h4.cell (g := 3) (by kernel_rfl) 15 (by decide)
set_option maxRecDepth 100000 in
theorem lifted (os : Os) (started : os.Started) (H : Type) (enc : TypeId × Value -> H) :
  ReturnsInHanded {} Tryz.checked os 3 .any (fun w args => (Rows.recTwoSpec.pre enc Tryz.prog Tryz.f3 [] false w args /\ laidMetH Tryz.prog Rows.recTwoRow.laid w) /\ sizedMet enc Tryz.prog Tryz.f3 (OpenSpec.ofChange Rows.recTwoSpec) false w args) (Rows.recTwoSpec.post enc Tryz.prog Tryz.f3 false true false false) := by
 refine returnsInHanded_of_change_and (C := Tryz.checked) (X := fun w _ => laidMetH Tryz.prog Rows.recTwoRow.laid w) (fun _ _ _ hh h => h.of_heap hh) own started (by kernel_rfl) Tryz.func3
  (ChangeSpec.witness_shaped (enc := enc) (C := Tryz.checked) (os := os) (X := fun w _ => laidMetH Tryz.prog Rows.recTwoRow.laid w) false (World.doorLaid Tryz.prog 24 os) #[.agg #[.slice none 0 0, .int .u32 0, .int .i64 0, .slice none 0 0, .slice none 0 0, .slice none 0 0, .slice none 0 0], .agg #[.slice none 0 0, .int .u32 0, .int .i64 0, .slice none 0 0, .slice none 0 0, .slice none 0 0, .slice none 0 0]] 8 rfl (World.shaped_of_RefB (by kernel_rfl) (by kernel_rfl)) (by kernel_rfl) (by kernel_rfl) (by kernel_rfl) (door_met os _)) ?_
 intro W base args ds gs before hval0 hW _ _ hL _
 have hval : ∀ (j : Nat) t v, Tryz.f3.params[j]? = some t -> args[j]? = some v -> Value.okWide Tryz.prog W .any base t v := hval0
 have hW' := hW
 obtain ⟨p, q, hA0, hV, rfl, hfz, hnd⟩ := hW
 have hA : DataW.TrodAll enc Tryz.prog W 0 (fun _ => true) true Tryz.f3.params.toList args.toList ds p := hA0
 rw [Tryz.params3] at hA hval
 obtain ⟨v0, vs0, d0, ds0, p0, q0, hargs, rfl, rfl, h0, r0⟩ := trodAll_cons hA
 obtain ⟨v1, vs1, d1, ds1, p1, q1, rfl, rfl, rfl, h1, r1⟩ := trodAll_cons r0
 obtain ⟨rfl, rfl, rfl⟩ := trodAll_nil r1
 obtain rfl : args = #[v0, v1] := by cases args; simp_all
 obtain ⟨rfl, rfl⟩ := trodVars_none hV
 have k0 := h0
 have lt0 : ∀ x ∈ p0, x.block < W.heap.size := by obtain ⟨m, hm⟩ := k0; exact DataW.trod_lt m _ _ _ hm
 obtain ⟨l0, w0⟩ := open_C (hval 0 31 v0 rfl rfl) h0
 have k1 := h1
 have lt1 : ∀ x ∈ p1, x.block < W.heap.size := by obtain ⟨m, hm⟩ := k1; exact DataW.trod_lt m _ _ _ hm
 obtain ⟨l1, w1⟩ := open_C (hval 1 31 v1 rfl rfl) h1
 clear hA0 hval0
 have hwalk := walkRecTwo v0 l0 v1 l1 W w0 w1 (tab_of hL) (db_of hL)
 have hwalk : Calls Tryz.prog 3 #[v0, v1] W fun e w' => e = .returned (.bool true) /\ Below W.heap.size W w' := by
  first | exact hwalk | (simpa [S, Lib.mk_data] using hwalk)
 refine hwalk.mono fun e W' ⟨he, bel⟩ => ?_
 subst he
 exact ⟨_, rfl, _, _, _, [], _, [], hW', trodAll_mk1 (shut_bool Tryz.underlying4 _), (trodAll_cons_mk (Below.trod laidOut (by kernel_rfl) (of_decide_eq_true (by kernel_rfl)) k0 bel lt0) (trodAll_cons_mk (Below.trod laidOut (by kernel_rfl) (of_decide_eq_true (by kernel_rfl)) k1 bel lt1) trodAll_mk0)), rfl, bel.frame _, fun h => by cases h⟩
theorem over : Rows.recTwoRow.holds Tryz.pinned (OpenSpec.ofChange Rows.recTwoSpec) :=
 OpenClaim.holds_of_wide 3 Tryz.f3 rfl rfl rfl rfl rfl rfl rfl ⟨rfl, rfl, rfl, rfl, rfl⟩ rfl rfl rfl rfl rfl (by kernel_rfl) Tryz.func3 (by kernel_rfl)
  (of_decide_eq_true (by kernel_rfl)) (by unfold Func.isWrapper; first | (rw [if_pos (by decide +kernel)]; kernel_rfl) | (rw [if_neg (by decide +kernel)]; exact ⟨rfl, rfl⟩))
  (fun os started H enc _ => lifted os started H enc)
theorem proved : Rows.RecTwoCardSaid :=
 Claim7.holds_tied_plain_at .later [] [.data, .data, .data] true Rows.recTwoCard.stood.harness Rows.recTwoCard.stood.looks
  over (fun _ h => by cases h) (by kernel_rfl) (fun _ h => by cases h) recTwo_row_tie rfl ⟨rfl, rfl⟩ (by kernel_rfl) rfl
  (fun f fn hf hfn => by
   obtain rfl : f = 3 := Option.some.inj ((show Tryz.prog.funcNamed "toponym/toponymlaw5.RecTwo" = some 3 by kernel_rfl).symm.trans hf) |>.symm
   obtain rfl : fn = Tryz.f3 := (Option.some.inj (Tryz.func3.symm.trans hfn)).symm
   exact ⟨by kernel_rfl, fun j t ht => by
    rw [Tryz.params3] at ht
    have hm : t ∈ [31, 31] := by simpa using Array.mem_of_getElem? ht
    have hall : ([31, 31].all fun u => !Tryz.prog.wantsStandIn u) = true := by kernel_rfl
    exact (show Tryz.prog.wantsStandIn t = false by simpa using List.all_eq_true.1 hall t hm)⟩)
  (by kernel_rfl)
end Go.Proofs.YtgmbefolgppmdaaGreatDoor.lawRecTwoCard
