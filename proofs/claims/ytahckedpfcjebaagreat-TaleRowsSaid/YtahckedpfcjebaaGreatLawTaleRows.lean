/- TaleRows: of any records and any two answers the statement TaleRows returns true, and what came in reads as it did; no condition. -/
import Derived.Test.YtahckedpfcjebaaGreatWR4
import Derived.Test.YtahckedpfcjebaaGreatRows
import Derived.WalkKit
import Derived.ProofKit
import Derived.OpenShut
import Derived.ShutString
import Derived.ChangeOld
import Derived.Below
import Derived.SizedLaws
import Derived.Carry
namespace Go.Proofs.YtahckedpfcjebaaGreat.taleRows
open Go.ChangeShapes Go.WideShapes Go.ChangeAt Go.RowKit Go.WG Go.Proofs.M
set_option linter.unusedVariables false
theorem own : ownKnob Tryz.prog.godebug = none := by kernel_rfl
theorem laidOut : laidOutB Tryz.prog = true := by kernel_rfl
set_option maxRecDepth 100000 in
theorem lifted (os : Os) (started : os.Started) (H : Type) (enc : TypeId × Value → H) :
    ReturnsInHanded {} Tryz.checked os 3 .any (Rows.taleRowsSpec.pre6 enc Tryz.prog Tryz.f3 Rows.taleRowsRow.domain false) (Rows.taleRowsSpec.post enc Tryz.prog Tryz.f3 false true false false) := by
  refine returnsInHanded_of_change_sized (C := Tryz.checked) own started (by kernel_rfl) Tryz.func3
    (ChangeSpec.witness6 (enc := enc) (C := Tryz.checked) false ⟨#[], #[.slice none 0 0, .agg ⟨[.int .i64 0, .int .i64 0, .int .i64 0, .int .i64 0, .int .i64 0, .string ByteArray.empty, .slice none 0 0, .bool false]⟩, .agg ⟨[.int .i64 0, .int .i64 0, .int .i64 0, .int .i64 0, .int .i64 0, .string ByteArray.empty, .slice none 0 0, .bool false]⟩], []⟩ 8 (by kernel_rfl) (by kernel_rfl) (by kernel_rfl) (by kernel_rfl)) ?_
  intro W base args ds gs before hval0 hW hcnd hsz0 _
  have hval : ∀ (j : Nat) t v, Tryz.f3.params[j]? = some t → args[j]? = some v → Value.okWide Tryz.prog W .any base t v := hval0
  have hW' := hW
  obtain ⟨p, q, hA0, hV, rfl, hfz, hnd⟩ := hW
  have hA : DataW.TrodAll enc Tryz.prog W 0 (fun _ => true) true Tryz.f3.params.toList args.toList ds p := hA0
  rw [Tryz.params3] at hA hval
  obtain ⟨v0, vs0, d0, ds0, p0, q0, hargs, rfl, rfl, h0, r0⟩ := trodAll_cons hA
  obtain ⟨v1, vs1, d1, ds1, p1, q1, rfl, rfl, rfl, h1, r1⟩ := trodAll_cons r0
  obtain ⟨v2, vs2, d2, ds2, p2, q2, rfl, rfl, rfl, h2, r2⟩ := trodAll_cons r1
  obtain ⟨rfl, rfl, rfl⟩ := trodAll_nil r2
  obtain rfl : args = #[v0, v1, v2] := by cases args; simp_all
  obtain ⟨rfl, rfl⟩ := trodVars_none hV
  have lt0 := trod_block h0
  obtain ⟨x0, a0, c0, rfl, i0⟩ := arg_slice Tryz.underlying22 (Rd.slice Tryz.underlying22 rd_sched_Record ty32 (by decide)) (hval 0 22 v0 rfl rfl) h0
  have lt1 := trod_block h1
  obtain ⟨x1, cs1, rfl, a1_6, c1_6, rfl, i1_6⟩ := arg_struct Tryz.underlying26 rd_api_Result (hval 1 26 v1 rfl rfl) h1
  have lt2 := trod_block h2
  obtain ⟨x2, cs2, rfl, a2_6, c2_6, rfl, i2_6⟩ := arg_struct Tryz.underlying26 rd_api_Result (hval 2 26 v2 rfl rfl) h2
  obtain ⟨k, hk⟩ := (taleRows x0 x1 x2).ex
  refine ((law24_TaleRows.tri k hk a0 c0 a1_6 c1_6 a2_6 c2_6).calls (Sat.hand i0 (Sat.hand i1_6 (Sat.hand i2_6 trivial)))).mono fun e W' ⟨v, H', he, hv, bel⟩ => ?_
  obtain ⟨rfl, rfl⟩ := hv
  subst he
  exact ⟨_, rfl, _, _, _, [], _, [], hW', trodAll_mk1 (shut_bool Tryz.underlying4 _), (trodAll_cons_mk (Below.trod laidOut (by kernel_rfl) (of_decide_eq_true (by kernel_rfl)) h0 bel lt0) (trodAll_cons_mk (Below.trod laidOut (by kernel_rfl) (of_decide_eq_true (by kernel_rfl)) h1 bel lt1) (trodAll_cons_mk (Below.trod laidOut (by kernel_rfl) (of_decide_eq_true (by kernel_rfl)) h2 bel lt2) trodAll_mk0))), rfl, bel.frame _, fun h => by cases h⟩
theorem over : Rows.taleRowsRow.holds Tryz.pinned (OpenSpec.ofChange Rows.taleRowsSpec) :=
  OpenClaim.holds_of_wide 3 Tryz.f3 rfl rfl rfl rfl rfl rfl rfl ⟨rfl, rfl, rfl, rfl, rfl⟩ rfl rfl rfl rfl rfl (by kernel_rfl) Tryz.func3 (by kernel_rfl)
    (of_decide_eq_true (by kernel_rfl)) (by unfold Func.isWrapper; first | (rw [if_pos (by decide +kernel)]; kernel_rfl) | (rw [if_neg (by decide +kernel)]; exact ⟨rfl, rfl⟩))
    (fun os started H enc _ => lifted os started H enc)
theorem proved : Rows.TaleRowsSaid := over
#print axioms proved
end Go.Proofs.YtahckedpfcjebaaGreat.taleRows
namespace Go.Proofs.YtahckedpfcjebaaGreat
/-- The row, under a short name, for the claim. -/
theorem taleRows_holds : Rows.TaleRowsSaid := taleRows.proved
end Go.Proofs.YtahckedpfcjebaaGreat
