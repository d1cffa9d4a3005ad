/- TalePages: of any records and any number of a cursor the statement TalePages returns true, and what came in reads as it did; no condition. -/
import Derived.Test.YtahckedpfcjebaaGreatWP4
import Derived.Test.YtahckedpfcjebaaGreatRows
import Derived.WalkKit
import Derived.ProofKit
import Derived.OpenShut
import Derived.ShutString
import Derived.ChangeOld
import Derived.Below
import Derived.SizedLaws
import Derived.Carry
namespace Go.Proofs.YtahckedpfcjebaaGreat.talePages
open Go.ChangeShapes Go.WideShapes Go.ChangeAt Go.RowKit Go.WG Go.Proofs.M
set_option linter.unusedVariables false
theorem own : ownKnob Tryz.prog.godebug = none := by kernel_rfl
theorem laidOut : laidOutB Tryz.prog = true := by kernel_rfl
set_option maxRecDepth 100000 in
theorem lifted (os : Os) (started : os.Started) (H : Type) (enc : TypeId × Value → H) :
    ReturnsInHanded {} Tryz.checked os 4 .any (Rows.talePagesSpec.pre6 enc Tryz.prog Tryz.f4 Rows.talePagesRow.domain false) (Rows.talePagesSpec.post enc Tryz.prog Tryz.f4 false true false false) := by
  refine returnsInHanded_of_change_sized (C := Tryz.checked) own started (by kernel_rfl) Tryz.func4
    (ChangeSpec.witness6 (enc := enc) (C := Tryz.checked) false ⟨#[], #[.slice none 0 0, .int .i64 0], []⟩ 8 (by kernel_rfl) (by kernel_rfl) (by kernel_rfl) (by kernel_rfl)) ?_
  intro W base args ds gs before hval0 hW hcnd hsz0 _
  have hval : ∀ (j : Nat) t v, Tryz.f4.params[j]? = some t → args[j]? = some v → Value.okWide Tryz.prog W .any base t v := hval0
  have hW' := hW
  obtain ⟨p, q, hA0, hV, rfl, hfz, hnd⟩ := hW
  have hA : DataW.TrodAll enc Tryz.prog W 0 (fun _ => true) true Tryz.f4.params.toList args.toList ds p := hA0
  rw [Tryz.params4] at hA hval
  obtain ⟨v0, vs0, d0, ds0, p0, q0, hargs, rfl, rfl, h0, r0⟩ := trodAll_cons hA
  obtain ⟨v1, vs1, d1, ds1, p1, q1, rfl, rfl, rfl, h1, r1⟩ := trodAll_cons r0
  obtain ⟨rfl, rfl, rfl⟩ := trodAll_nil r1
  obtain rfl : args = #[v0, v1] := by cases args; simp_all
  obtain ⟨rfl, rfl⟩ := trodVars_none hV
  have lt0 := trod_block h0
  obtain ⟨x0, a0, c0, rfl, i0⟩ := arg_slice Tryz.underlying22 (Rd.slice Tryz.underlying22 rd_sched_Record ty32 (by decide)) (hval 0 22 v0 rfl rfl) h0
  have lt1 := trod_block h1
  obtain ⟨x1, rfl⟩ := arg_int Tryz.underlying3 (hval 1 3 v1 rfl rfl)
  obtain ⟨k, hk⟩ := (talePages x0 x1).ex
  refine ((law24_TalePages.tri k hk a0 c0).calls (Sat.hand i0 trivial)).mono fun e W' ⟨v, H', he, hv, bel⟩ => ?_
  obtain ⟨rfl, rfl⟩ := hv
  subst he
  exact ⟨_, rfl, _, _, _, [], _, [], hW', trodAll_mk1 (shut_bool Tryz.underlying4 _), (trodAll_cons_mk (Below.trod laidOut (by kernel_rfl) (of_decide_eq_true (by kernel_rfl)) h0 bel lt0) (trodAll_cons_mk (Below.trod laidOut (by kernel_rfl) (of_decide_eq_true (by kernel_rfl)) h1 bel lt1) trodAll_mk0)), rfl, bel.frame _, fun h => by cases h⟩
theorem over : Rows.talePagesRow.holds Tryz.pinned (OpenSpec.ofChange Rows.talePagesSpec) :=
  OpenClaim.holds_of_wide 4 Tryz.f4 rfl rfl rfl rfl rfl rfl rfl ⟨rfl, rfl, rfl, rfl, rfl⟩ rfl rfl rfl rfl rfl (by kernel_rfl) Tryz.func4 (by kernel_rfl)
    (of_decide_eq_true (by kernel_rfl)) (by unfold Func.isWrapper; first | (rw [if_pos (by decide +kernel)]; kernel_rfl) | (rw [if_neg (by decide +kernel)]; exact ⟨rfl, rfl⟩))
    (fun os started H enc _ => lifted os started H enc)
theorem proved : Rows.TalePagesSaid := over
#print axioms proved
end Go.Proofs.YtahckedpfcjebaaGreat.talePages
namespace Go.Proofs.YtahckedpfcjebaaGreat
/-- The row, under a short name, for the claim. -/
theorem talePages_holds : Rows.TalePagesSaid := talePages.proved
end Go.Proofs.YtahckedpfcjebaaGreat
