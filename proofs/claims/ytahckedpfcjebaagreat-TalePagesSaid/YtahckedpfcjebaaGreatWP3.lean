/- The third text under the proof of TalePages: of any records and any number of a cursor the statement TalePages returns true, and what came in reads as it did; no condition. -/
import Derived.Test.YtahckedpfcjebaaGreatWP2
set_option linter.unusedVariables false
set_option maxRecDepth 10000
namespace Go.Proofs.M
open Go Go.WG
/-- (*socage/spec.State).Stale -/
def spec_State_Stale.f (k : Nat) (p2 : T_spec_State) (p3 : Int) : Option (T_cursor_Cursor × Int) := ((cursor_Table_Get.f k p2.Table p3).bind fun y1014 => (if (y1014.2 != 0) = true then (some ((⟨0, [], 0⟩ : T_cursor_Cursor), y1014.2)) else (if (y1014.1.Epoch != p2.Epoch) = true then (some ((⟨0, [], 0⟩ : T_cursor_Cursor), 8)) else (some (y1014.1, 0)))))
theorem spec_State_Stale.tri (k : Nat) {r : T_cursor_Cursor × Int} {p2 : T_spec_State} {p3 : Int} (hm : spec_State_Stale.f k p2 p3 = some r) (b1 : Nat) :
    Tri Tryz.prog 49 [.pointer (some ⟨b1, 0, none⟩), .int .i64 p3] [ob_spec_State b1 0 p2] (fun v H' => v = .tuple ⟨[.agg ⟨[.int .i64 r.1.Epoch, .string (S r.1.Dir), .int .i64 r.1.At]⟩, .int .i64 r.2]⟩ ∧ H' = [ob_spec_State b1 0 p2]) := by
  refine Tri.intro1 Tryz.func49 rfl rfl rfl (fun F => ?_)
  unfold spec_State_Stale.f at hm
  refine To.seq ?_
  refine To.region (l := [0, 1]) rfl ?_
  refine To.step rfl (Want.none rfl) rfl rfl (st_alloc rfl zero90) ?_
  rintro _ _ ⟨b1010, rfl, rfl⟩
  refine To.pure rfl (Want.none rfl) rfl rfl (pe_assign rfl rfl) ?_
  refine To.done ?_
  refine To.keep (Keep.cons 4 rfl (Keep.cons 0 rfl (Keep.cons 1 rfl Keep.nil))) ?_
  refine To.nx ?_
  refine To.seq ?_
  refine To.region (l := [0, 1, 2, 3, 4, 5, 6, 7, 8, 9, 10, 11]) rfl ?_
  refine To.pure rfl (Want.none rfl) rfl rfl (pe_move rfl rfl) ?_
  refine To.pure rfl (Want.none rfl) rfl rfl (pe_nil rfl rfl) ?_
  refine To.pure rfl (Want.none rfl) rfl rfl (pe_fld rfl rfl fld58_2 ty55 rfl rfl) ?_
  refine To.uf_spec_State (.s .z) ?_
  intro a1011 c1012 b1013
  refine To.pure rfl (Want.none rfl) rfl rfl (pe_load rfl rfl .z .pt rfl (.d (.d (.d (.t .z)))) ty55 rfl (fun _ => rfl) rfl) ?_
  refine To.pure rfl (Want.none rfl) rfl rfl (pe_move rfl rfl) ?_
  obtain ⟨y1014, h_y1014, hm⟩ := bindE hm
  refine To.step rfl (Want.none rfl) rfl rfl (st_call (cursor_Table_Get.tri k h_y1014 b1013) rfl rfl fun59 (.cons (.s (.s .z)) .all)) ?_
  rintro _ _ ⟨_, ⟨rfl, rfl⟩, rfl⟩
  refine To.app1 ?_
  refine To.pure rfl (Want.none rfl) rfl rfl (pe_move rfl rfl) ?_
  refine To.pure rfl (Want.none rfl) rfl rfl (pe_extract rfl rfl rfl) ?_
  refine To.pure rfl (Want.none rfl) rfl rfl (pe_extract rfl rfl rfl) ?_
  refine To.step rfl (Want.none rfl) rfl rfl (st_alloc rfl zero90) ?_
  rintro _ _ ⟨b1015, rfl, rfl⟩
  refine To.step0 rfl (Want.none rfl) rfl (st_store rfl rfl rfl rfl .z rfl (.t (.t (.t .z))) ty90 rfl rfl) ?_
  rintro _ _ rfl
  refine To.pure rfl (Want.none rfl) rfl rfl (pe_assign rfl rfl) ?_
  refine To.done ?_
  refine To.keep (Keep.cons 7 rfl (Keep.cons 6 rfl (Keep.cons 4 rfl (Keep.cons 0 rfl Keep.nil)))) ?_
  refine To.nx ?_
  refine To.seq ?_
  refine To.block ?_
  refine To.seq ?_
  refine To.region (l := [0, 1, 2]) rfl ?_
  refine To.pure rfl (Want.none rfl) rfl rfl (pe_move rfl rfl) ?_
  refine To.pure rfl (Want.none rfl) rfl rfl (pe_int rfl rfl rfl bi_neq) ?_
  refine To.pure rfl (Want.none rfl) rfl rfl (pe_assign rfl rfl) ?_
  refine To.done ?_
  refine To.keep (Keep.cons 17 rfl (Keep.cons 7 rfl (Keep.cons 6 rfl (Keep.cons 4 rfl (Keep.cons 0 rfl Keep.nil))))) ?_
  refine To.nx ?_
  refine To.cond rfl (fun hc => ?_) (fun hc => ?_)
  · replace hm := ifT hc hm
    refine To.seq ?_
    refine To.region (l := [0, 1, 2, 3]) rfl ?_
    refine To.pure rfl (Want.none rfl) rfl rfl (pe_build (vs := []) .nil rfl zero90 stc90 rfl) ?_
    refine To.pure rfl (Want.none rfl) rfl rfl (pe_move rfl rfl) ?_
    refine To.step0 rfl (Want.none rfl) rfl (st_store rfl rfl rfl rfl (.s (.s (.s (.s .z)))) rfl (.t (.t (.t .z))) ty90 rfl rfl) ?_
    rintro _ _ rfl
    refine To.pure rfl (Want.none rfl) rfl rfl (pe_assign rfl rfl) ?_
    refine To.done ?_
    refine To.keep (Keep.cons 5 rfl (Keep.cons 4 rfl Keep.nil)) ?_
    refine To.sel (.cons .z (.drop .all)) ?_
    refine To.nx ?_
    refine To.ret ?_
    refine To.br ?_
    refine To.tr ?_
    refine To.sel (.cons (.s (.s .z)) (.dup (.s (.s .z)) inferInstance (.cons (.s .z) .all))) (To.imp (cl_spec_State p2) ?_)
    cases hm
    exact To.back rfl (.cell rfl (.s .z) .pt rfl (.t (.t (.t .z))) ty90 rfl nofun rfl (.tmp rfl .nil)) rfl ⟨rfl, rfl⟩ (.cons .z (.drop (.drop .all)))
  · replace hm := ifF hc hm
    refine To.seq ?_
    refine To.sel (.cons (.s (.s .z)) (.dup (.s (.s .z)) inferInstance (.cons (.s .z) .all))) (To.imp (cl_spec_State p2) ?_)
    refine To.uf_spec_State .z ?_
    intro a1016 c1017 b1018
    refine To.draws [0, 1, 0, 4, 12, 28, 63, 127] mixed (by kernel_rfl) (by kernel_rfl) ?_
    refine Dr.pure 0 23 _ _ rfl rfl rfl rfl rfl rfl (by kernel_rfl) (PureG.of (Want.none rfl) (pe_fld rfl rfl fld90_0 ty3 rfl rfl)) ?_
    refine Dr.pure 1 24 _ _ rfl rfl rfl rfl rfl rfl (by kernel_rfl) (PureG.of (Want.none rfl) (pe_load rfl rfl (.s (.s (.s .z))) .pt rfl (.t .z) ty3 rfl (fun _ => rfl) rfl)) ?_
    refine Dr.pure 2 25 _ _ rfl rfl rfl rfl rfl rfl (by kernel_rfl) (PureG.of (Want.none rfl) (pe_move rfl rfl)) ?_
    refine Dr.pure 3 26 _ _ rfl rfl rfl rfl rfl rfl (by kernel_rfl) (PureG.of (Want.none rfl) (pe_nil rfl rfl)) ?_
    refine Dr.pure 4 27 _ _ rfl rfl rfl rfl rfl rfl (by kernel_rfl) (PureG.of (Want.none rfl) (pe_fld rfl rfl fld58_1 ty3 rfl rfl)) ?_
    refine Dr.pure 5 28 _ _ rfl rfl rfl rfl rfl rfl (by kernel_rfl) (PureG.of (Want.none rfl) (pe_load rfl rfl .z .pt rfl (.d (.d (.t .z))) ty3 rfl (fun _ => rfl) rfl)) ?_
    refine Dr.pure 6 29 _ _ rfl rfl rfl rfl rfl rfl (by kernel_rfl) (PureG.of (Want.none rfl) (pe_int rfl rfl rfl bi_neq)) ?_
    refine Dr.step1 7 _ _ (by kernel_rfl) rfl rfl (by kernel_rfl) (Want.none rfl) ((pe_assign rfl rfl).step) ?_ ?_
    · rintro _ _ ⟨rfl, rfl⟩
      exact (Again.anc (by kernel_rfl) (Again.anc (by kernel_rfl) (Again.anc (by kernel_rfl) (Again.anc (by kernel_rfl) (Again.anc (by kernel_rfl) (Again.anc (by kernel_rfl) (Again.anc (by kernel_rfl) Again.nil)))))))
    rintro _ _ ⟨rfl, rfl⟩
    refine Dr.done (by kernel_rfl) ?_
    refine To.keep (Keep.cons 22 rfl (Keep.cons 6 rfl (Keep.cons 4 rfl Keep.nil))) ?_
    refine To.sel (.cons .z (.cons .z (.cons .z (.cons .z (.drop .all))))) ?_
    refine To.nx ?_
    refine To.cond rfl (fun hc => ?_) (fun hc => ?_)
    · replace hm := ifT hc hm
      refine To.seq ?_
      refine To.region (l := [0, 1, 2]) rfl ?_
      refine To.pure rfl (Want.none rfl) rfl rfl (pe_build (vs := []) .nil rfl zero90 stc90 rfl) ?_
      refine To.step0 rfl (Want.none rfl) rfl (st_store rfl rfl rfl rfl (.s (.s (.s (.s .z)))) rfl (.t (.t (.t .z))) ty90 rfl rfl) ?_
      rintro _ _ rfl
      refine To.pure rfl (Want.none rfl) rfl rfl (pe_assign rfl rfl) ?_
      refine To.done ?_
      refine To.keep (Keep.cons 5 rfl (Keep.cons 4 rfl Keep.nil)) ?_
      refine To.sel (.cons .z (.cons .z (.cons .z (.cons .z (.drop .all))))) ?_
      refine To.nx ?_
      refine To.ret ?_
      refine To.br ?_
      refine To.tr ?_
      refine To.sel (.cons (.s .z) (.dup (.s .z) inferInstance (.cons (.s (.s .z)) .all))) (To.imp (cl_spec_State p2) ?_)
      cases hm
      exact To.back rfl (.cell rfl (.s .z) .pt rfl (.t (.t (.t .z))) ty90 rfl nofun rfl (.tmp rfl .nil)) rfl ⟨rfl, rfl⟩ (.cons .z (.drop (.drop .all)))
    · replace hm := ifF hc hm
      refine To.skip ?_
      refine To.bn ?_
      refine To.nx ?_
      refine To.seq ?_
      refine To.region (l := [0, 1, 2]) rfl ?_
      refine To.pure rfl (Want.none rfl) rfl rfl (pe_load rfl rfl (.s (.s (.s .z))) .pt rfl (.t (.t (.t .z))) ty90 rfl nofun rfl) ?_
      refine To.step0 rfl (Want.none rfl) rfl (st_store rfl rfl rfl rfl (.s (.s (.s (.s .z)))) rfl (.t (.t (.t .z))) ty90 rfl rfl) ?_
      rintro _ _ rfl
      refine To.pure rfl (Want.none rfl) rfl rfl (pe_assign rfl rfl) ?_
      refine To.done ?_
      refine To.keep (Keep.cons 5 rfl (Keep.cons 4 rfl Keep.nil)) ?_
      refine To.sel (.cons .z (.cons .z (.cons .z (.cons .z (.drop .all))))) ?_
      refine To.nx ?_
      refine To.ret ?_
      refine To.sel (.cons (.s .z) (.dup (.s .z) inferInstance (.cons (.s (.s .z)) .all))) (To.imp (cl_spec_State p2) ?_)
      cases hm
      exact To.back rfl (.cell rfl (.s .z) .pt rfl (.t (.t (.t .z))) ty90 rfl nofun rfl (.tmp rfl .nil)) rfl ⟨rfl, rfl⟩ (.cons .z (.drop (.drop .all)))
end Go.Proofs.M

set_option linter.unusedVariables false
set_option maxRecDepth 10000
namespace Go.Proofs.M
open Go Go.WG
/-- socage/union.Check -/
def union_Check.j1 (x1004 : Bool) : Option Int := (if x1004 = true then (some 1) else (some 0))
def union_Check.f (k : Nat) (p1 : T_api_Op) : Option Int := (if (p1.Kind == 4) = true then (if (decide (p1.Off < 0)) = true then (union_Check.j1 true) else (if (decide (p1.N < 0)) = true then (union_Check.j1 true) else (if (p1.Kind == 6) = true then (union_Check.j1 (decide (p1.N < 1))) else (union_Check.j1 false)))) else (if (p1.Kind == 6) = true then (union_Check.j1 (decide (p1.N < 1))) else (union_Check.j1 false)))
theorem union_Check.tri (k : Nat) {r : Int} {p1 : T_api_Op} (hm : union_Check.f k p1 = some r) :
    Tri Tryz.prog 46 [.agg ⟨[.int .i64 p1.Kind, .string (S p1.Path), .int .i64 p1.Off, .int .i64 p1.N, .int .i64 p1.ID, .string (S p1.Image)]⟩] [] (fun v H' => v = .int .i64 r ∧ H' = []) := by
  refine Tri.intro0 Tryz.func46 rfl rfl rfl (fun F => ?_)
  unfold union_Check.f at hm
  refine To.seq ?_
  refine To.region (l := [0, 1]) rfl ?_
  refine To.step rfl (Want.none rfl) rfl rfl (st_box rfl rfl rfl) ?_
  rintro _ _ ⟨b1003, rfl, rfl⟩
  refine To.pure rfl (Want.none rfl) rfl rfl (pe_assign rfl rfl) ?_
  refine To.done ?_
  refine To.keep (Keep.cons 1 rfl Keep.nil) ?_
  refine To.nx ?_
  refine To.seq ?_
  refine To.cut (fun a w => ∃ (x1004 : Bool), union_Check.j1 x1004 = some r ∧ Knows 26 a [(25, .bool x1004)] ∧ Holds w (F)) ?_ ?_
  · rintro a w ⟨x1004, hm, ha, hw⟩
    refine To.at ha hw ?_
    clear ha hw a w
    unfold union_Check.j1 at hm
    refine To.cond rfl (fun hc => ?_) (fun hc => ?_)
    · replace hm := ifT hc hm
      refine To.seq ?_
      refine To.region (l := [0]) rfl ?_
      refine To.pure rfl (Want.none rfl) rfl rfl (pe_assign rfl rfl) ?_
      refine To.done ?_
      refine To.keep (Keep.cons 2 rfl Keep.nil) ?_
      refine To.nx ?_
      refine To.ret ?_
      refine To.tr ?_
      cases hm
      exact To.back rfl (.tmp rfl .nil) rfl ⟨rfl, rfl⟩ .all
    · replace hm := ifF hc hm
      refine To.skip ?_
      refine To.nx ?_
      refine To.seq ?_
      refine To.region (l := [0]) rfl ?_
      refine To.pure rfl (Want.none rfl) rfl rfl (pe_assign rfl rfl) ?_
      refine To.done ?_
      refine To.keep (Keep.cons 2 rfl Keep.nil) ?_
      refine To.nx ?_
      refine To.ret ?_
      cases hm
      exact To.back rfl (.tmp rfl .nil) rfl ⟨rfl, rfl⟩ .all
  · skip
    refine To.region (l := [0, 1, 2, 3, 4, 5, 6, 7, 8, 9, 10, 11, 12, 13, 14, 15, 16, 17, 18, 19, 20, 21, 22]) rfl ?_
    refine To.pure rfl (Want.none rfl) rfl rfl (pe_fld rfl rfl fld30_0 ty3 rfl rfl) ?_
    refine To.pure rfl (Want.none rfl) rfl rfl (pe_load rfl rfl .z .pt rfl (.t .z) ty3 rfl (fun _ => rfl) rfl) ?_
    refine To.pure rfl (Want.none rfl) rfl rfl (pe_int rfl rfl rfl bi_eql) ?_
    refine To.pure rfl (Want.none rfl) rfl rfl (pe_move rfl rfl) ?_
    refine To.split 6 rfl (fun hc => ?_) (fun hc => ?_)
    · replace hm := ifT hc hm
      refine To.pure rfl (Want.of rfl rfl rfl rfl rfl rfl) rfl rfl (pe_fld rfl rfl fld30_2 ty3 rfl rfl) ?_
      refine To.pure rfl (Want.of rfl rfl rfl rfl rfl rfl) rfl rfl (pe_load rfl rfl .z .pt rfl (.d (.d (.t .z))) ty3 rfl (fun _ => rfl) rfl) ?_
      refine To.pure rfl (Want.of rfl rfl rfl rfl rfl rfl) rfl rfl (pe_int rfl rfl rfl bi_lss) ?_
      refine To.pure rfl (Want.of rfl rfl rfl rfl rfl rfl) rfl rfl (pe_move rfl rfl) ?_
      refine To.split 10 rfl (fun hc => ?_) (fun hc => ?_)
      · replace hm := ifT hc hm
        refine To.skipped rfl (Want.of rfl rfl rfl rfl rfl rfl) rfl rfl ?_
        refine To.skipped rfl (Want.of rfl rfl rfl rfl rfl rfl) rfl rfl ?_
        refine To.skipped rfl (Want.of rfl rfl rfl rfl rfl rfl) rfl rfl ?_
        refine To.pure rfl (Want.of rfl rfl rfl rfl rfl rfl) rfl rfl (pe_pick rfl rfl rfl) ?_
        refine To.pure rfl (Want.none rfl) rfl rfl (pe_pick rfl rfl rfl) ?_
        refine To.pure rfl (Want.none rfl) rfl rfl (pe_move rfl rfl) ?_
        refine To.skipped rfl (Want.of rfl rfl rfl rfl rfl rfl) rfl rfl ?_
        refine To.skipped rfl (Want.of rfl rfl rfl rfl rfl rfl) rfl rfl ?_
        refine To.skipped rfl (Want.of rfl rfl rfl rfl rfl rfl) rfl rfl ?_
        refine To.skipped rfl (Want.of rfl rfl rfl rfl rfl rfl) rfl rfl ?_
        refine To.skipped rfl (Want.undefd rfl rfl rfl rfl rfl) rfl rfl ?_
        refine To.skipped rfl (Want.undefd rfl rfl rfl rfl rfl) rfl rfl ?_
        refine To.skipped rfl (Want.undefd rfl rfl rfl rfl rfl) rfl rfl ?_
        refine To.skipped rfl (Want.of rfl rfl rfl rfl rfl rfl) rfl rfl ?_
        refine To.pure rfl (Want.none rfl) rfl rfl (pe_pick rfl rfl rfl) ?_
        refine To.done ?_
        refine To.keep (Keep.cons 25 rfl Keep.nil) ?_
        refine To.sel (.drop .all) ?_
        exact fun a w ha hw => ⟨true, hm, ha.keep (Keep.cons 25 rfl Keep.nil), (Sel.imp .all) w hw⟩
      · replace hm := ifF hc hm
        refine To.pure rfl (Want.of rfl rfl rfl rfl rfl rfl) rfl rfl (pe_fld rfl rfl fld30_3 ty3 rfl rfl) ?_
        refine To.pure rfl (Want.of rfl rfl rfl rfl rfl rfl) rfl rfl (pe_load rfl rfl .z .pt rfl (.d (.d (.d (.t .z)))) ty3 rfl (fun _ => rfl) rfl) ?_
        refine To.pure rfl (Want.of rfl rfl rfl rfl rfl rfl) rfl rfl (pe_int rfl rfl rfl bi_lss) ?_
        refine To.pure rfl (Want.of rfl rfl rfl rfl rfl rfl) rfl rfl (pe_pick rfl rfl rfl) ?_
        refine To.pure rfl (Want.none rfl) rfl rfl (pe_pick rfl rfl rfl) ?_
        refine To.pure rfl (Want.none rfl) rfl rfl (pe_move rfl rfl) ?_
        refine To.split 16 rfl (fun hc => ?_) (fun hc => ?_)
        · replace hm := ifT hc hm
          refine To.skipped rfl (Want.of rfl rfl rfl rfl rfl rfl) rfl rfl ?_
          refine To.skipped rfl (Want.of rfl rfl rfl rfl rfl rfl) rfl rfl ?_
          refine To.skipped rfl (Want.of rfl rfl rfl rfl rfl rfl) rfl rfl ?_
          refine To.skipped rfl (Want.of rfl rfl rfl rfl rfl rfl) rfl rfl ?_
          refine To.skipped rfl (Want.undefd rfl rfl rfl rfl rfl) rfl rfl ?_
          refine To.skipped rfl (Want.undefd rfl rfl rfl rfl rfl) rfl rfl ?_
          refine To.skipped rfl (Want.undefd rfl rfl rfl rfl rfl) rfl rfl ?_
          refine To.skipped rfl (Want.of rfl rfl rfl rfl rfl rfl) rfl rfl ?_
          refine To.pure rfl (Want.none rfl) rfl rfl (pe_pick rfl rfl rfl) ?_
          refine To.done ?_
          refine To.keep (Keep.cons 25 rfl Keep.nil) ?_
          refine To.sel (.drop .all) ?_
          exact fun a w ha hw => ⟨true, hm, ha.keep (Keep.cons 25 rfl Keep.nil), (Sel.imp .all) w hw⟩
        · replace hm := ifF hc hm
          refine To.pure rfl (Want.of rfl rfl rfl rfl rfl rfl) rfl rfl (pe_fld rfl rfl fld30_0 ty3 rfl rfl) ?_
          refine To.pure rfl (Want.of rfl rfl rfl rfl rfl rfl) rfl rfl (pe_load rfl rfl .z .pt rfl (.t .z) ty3 rfl (fun _ => rfl) rfl) ?_
          refine To.pure rfl (Want.of rfl rfl rfl rfl rfl rfl) rfl rfl (pe_int rfl rfl rfl bi_eql) ?_
          refine To.pure rfl (Want.of rfl rfl rfl rfl rfl rfl) rfl rfl (pe_move rfl rfl) ?_
          refine To.split 20 rfl (fun hc => ?_) (fun hc => ?_)
          · replace hm := ifT hc hm
            refine To.pure rfl (Want.of rfl rfl rfl rfl rfl rfl) rfl rfl (pe_fld rfl rfl fld30_3 ty3 rfl rfl) ?_
            refine To.pure rfl (Want.of rfl rfl rfl rfl rfl rfl) rfl rfl (pe_load rfl rfl .z .pt rfl (.d (.d (.d (.t .z)))) ty3 rfl (fun _ => rfl) rfl) ?_
            refine To.pure rfl (Want.of rfl rfl rfl rfl rfl rfl) rfl rfl (pe_int rfl rfl rfl bi_lss) ?_
            refine To.pure rfl (Want.of rfl rfl rfl rfl rfl rfl) rfl rfl (pe_pick rfl rfl rfl) ?_
            refine To.pure rfl (Want.none rfl) rfl rfl (pe_pick rfl rfl rfl) ?_
            refine To.done ?_
            refine To.keep (Keep.cons 25 rfl Keep.nil) ?_
            refine To.sel (.drop .all) ?_
            exact fun a w ha hw => ⟨decide (p1.N < 1), hm, ha.keep (Keep.cons 25 rfl Keep.nil), (Sel.imp .all) w hw⟩
          · replace hm := ifF hc hm
            refine To.skipped rfl (Want.of rfl rfl rfl rfl rfl rfl) rfl rfl ?_
            refine To.skipped rfl (Want.of rfl rfl rfl rfl rfl rfl) rfl rfl ?_
            refine To.skipped rfl (Want.of rfl rfl rfl rfl rfl rfl) rfl rfl ?_
            refine To.pure rfl (Want.of rfl rfl rfl rfl rfl rfl) rfl rfl (pe_pick rfl rfl rfl) ?_
            refine To.pure rfl (Want.none rfl) rfl rfl (pe_pick rfl rfl rfl) ?_
            refine To.done ?_
            refine To.keep (Keep.cons 25 rfl Keep.nil) ?_
            refine To.sel (.drop .all) ?_
            exact fun a w ha hw => ⟨false, hm, ha.keep (Keep.cons 25 rfl Keep.nil), (Sel.imp .all) w hw⟩
    · replace hm := ifF hc hm
      refine To.skipped rfl (Want.of rfl rfl rfl rfl rfl rfl) rfl rfl ?_
      refine To.skipped rfl (Want.of rfl rfl rfl rfl rfl rfl) rfl rfl ?_
      refine To.skipped rfl (Want.of rfl rfl rfl rfl rfl rfl) rfl rfl ?_
      refine To.skipped rfl (Want.of rfl rfl rfl rfl rfl rfl) rfl rfl ?_
      refine To.skipped rfl (Want.undefd rfl rfl rfl rfl rfl) rfl rfl ?_
      refine To.skipped rfl (Want.undefd rfl rfl rfl rfl rfl) rfl rfl ?_
      refine To.skipped rfl (Want.undefd rfl rfl rfl rfl rfl) rfl rfl ?_
      refine To.skipped rfl (Want.of rfl rfl rfl rfl rfl rfl) rfl rfl ?_
      refine To.pure rfl (Want.none rfl) rfl rfl (pe_pick rfl rfl rfl) ?_
      refine To.pure rfl (Want.none rfl) rfl rfl (pe_move rfl rfl) ?_
      refine To.pure rfl (Want.of rfl rfl rfl rfl rfl rfl) rfl rfl (pe_fld rfl rfl fld30_0 ty3 rfl rfl) ?_
      refine To.pure rfl (Want.of rfl rfl rfl rfl rfl rfl) rfl rfl (pe_load rfl rfl .z .pt rfl (.t .z) ty3 rfl (fun _ => rfl) rfl) ?_
      refine To.pure rfl (Want.of rfl rfl rfl rfl rfl rfl) rfl rfl (pe_int rfl rfl rfl bi_eql) ?_
      refine To.pure rfl (Want.of rfl rfl rfl rfl rfl rfl) rfl rfl (pe_move rfl rfl) ?_
      refine To.split 20 rfl (fun hc => ?_) (fun hc => ?_)
      · replace hm := ifT hc hm
        refine To.pure rfl (Want.of rfl rfl rfl rfl rfl rfl) rfl rfl (pe_fld rfl rfl fld30_3 ty3 rfl rfl) ?_
        refine To.pure rfl (Want.of rfl rfl rfl rfl rfl rfl) rfl rfl (pe_load rfl rfl .z .pt rfl (.d (.d (.d (.t .z)))) ty3 rfl (fun _ => rfl) rfl) ?_
        refine To.pure rfl (Want.of rfl rfl rfl rfl rfl rfl) rfl rfl (pe_int rfl rfl rfl bi_lss) ?_
        refine To.pure rfl (Want.of rfl rfl rfl rfl rfl rfl) rfl rfl (pe_pick rfl rfl rfl) ?_
        refine To.pure rfl (Want.none rfl) rfl rfl (pe_pick rfl rfl rfl) ?_
        refine To.done ?_
        refine To.keep (Keep.cons 25 rfl Keep.nil) ?_
        refine To.sel (.drop .all) ?_
        exact fun a w ha hw => ⟨decide (p1.N < 1), hm, ha.keep (Keep.cons 25 rfl Keep.nil), (Sel.imp .all) w hw⟩
      · replace hm := ifF hc hm
        refine To.skipped rfl (Want.of rfl rfl rfl rfl rfl rfl) rfl rfl ?_
        refine To.skipped rfl (Want.of rfl rfl rfl rfl rfl rfl) rfl rfl ?_
        refine To.skipped rfl (Want.of rfl rfl rfl rfl rfl rfl) rfl rfl ?_
        refine To.pure rfl (Want.of rfl rfl rfl rfl rfl rfl) rfl rfl (pe_pick rfl rfl rfl) ?_
        refine To.pure rfl (Want.none rfl) rfl rfl (pe_pick rfl rfl rfl) ?_
        refine To.done ?_
        refine To.keep (Keep.cons 25 rfl Keep.nil) ?_
        refine To.sel (.drop .all) ?_
        exact fun a w ha hw => ⟨false, hm, ha.keep (Keep.cons 25 rfl Keep.nil), (Sel.imp .all) w hw⟩
end Go.Proofs.M

set_option linter.unusedVariables false
set_option maxRecDepth 10000
namespace Go.Proofs.M
open Go Go.WG
/-- (*socage/spec.State).Do -/
def spec_State_Do.f (k : Nat) (p2 : T_spec_State) (p3 : T_api_Op) : Option (T_api_Result × T_spec_State) := ((union_Check.f k p3).bind fun y1024 => (if (y1024 != 0) = true then (some ((⟨y1024, 0, 0, 0, 0, [], [], false⟩ : T_api_Result), p2)) else (if (p3.Kind == 5) = true then none else (if (p3.Kind == 6) = true then ((spec_State_Stale.f k p2 p3.ID).bind fun y1028 => (if (y1028.2 != 0) = true then (some ((⟨y1028.2, 0, 0, 0, 0, [], [], false⟩ : T_api_Result), p2)) else none)) else (if (p3.Kind == 7) = true then ((cursor_Table_Close.f k p2.Table p3.ID).bind fun y1036 => (some ((⟨y1036.1, 0, 0, 0, 0, [], [], false⟩ : T_api_Result), (⟨(⟨p2.Stack.lF, p2.Stack.nextF⟩ : T_stack_Stack), p2.Epoch, y1036.2⟩ : T_spec_State)))) else (if (p3.Kind == 8) = true then none else (if (p3.Kind == 9) = true then ((spec_State_Remove.f k p2 p3.ID).bind fun y1037 => (some (y1037.1, y1037.2))) else none)))))))
theorem spec_State_Do.tri (k : Nat) {r : T_api_Result × T_spec_State} {p2 : T_spec_State} {p3 : T_api_Op} (hm : spec_State_Do.f k p2 p3 = some r) (b1 : Nat) :
    Tri Tryz.prog 44 [.pointer (some ⟨b1, 0, none⟩), .agg ⟨[.int .i64 p3.Kind, .string (S p3.Path), .int .i64 p3.Off, .int .i64 p3.N, .int .i64 p3.ID, .string (S p3.Image)]⟩] [ob_spec_State b1 0 p2] (fun v H' => ∃ (az2 : Option Addr), ∃ (cz3 : Nat), v = .agg ⟨[.int .i64 r.1.Err, .int .i64 r.1.Kind, .int .i64 r.1.Size, .int .i64 r.1.Where, .int .i64 r.1.ID, .string (S r.1.Text), .slice az2 r.1.Names.length cz3, .bool r.1.End]⟩ ∧ H' = [own kStr az2 cz3 r.1.Names, ob_spec_State b1 0 r.2]) := by
  refine Tri.intro1 Tryz.func44 rfl rfl rfl (fun F => ?_)
  unfold spec_State_Do.f at hm
  refine To.seq ?_
  refine To.region (l := [0, 1]) rfl ?_
  refine To.step rfl (Want.none rfl) rfl rfl (st_box rfl rfl rfl) ?_
  rintro _ _ ⟨b1022, rfl, rfl⟩
  refine To.step rfl (Want.none rfl) rfl rfl (st_alloc rfl zero26) ?_
  rintro _ _ ⟨b1023, rfl, rfl⟩
  refine To.done ?_
  refine To.keep (Keep.cons 4 rfl (Keep.cons 3 rfl (Keep.cons 0 rfl Keep.nil))) ?_
  refine To.nx ?_
  refine To.seq ?_
  refine To.seq ?_
  refine To.region (l := [0, 1, 2]) rfl ?_
  refine To.pure rfl (Want.none rfl) rfl rfl (pe_load rfl rfl (.s .z) .pt rfl (.t (.t (.t (.t (.t (.t .z)))))) ty30 rfl nofun rfl) ?_
  obtain ⟨y1024, h_y1024, hm⟩ := bindE hm
  refine To.step rfl (Want.none rfl) rfl rfl (st_call (union_Check.tri k h_y1024) rfl rfl fun46 .all) ?_
  rintro _ _ ⟨_, ⟨rfl, rfl⟩, rfl⟩
  refine To.app0 ?_
  refine To.pure rfl (Want.none rfl) rfl rfl (pe_assign rfl rfl) ?_
  refine To.done ?_
  refine To.keep (Keep.cons 5 rfl (Keep.cons 4 rfl (Keep.cons 3 rfl (Keep.cons 0 rfl Keep.nil)))) ?_
  refine To.nx ?_
  refine To.seq ?_
  refine To.region (l := [0, 1]) rfl ?_
  refine To.pure rfl (Want.none rfl) rfl rfl (pe_move rfl rfl) ?_
  refine To.pure rfl (Want.none rfl) rfl rfl (pe_int rfl rfl rfl bi_neq) ?_
  refine To.done ?_
  refine To.keep (Keep.cons 19 rfl (Keep.cons 5 rfl (Keep.cons 4 rfl (Keep.cons 3 rfl (Keep.cons 0 rfl Keep.nil))))) ?_
  refine To.nx ?_
  refine To.cond rfl (fun hc => ?_) (fun hc => ?_)
  · replace hm := ifT hc hm
    refine To.seq ?_
    refine To.region (l := [0, 1, 2]) rfl ?_
    refine To.pure rfl (Want.none rfl) rfl rfl (pe_move rfl rfl) ?_
    refine To.pure rfl (Want.none rfl) rfl rfl (pe_build (vs := [(0, .int .i64 y1024)]) (.cons rfl rfl rfl (.t .z) rfl .nil) rfl zero26 stc26 rfl) ?_
    refine To.step0 rfl (Want.none rfl) rfl (st_store rfl rfl rfl rfl .z rfl (.t (.t (.t (.t (.t (.t (.t (.t .z)))))))) ty26 rfl rfl) ?_
    rintro _ _ rfl
    refine To.done ?_
    refine To.keep (Keep.cons 4 rfl Keep.nil) ?_
    refine To.sel (.cons .z (.drop .all)) ?_
    refine To.nx ?_
    refine To.ret ?_
    refine To.tr ?_
    refine To.imp (Imp.own_nil (k := kStr)) ?_
    cases hm
    exact To.back rfl (.cell rfl (.s .z) .pt rfl (.t (.t (.t (.t (.t (.t (.t (.t .z)))))))) ty26 rfl nofun rfl .nil) rfl ⟨none, 0, rfl, rfl⟩ (.cons .z (.cons (.s .z) (.drop .all)))
  · replace hm := ifF hc hm
    refine To.skip ?_
    refine To.nx ?_
    refine To.seq ?_
    refine To.seq ?_
    refine To.region (l := [0, 1]) rfl ?_
    refine To.pure rfl (Want.none rfl) rfl rfl (pe_fld rfl rfl fld30_0 ty3 rfl rfl) ?_
    refine To.pure rfl (Want.none rfl) rfl rfl (pe_load rfl rfl (.s .z) .pt rfl (.t .z) ty3 rfl (fun _ => rfl) rfl) ?_
    refine To.done ?_
    refine To.keep (Keep.cons 23 rfl (Keep.cons 4 rfl (Keep.cons 3 rfl (Keep.cons 0 rfl Keep.nil)))) ?_
    refine To.nx ?_
    refine To.block ?_
    refine To.seq ?_
    refine To.region (l := [0, 1]) rfl ?_
    refine To.pure rfl (Want.none rfl) rfl rfl (pe_int rfl rfl rfl bi_eql) ?_
    refine To.pure rfl (Want.none rfl) rfl rfl (pe_assign rfl rfl) ?_
    refine To.done ?_
    refine To.keep (Keep.cons 24 rfl (Keep.cons 23 rfl (Keep.cons 4 rfl (Keep.cons 3 rfl (Keep.cons 0 rfl Keep.nil))))) ?_
    refine To.nx ?_
    refine To.cond rfl (fun hc => ?_) (fun hc => ?_)
    · replace hm := ifT hc hm
      refine To.seq ?_
      refine To.uf_spec_State (.s (.s .z)) ?_
      intro a1025 c1026 b1027
      refine To.draws [0, 1, 3, 7, 0, 16, 63, 127, 255, 255, 255, 511, 3071, 8191] mixed (by kernel_rfl) (by kernel_rfl) ?_
      refine Dr.pure 0 27 _ _ rfl rfl rfl rfl rfl rfl (by kernel_rfl) (PureG.of (Want.none rfl) (pe_move rfl rfl)) ?_
      refine Dr.pure 1 28 _ _ rfl rfl rfl rfl rfl rfl (by kernel_rfl) (PureG.of (Want.none rfl) (pe_nil rfl rfl)) ?_
      refine Dr.pure 2 29 _ _ rfl rfl rfl rfl rfl rfl (by kernel_rfl) (PureG.of (Want.none rfl) (pe_fld rfl rfl fld58_0 ty42 rfl rfl)) ?_
      refine Dr.pure 3 30 _ _ rfl rfl rfl rfl rfl rfl (by kernel_rfl) (PureG.of (Want.none rfl) (pe_load rfl rfl .z .pt rfl (.t (.t .z)) ty42 rfl nofun rfl)) ?_
      refine Dr.pure 4 31 _ _ rfl rfl rfl rfl rfl rfl (by kernel_rfl) (PureG.of (Want.none rfl) (pe_fld rfl rfl fld30_1 ty9 rfl rfl)) ?_
      refine Dr.pure 5 32 _ _ rfl rfl rfl rfl rfl rfl (by kernel_rfl) (PureG.of (Want.none rfl) (pe_load rfl rfl (.s (.s (.s (.s .z)))) .pt rfl (.d (.t .z)) ty9 rfl (fun _ => rfl) rfl)) ?_
      cases hm
    · replace hm := ifF hc hm
      refine To.seq ?_
      refine To.region (l := [0, 1]) rfl ?_
      refine To.pure rfl (Want.none rfl) rfl rfl (pe_int rfl rfl rfl bi_eql) ?_
      refine To.pure rfl (Want.none rfl) rfl rfl (pe_assign rfl rfl) ?_
      refine To.done ?_
      refine To.keep (Keep.cons 44 rfl (Keep.cons 23 rfl (Keep.cons 4 rfl (Keep.cons 3 rfl (Keep.cons 0 rfl Keep.nil))))) ?_
      refine To.nx ?_
      refine To.cond rfl (fun hc => ?_) (fun hc => ?_)
      · replace hm := ifT hc hm
        refine To.seq ?_
        refine To.region (l := [0, 1, 2, 3, 4, 5, 6, 7, 8, 9]) rfl ?_
        refine To.pure rfl (Want.none rfl) rfl rfl (pe_move rfl rfl) ?_
        refine To.pure rfl (Want.none rfl) rfl rfl (pe_fld rfl rfl fld30_4 ty3 rfl rfl) ?_
        refine To.pure rfl (Want.none rfl) rfl rfl (pe_load rfl rfl (.s .z) .pt rfl (.d (.d (.d (.d (.t .z))))) ty3 rfl (fun _ => rfl) rfl) ?_
        obtain ⟨y1028, h_y1028, hm⟩ := bindE hm
        refine To.step rfl (Want.none rfl) rfl rfl (st_call (spec_State_Stale.tri k h_y1028 b1) rfl rfl fun49 (.cons (.s (.s .z)) .all)) ?_
        rintro _ _ ⟨_, ⟨rfl, rfl⟩, rfl⟩
        refine To.app1 ?_
        refine To.pure rfl (Want.none rfl) rfl rfl (pe_move rfl rfl) ?_
        refine To.pure rfl (Want.none rfl) rfl rfl (pe_extract rfl rfl rfl) ?_
        refine To.pure rfl (Want.none rfl) rfl rfl (pe_extract rfl rfl rfl) ?_
        refine To.step rfl (Want.none rfl) rfl rfl (st_alloc rfl zero90) ?_
        rintro _ _ ⟨b1029, rfl, rfl⟩
        refine To.step0 rfl (Want.none rfl) rfl (st_store rfl rfl rfl rfl .z rfl (.t (.t (.t .z))) ty90 rfl rfl) ?_
        rintro _ _ rfl
        refine To.pure rfl (Want.none rfl) rfl rfl (pe_assign rfl rfl) ?_
        refine To.done ?_
        refine To.keep (Keep.cons 10 rfl (Keep.cons 9 rfl (Keep.cons 4 rfl (Keep.cons 3 rfl (Keep.cons 0 rfl Keep.nil))))) ?_
        refine To.nx ?_
        refine To.seq ?_
        refine To.seq ?_
        refine To.region (l := [0, 1]) rfl ?_
        refine To.pure rfl (Want.none rfl) rfl rfl (pe_move rfl rfl) ?_
        refine To.pure rfl (Want.none rfl) rfl rfl (pe_int rfl rfl rfl bi_neq) ?_
        refine To.done ?_
        refine To.keep (Keep.cons 54 rfl (Keep.cons 10 rfl (Keep.cons 9 rfl (Keep.cons 4 rfl (Keep.cons 3 rfl (Keep.cons 0 rfl Keep.nil)))))) ?_
        refine To.nx ?_
        refine To.cond rfl (fun hc => ?_) (fun hc => ?_)
        · replace hm := ifT hc hm
          refine To.seq ?_
          refine To.region (l := [0, 1, 2]) rfl ?_
          refine To.pure rfl (Want.none rfl) rfl rfl (pe_move rfl rfl) ?_
          refine To.pure rfl (Want.none rfl) rfl rfl (pe_build (vs := [(0, .int .i64 y1028.2)]) (.cons rfl rfl rfl (.t .z) rfl .nil) rfl zero26 stc26 rfl) ?_
          refine To.step0 rfl (Want.none rfl) rfl (st_store rfl rfl rfl rfl (.s (.s .z)) rfl (.t (.t (.t (.t (.t (.t (.t (.t .z)))))))) ty26 rfl rfl) ?_
          rintro _ _ rfl
          refine To.done ?_
          refine To.keep (Keep.cons 4 rfl Keep.nil) ?_
          refine To.sel (.cons .z (.drop (.cons .z (.drop .all)))) ?_
          refine To.nx ?_
          refine To.ret ?_
          refine To.tr ?_
          refine To.br ?_
          refine To.tr ?_
          refine To.imp (Imp.own_nil (k := kStr)) ?_
          cases hm
          exact To.back rfl (.cell rfl (.s .z) .pt rfl (.t (.t (.t (.t (.t (.t (.t (.t .z)))))))) ty26 rfl nofun rfl .nil) rfl ⟨none, 0, rfl, rfl⟩ (.cons .z (.cons (.s .z) (.drop .all)))
        · replace hm := ifF hc hm
          refine To.skip ?_
          refine To.nx ?_
          refine To.seq ?_
          refine To.uf_spec_State (.s .z) ?_
          intro a1030 c1031 b1032
          refine To.draws [0, 1, 3, 7, 0, 16, 63, 127, 255, 255, 255, 511, 3071, 8191] mixed (by kernel_rfl) (by kernel_rfl) ?_
          refine Dr.pure 0 58 _ _ rfl rfl rfl rfl rfl rfl (by kernel_rfl) (PureG.of (Want.none rfl) (pe_move rfl rfl)) ?_
          refine Dr.pure 1 59 _ _ rfl rfl rfl rfl rfl rfl (by kernel_rfl) (PureG.of (Want.none rfl) (pe_nil rfl rfl)) ?_
          refine Dr.pure 2 60 _ _ rfl rfl rfl rfl rfl rfl (by kernel_rfl) (PureG.of (Want.none rfl) (pe_fld rfl rfl fld58_0 ty42 rfl rfl)) ?_
          refine Dr.pure 3 61 _ _ rfl rfl rfl rfl rfl rfl (by kernel_rfl) (PureG.of (Want.none rfl) (pe_load rfl rfl .z .pt rfl (.t (.t .z)) ty42 rfl nofun rfl)) ?_
          refine Dr.pure 4 62 _ _ rfl rfl rfl rfl rfl rfl (by kernel_rfl) (PureG.of (Want.none rfl) (pe_fld rfl rfl fld90_1 ty9 rfl rfl)) ?_
          refine Dr.pure 5 63 _ _ rfl rfl rfl rfl rfl rfl (by kernel_rfl) (PureG.of (Want.none rfl) (pe_load rfl rfl (.s (.s (.s .z))) .pt rfl (.d (.t .z)) ty9 rfl (fun _ => rfl) rfl)) ?_
          cases hm
      · replace hm := ifF hc hm
        refine To.seq ?_
        refine To.region (l := [0, 1]) rfl ?_
        refine To.pure rfl (Want.none rfl) rfl rfl (pe_int rfl rfl rfl bi_eql) ?_
        refine To.pure rfl (Want.none rfl) rfl rfl (pe_assign rfl rfl) ?_
        refine To.done ?_
        refine To.keep (Keep.cons 72 rfl (Keep.cons 23 rfl (Keep.cons 4 rfl (Keep.cons 3 rfl (Keep.cons 0 rfl Keep.nil))))) ?_
        refine To.nx ?_
        refine To.cond rfl (fun hc => ?_) (fun hc => ?_)
        · replace hm := ifT hc hm
          refine To.seq ?_
          refine To.uf_spec_State (.s (.s .z)) ?_
          intro a1033 c1034 b1035
          refine To.draws [0, 1, 3, 7, 0, 16, 63, 127, 255] mixed (by kernel_rfl) (by kernel_rfl) ?_
          refine Dr.pure 0 74 _ _ rfl rfl rfl rfl rfl rfl (by kernel_rfl) (PureG.of (Want.none rfl) (pe_move rfl rfl)) ?_
          refine Dr.pure 1 75 _ _ rfl rfl rfl rfl rfl rfl (by kernel_rfl) (PureG.of (Want.none rfl) (pe_nil rfl rfl)) ?_
          refine Dr.pure 2 76 _ _ rfl rfl rfl rfl rfl rfl (by kernel_rfl) (PureG.of (Want.none rfl) (pe_fld rfl rfl fld58_2 ty55 rfl rfl)) ?_
          refine Dr.pure 3 77 _ _ rfl rfl rfl rfl rfl rfl (by kernel_rfl) (PureG.of (Want.none rfl) (pe_load rfl rfl .z .pt rfl (.d (.d (.d (.t .z)))) ty55 rfl (fun _ => rfl) rfl)) ?_
          refine Dr.pure 4 78 _ _ rfl rfl rfl rfl rfl rfl (by kernel_rfl) (PureG.of (Want.none rfl) (pe_fld rfl rfl fld30_4 ty3 rfl rfl)) ?_
          refine Dr.pure 5 79 _ _ rfl rfl rfl rfl rfl rfl (by kernel_rfl) (PureG.of (Want.none rfl) (pe_load rfl rfl (.s (.s (.s (.s .z)))) .pt rfl (.d (.d (.d (.d (.t .z))))) ty3 rfl (fun _ => rfl) rfl)) ?_
          obtain ⟨y1036, h_y1036, hm⟩ := bindE hm
          refine Dr.step1 6 _ _ (by kernel_rfl) rfl rfl (by kernel_rfl) (Want.none rfl) (st_call (cursor_Table_Close.tri k h_y1036 b1035) rfl rfl fun51 (.cons (.s (.s .z)) .all)) ?_ ?_
          · rintro _ _ ⟨_, ⟨rfl, rfl⟩, rfl⟩
            exact (Again.anc (by kernel_rfl) (Again.anc (by kernel_rfl) (Again.anc (by kernel_rfl) (Again.anc (by kernel_rfl) (Again.anc (by kernel_rfl) (Again.anc (by kernel_rfl) Again.nil))))))
          rintro _ _ ⟨_, ⟨rfl, rfl⟩, rfl⟩
          refine Dr.app1 ?_
          refine Dr.pure 7 81 _ _ rfl rfl rfl rfl rfl rfl (by kernel_rfl) (PureG.of (Want.none rfl) (pe_build (vs := [(0, .int .i64 y1036.1)]) (.cons rfl rfl rfl (.t .z) rfl .nil) rfl zero26 stc26 rfl)) ?_
          refine Dr.step1 8 _ _ (by kernel_rfl) rfl rfl (by kernel_rfl) (Want.none rfl) (st_store rfl rfl rfl rfl (.s (.s (.s .z))) rfl (.t (.t (.t (.t (.t (.t (.t (.t .z)))))))) ty26 rfl rfl) ?_ ?_
          · rintro _ _ rfl
            exact (Again.anc (by kernel_rfl) (Again.anc (by kernel_rfl) (Again.anc (by kernel_rfl) (Again.anc (by kernel_rfl) (Again.anc (by kernel_rfl) (Again.anc (by kernel_rfl) (Again.anc (by kernel_rfl) Again.nil)))))))
          rintro _ _ rfl
          refine Dr.done (by kernel_rfl) ?_
          refine To.keep (Keep.cons 4 rfl Keep.nil) ?_
          refine To.sel (.cons .z (.cons .z (.cons .z (.cons .z (.drop .all))))) ?_
          refine To.nx ?_
          refine To.ret ?_
          refine To.br ?_
          refine To.tr ?_
          refine To.sel (.cons (.s (.s .z)) (.dup (.s (.s .z)) inferInstance (.cons (.s .z) .all))) (To.imp (cl_spec_State (⟨(⟨p2.Stack.lF, p2.Stack.nextF⟩ : T_stack_Stack), p2.Epoch, y1036.2⟩ : T_spec_State)) ?_)
          refine To.imp (Imp.own_nil (k := kStr)) ?_
          cases hm
          exact To.back rfl (.cell rfl (.s (.s .z)) .pt rfl (.t (.t (.t (.t (.t (.t (.t (.t .z)))))))) ty26 rfl nofun rfl .nil) rfl ⟨none, 0, rfl, rfl⟩ (.cons .z (.cons .z (.drop (.drop .all))))
        · replace hm := ifF hc hm
          refine To.seq ?_
          refine To.region (l := [0, 1]) rfl ?_
          refine To.pure rfl (Want.none rfl) rfl rfl (pe_int rfl rfl rfl bi_eql) ?_
          refine To.pure rfl (Want.none rfl) rfl rfl (pe_assign rfl rfl) ?_
          refine To.done ?_
          refine To.keep (Keep.cons 82 rfl (Keep.cons 23 rfl (Keep.cons 4 rfl (Keep.cons 3 rfl (Keep.cons 0 rfl Keep.nil))))) ?_
          refine To.nx ?_
          refine To.cond rfl (fun hc => ?_) (fun hc => ?_)
          · replace hm := ifT hc hm
            refine To.seq ?_
            refine To.region (l := [0, 1, 2, 3, 4, 5, 6, 7]) rfl ?_
            refine To.pure rfl (Want.none rfl) rfl rfl (pe_fld rfl rfl fld30_5 ty9 rfl rfl) ?_
            refine To.pure rfl (Want.none rfl) rfl rfl (pe_load rfl rfl (.s .z) .pt rfl (.d (.d (.d (.d (.d (.t .z)))))) ty9 rfl (fun _ => rfl) rfl) ?_
            cases hm
          · replace hm := ifF hc hm
            refine To.seq ?_
            refine To.region (l := [0, 1]) rfl ?_
            refine To.pure rfl (Want.none rfl) rfl rfl (pe_int rfl rfl rfl bi_eql) ?_
            refine To.pure rfl (Want.none rfl) rfl rfl (pe_assign rfl rfl) ?_
            refine To.done ?_
            refine To.keep (Keep.cons 97 rfl (Keep.cons 4 rfl (Keep.cons 3 rfl (Keep.cons 0 rfl Keep.nil)))) ?_
            refine To.nx ?_
            refine To.cond rfl (fun hc => ?_) (fun hc => ?_)
            · replace hm := ifT hc hm
              refine To.seq ?_
              refine To.region (l := [0, 1, 2, 3, 4]) rfl ?_
              refine To.pure rfl (Want.none rfl) rfl rfl (pe_move rfl rfl) ?_
              refine To.pure rfl (Want.none rfl) rfl rfl (pe_fld rfl rfl fld30_4 ty3 rfl rfl) ?_
              refine To.pure rfl (Want.none rfl) rfl rfl (pe_load rfl rfl (.s .z) .pt rfl (.d (.d (.d (.d (.t .z))))) ty3 rfl (fun _ => rfl) rfl) ?_
              obtain ⟨y1037, h_y1037, hm⟩ := bindE hm
              refine To.step rfl (Want.none rfl) rfl rfl (st_call (spec_State_Remove.tri k h_y1037 b1) rfl rfl fun54 (.cons (.s (.s .z)) .all)) ?_
              rintro _ _ ⟨_, ⟨a1038, c1039, rfl, rfl⟩, rfl⟩
              refine To.app2 ?_
              refine To.step0 rfl (Want.none rfl) rfl (st_store rfl rfl rfl rfl (.s (.s .z)) rfl (.t (.t (.t (.t (.t (.t (.t (.t .z)))))))) ty26 rfl rfl) ?_
              rintro _ _ rfl
              refine To.done ?_
              refine To.keep (Keep.cons 4 rfl Keep.nil) ?_
              refine To.sel (.cons .z (.cons .z (.cons .z (.drop .all)))) ?_
              refine To.nx ?_
              refine To.ret ?_
              refine To.br ?_
              refine To.tr ?_
              cases hm
              exact To.back rfl (.cell rfl .z .pt rfl (.t (.t (.t (.t (.t (.t (.t (.t .z)))))))) ty26 rfl nofun rfl .nil) rfl ⟨a1038, c1039, rfl, rfl⟩ (.cons (.s .z) (.cons (.s .z) (.drop .all)))
            · replace hm := ifF hc hm
              refine To.skip ?_
              refine To.bn ?_
              refine To.nx ?_
              refine To.seq ?_
              refine To.uf_spec_State (.s (.s .z)) ?_
              intro a1040 c1041 b1042
              refine To.draws [0, 1, 3, 7, 0, 31, 63] mixed (by kernel_rfl) (by kernel_rfl) ?_
              refine Dr.pure 0 103 _ _ rfl rfl rfl rfl rfl rfl (by kernel_rfl) (PureG.of (Want.none rfl) (pe_move rfl rfl)) ?_
              refine Dr.pure 1 104 _ _ rfl rfl rfl rfl rfl rfl (by kernel_rfl) (PureG.of (Want.none rfl) (pe_nil rfl rfl)) ?_
              refine Dr.pure 2 105 _ _ rfl rfl rfl rfl rfl rfl (by kernel_rfl) (PureG.of (Want.none rfl) (pe_fld rfl rfl fld58_0 ty42 rfl rfl)) ?_
              refine Dr.pure 3 106 _ _ rfl rfl rfl rfl rfl rfl (by kernel_rfl) (PureG.of (Want.none rfl) (pe_load rfl rfl .z .pt rfl (.t (.t .z)) ty42 rfl nofun rfl)) ?_
              refine Dr.pure 4 107 _ _ rfl rfl rfl rfl rfl rfl (by kernel_rfl) (PureG.of (Want.none rfl) (pe_load rfl rfl (.s (.s (.s (.s .z)))) .pt rfl (.t (.t (.t (.t (.t (.t .z)))))) ty30 rfl nofun rfl)) ?_
              cases hm
end Go.Proofs.M

set_option linter.unusedVariables false
set_option maxRecDepth 10000
namespace Go.Proofs.M
open Go Go.WG
/-- slices.Equal[[]string,string] -/
def slices_Equal_string.l1 (p1 : List Str) (p4 : List Str) : Nat → Int → Option Bool
  | 0, _ => none
  | k1037 + 1, x1029 => (if (decide (x1029 < (p1.length : Int))) = true then ((ix p1 x1029).bind fun e1039 => (ix p4 x1029).bind fun e1042 => (if (!(e1039 == e1042)) = true then (some false) else ((slices_Equal_string.l1 p1 p4 k1037) (IntKind.i64.wrap (x1029 + 1))))) else (some true))
def slices_Equal_string.f (k : Nat) (p1 : List Str) (p4 : List Str) : Option Bool := (if ((p1.length : Int) != (p4.length : Int)) = true then (some false) else (slices_Equal_string.l1 p1 p4 k 0))
theorem slices_Equal_string.tri (k : Nat) {r : Bool} {p1 : List Str} {p4 : List Str} (hm : slices_Equal_string.f k p1 p4 = some r) (a2 : Option Addr) (c3 : Nat) (a5 : Option Addr) (c6 : Nat) :
    Tri Tryz.prog 16 [.slice a2 p1.length c3, .slice a5 p4.length c6] [imm kStr a2 c3 p1, imm kStr a5 c6 p4] (fun v H' => v = .bool r ∧ H' = []) := by
  refine Tri.intro2 Tryz.func16 rfl rfl rfl (fun F => ?_)
  unfold slices_Equal_string.f at hm
  refine To.seq ?_
  refine To.region (l := [0]) rfl ?_
  refine To.pure rfl (Want.none rfl) rfl rfl (pe_assign rfl rfl) ?_
  refine To.done ?_
  refine To.keep (Keep.cons 0 rfl (Keep.cons 1 rfl Keep.nil)) ?_
  refine To.nx ?_
  refine To.seq ?_
  refine To.seq ?_
  refine To.region (l := [0, 1, 2, 3, 4]) rfl ?_
  refine To.pure rfl (Want.none rfl) rfl rfl (pe_move rfl rfl) ?_
  refine To.pure rfl (Want.none rfl) rfl rfl (pe_len rfl rfl Tryz.underlying24) ?_
  refine To.pure rfl (Want.none rfl) rfl rfl (pe_move rfl rfl) ?_
  refine To.pure rfl (Want.none rfl) rfl rfl (pe_len rfl rfl Tryz.underlying24) ?_
  refine To.pure rfl (Want.none rfl) rfl rfl (pe_int rfl rfl rfl bi_neq) ?_
  refine To.done ?_
  refine To.keep (Keep.cons 10 rfl (Keep.cons 0 rfl (Keep.cons 1 rfl Keep.nil))) ?_
  refine To.nx ?_
  refine To.cond rfl (fun hc => ?_) (fun hc => ?_)
  · replace hm := ifT hc hm
    refine To.seq ?_
    refine To.region (l := [0]) rfl ?_
    refine To.pure rfl (Want.none rfl) rfl rfl (pe_assign rfl rfl) ?_
    refine To.done ?_
    refine To.keep (Keep.cons 4 rfl Keep.nil) ?_
    refine To.sel (.drop (.drop .all)) ?_
    refine To.nx ?_
    refine To.ret ?_
    refine To.tr ?_
    cases hm
    exact To.back rfl (.tmp rfl .nil) rfl ⟨rfl, rfl⟩ .all
  · replace hm := ifF hc hm
    refine To.skip ?_
    refine To.nx ?_
    refine To.seq ?_
    refine To.seq ?_
    refine To.region (l := [0, 1, 2]) rfl ?_
    refine To.pure rfl (Want.none rfl) rfl rfl (pe_move rfl rfl) ?_
    refine To.pure rfl (Want.none rfl) rfl rfl (pe_len rfl rfl Tryz.underlying24) ?_
    refine To.pure rfl (Want.none rfl) rfl rfl (pe_move rfl rfl) ?_
    refine To.done ?_
    refine To.keep (Keep.cons 13 rfl (Keep.cons 12 rfl (Keep.cons 0 rfl (Keep.cons 1 rfl Keep.nil)))) ?_
    refine To.nx ?_
    refine To.block ?_
    refine To.loop (fun kk a w => ∃ (x1029 : Int), slices_Equal_string.l1 p1 p4 kk x1029 = some r ∧ Knows 26 a [(0, .slice a2 p1.length c3), (1, .slice a5 p4.length c6), (12, .int .i64 (p1.length : Int)), (13, .int .i64 x1029)] ∧ Holds w (imm kStr a2 c3 p1 :: imm kStr a5 c6 p4 :: F)) ?_ ?_ k ?_
    · rintro a w ⟨_, hm, _, _⟩; rw [slices_Equal_string.l1] at hm; cases hm
    · rintro k1037 a w ⟨x1029, hm, ha, hw⟩
      refine To.at ha hw ?_
      clear ha hw a w
      rw [slices_Equal_string.l1] at hm
      refine To.seq ?_
      refine To.region (l := [0]) rfl ?_
      refine To.pure rfl (Want.none rfl) rfl rfl (pe_int rfl rfl rfl bi_lss) ?_
      refine To.done ?_
      refine To.keep (Keep.cons 14 rfl (Keep.cons 0 rfl (Keep.cons 1 rfl (Keep.cons 12 rfl (Keep.cons 13 rfl Keep.nil))))) ?_
      refine To.nx ?_
      refine To.seq ?_
      refine To.cond rfl (fun hc => ?_) (fun hc => ?_)
      · replace hm := ifT hc hm
        refine To.skip ?_
        refine To.nx ?_
        refine To.seq ?_
        refine To.block ?_
        refine To.seq ?_
        refine To.region (l := [0, 1]) rfl ?_
        refine To.pure rfl (Want.none rfl) rfl rfl (pe_move rfl rfl) ?_
        refine To.pure rfl (Want.none rfl) rfl rfl (pe_assign rfl rfl) ?_
        refine To.done ?_
        refine To.keep (Keep.cons 5 rfl (Keep.cons 0 rfl (Keep.cons 1 rfl (Keep.cons 12 rfl (Keep.cons 13 rfl Keep.nil))))) ?_
        refine To.nx ?_
        refine To.seq ?_
        obtain ⟨e1039, h_e1039, hm⟩ := bindE hm
        obtain ⟨h0_e1039, hl_e1039, hx_e1039⟩ := ixE h_e1039
        refine To.el_str (i := (x1029 : Int).toNat) .z hx_e1039 ?_
        rintro b1040 r1041 e; cases e
        obtain ⟨e1042, h_e1042, hm⟩ := bindE hm
        obtain ⟨h0_e1042, hl_e1042, hx_e1042⟩ := ixE h_e1042
        refine To.el_str (i := (x1029 : Int).toNat) (.s (.s .z)) hx_e1042 ?_
        rintro b1043 r1044 e; cases e
        refine To.draws [0, 0, 3, 7, 0, 0, 48, 112, 255] mixed (by kernel_rfl) (by kernel_rfl) ?_
        refine Dr.pure 0 16 _ _ rfl rfl rfl rfl rfl rfl (by kernel_rfl) (PureG.of (Want.none rfl) (pe_move rfl rfl)) ?_
        refine Dr.pure 1 17 _ _ rfl rfl rfl rfl rfl rfl (by kernel_rfl) (PureG.of (Want.none rfl) (pe_move rfl rfl)) ?_
        refine Dr.pure 2 18 _ _ rfl rfl rfl rfl rfl rfl (by kernel_rfl) (PureG.of (Want.none rfl) (pe_idx rfl rfl rfl Tryz.underlying24 ty9 h0_e1039 hl_e1039 rfl)) ?_
        refine Dr.pure 3 19 _ _ rfl rfl rfl rfl rfl rfl (by kernel_rfl) (PureG.of (Want.none rfl) (pe_load rfl rfl (.s .z) .ro rfl (.t .z) ty9 rfl (fun _ => rfl) rfl)) ?_
        refine Dr.pure 4 20 _ _ rfl rfl rfl rfl rfl rfl (by kernel_rfl) (PureG.of (Want.none rfl) (pe_move rfl rfl)) ?_
        refine Dr.pure 5 21 _ _ rfl rfl rfl rfl rfl rfl (by kernel_rfl) (PureG.of (Want.none rfl) (pe_move rfl rfl)) ?_
        refine Dr.pure 6 22 _ _ rfl rfl rfl rfl rfl rfl (by kernel_rfl) (PureG.of (Want.none rfl) (pe_idx rfl rfl rfl Tryz.underlying24 ty9 h0_e1042 hl_e1042 rfl)) ?_
        refine Dr.pure 7 23 _ _ rfl rfl rfl rfl rfl rfl (by kernel_rfl) (PureG.of (Want.none rfl) (pe_load rfl rfl .z .ro rfl (.t .z) ty9 rfl (fun _ => rfl) rfl)) ?_
        refine Dr.pure 8 24 _ _ rfl rfl rfl rfl rfl rfl (by kernel_rfl) (PureG.of (Want.none rfl) (pe_str rfl rfl rfl bs_neq)) ?_
        refine Dr.done (by kernel_rfl) ?_
        refine To.keep (Keep.cons 24 rfl (Keep.cons 0 rfl (Keep.cons 1 rfl (Keep.cons 12 rfl (Keep.cons 13 rfl Keep.nil))))) ?_
        refine To.sel (.drop (.drop .all)) ?_
        refine To.nx ?_
        refine To.cond rfl (fun hc => ?_) (fun hc => ?_)
        · replace hm := ifT hc hm
          refine To.seq ?_
          refine To.region (l := [0]) rfl ?_
          refine To.pure rfl (Want.none rfl) rfl rfl (pe_assign rfl rfl) ?_
          refine To.done ?_
          refine To.keep (Keep.cons 4 rfl Keep.nil) ?_
          refine To.sel (.drop (.drop .all)) ?_
          refine To.nx ?_
          refine To.ret ?_
          refine To.br ?_
          refine To.tr ?_
          refine To.tr ?_
          refine To.br ?_
          refine To.tr ?_
          cases hm
          exact To.back rfl (.tmp rfl .nil) rfl ⟨rfl, rfl⟩ .all
        · replace hm := ifF hc hm
          refine To.skip ?_
          refine To.bn ?_
          refine To.nx ?_
          refine To.region (l := [0, 1]) rfl ?_
          refine To.pure rfl (Want.none rfl) rfl rfl (pe_int rfl rfl rfl bi_add) ?_
          refine To.pure rfl (Want.none rfl) rfl rfl (pe_move rfl rfl) ?_
          refine To.done ?_
          refine To.keep (Keep.cons 13 rfl (Keep.cons 0 rfl (Keep.cons 1 rfl (Keep.cons 12 rfl Keep.nil)))) ?_
          exact fun a w ha hw => ⟨IntKind.i64.wrap (x1029 + 1), hm, ha.keep (Keep.cons 0 rfl (Keep.cons 1 rfl (Keep.cons 12 rfl (Keep.cons 13 rfl Keep.nil)))), (Sel.imp (.dup .z inferInstance (.dup (.s .z) inferInstance (.drop (.drop .all))))) w hw⟩
      · replace hm := ifF hc hm
        refine To.exit ?_
        refine To.tx ?_
        refine To.tx ?_
        refine To.bx ?_
        refine To.nx ?_
        refine To.seq ?_
        refine To.region (l := [0]) rfl ?_
        refine To.pure rfl (Want.none rfl) rfl rfl (pe_assign rfl rfl) ?_
        refine To.done ?_
        refine To.keep (Keep.cons 4 rfl Keep.nil) ?_
        refine To.sel (.drop (.drop .all)) ?_
        refine To.nx ?_
        refine To.ret ?_
        cases hm
        exact To.back rfl (.tmp rfl .nil) rfl ⟨rfl, rfl⟩ .all
    · skip
      exact fun a w ha hw => ⟨0, hm, ha.keep (Keep.cons 0 rfl (Keep.cons 1 rfl (Keep.cons 12 rfl (Keep.cons 13 rfl Keep.nil)))), (Sel.imp (.dup .z inferInstance (.dup (.s .z) inferInstance (.drop (.drop .all))))) w hw⟩
end Go.Proofs.M

set_option linter.unusedVariables false
set_option maxRecDepth 10000
namespace Go.Proofs.M
open Go Go.WG
/-- socage/tale.Same -/
def tale_Same.j1 (x1011 : Bool) : Option Bool := (some x1011)
def tale_Same.f (k : Nat) (p1 : T_api_Result) (p4 : T_api_Result) : Option Bool := (if (p1.Err == p4.Err) = true then (if (p1.Kind == p4.Kind) = true then (if (p1.Size == p4.Size) = true then (if (p1.Where == p4.Where) = true then (if (p1.ID == p4.ID) = true then (if (p1.Text == p4.Text) = true then (if (p1.End == p4.End) = true then ((slices_Equal_string.f k p1.Names p4.Names).bind fun y1012 => (tale_Same.j1 y1012)) else (tale_Same.j1 false)) else (tale_Same.j1 false)) else (tale_Same.j1 false)) else (tale_Same.j1 false)) else (tale_Same.j1 false)) else (tale_Same.j1 false)) else (tale_Same.j1 false))
theorem tale_Same.tri (k : Nat) {r : Bool} {p1 : T_api_Result} {p4 : T_api_Result} (hm : tale_Same.f k p1 p4 = some r) (a2 : Option Addr) (c3 : Nat) (a5 : Option Addr) (c6 : Nat) :
    Tri Tryz.prog 9 [.agg ⟨[.int .i64 p1.Err, .int .i64 p1.Kind, .int .i64 p1.Size, .int .i64 p1.Where, .int .i64 p1.ID, .string (S p1.Text), .slice a2 p1.Names.length c3, .bool p1.End]⟩, .agg ⟨[.int .i64 p4.Err, .int .i64 p4.Kind, .int .i64 p4.Size, .int .i64 p4.Where, .int .i64 p4.ID, .string (S p4.Text), .slice a5 p4.Names.length c6, .bool p4.End]⟩] [imm kStr a2 c3 p1.Names, imm kStr a5 c6 p4.Names] (fun v H' => v = .bool r ∧ H' = []) := by
  refine Tri.intro2 Tryz.func9 rfl rfl rfl (fun F => ?_)
  unfold tale_Same.f at hm
  refine To.seq ?_
  refine To.region (l := [0, 1, 2]) rfl ?_
  refine To.step rfl (Want.none rfl) rfl rfl (st_box rfl rfl rfl) ?_
  rintro _ _ ⟨b1007, rfl, rfl⟩
  refine To.step rfl (Want.none rfl) rfl rfl (st_box rfl rfl rfl) ?_
  rintro _ _ ⟨b1008, rfl, rfl⟩
  refine To.pure rfl (Want.none rfl) rfl rfl (pe_assign rfl rfl) ?_
  refine To.done ?_
  refine To.keep (Keep.cons 3 rfl (Keep.cons 2 rfl Keep.nil)) ?_
  refine To.nx ?_
  refine To.seq ?_
  refine To.draws [0, 1, 0, 4, 3, 31] mixed (by kernel_rfl) (by kernel_rfl) ?_
  refine Dr.pure 0 7 _ _ rfl rfl rfl rfl rfl rfl (by kernel_rfl) (PureG.of (Want.none rfl) (pe_fld rfl rfl fld26_6 ty24 rfl rfl)) ?_
  refine Dr.pure 1 8 _ _ rfl rfl rfl rfl rfl rfl (by kernel_rfl) (PureG.of (Want.none rfl) (pe_load rfl rfl (.s .z) .pt rfl (.d (.d (.d (.d (.d (.d (.t .z))))))) ty24 rfl (fun _ => rfl) rfl)) ?_
  refine Dr.pure 2 9 _ _ rfl rfl rfl rfl rfl rfl (by kernel_rfl) (PureG.of (Want.none rfl) (pe_fld rfl rfl fld26_6 ty24 rfl rfl)) ?_
  refine Dr.pure 3 10 _ _ rfl rfl rfl rfl rfl rfl (by kernel_rfl) (PureG.of (Want.none rfl) (pe_load rfl rfl .z .pt rfl (.d (.d (.d (.d (.d (.d (.t .z))))))) ty24 rfl (fun _ => rfl) rfl)) ?_
  refine Dr.step1 4 _ _ (by kernel_rfl) rfl rfl (by kernel_rfl) (Want.none rfl) ((pe_assign rfl rfl).step) ?_ ?_
  · rintro _ _ ⟨rfl, rfl⟩
    exact (Again.new rfl (PureG.of (Want.none rfl) (pe_load rfl rfl .z .pt rfl (.d (.d (.d (.d (.d (.d (.t .z))))))) ty24 rfl (fun _ => rfl) rfl)) (Again.new rfl (PureG.of (Want.none rfl) (pe_fld rfl rfl fld26_6 ty24 rfl rfl)) (Again.anc (by kernel_rfl) (Again.anc (by kernel_rfl) Again.nil))))
  rintro _ _ ⟨rfl, rfl⟩
  refine Dr.step1 5 _ _ (by kernel_rfl) rfl rfl (by kernel_rfl) (Want.none rfl) ((pe_assign rfl rfl).step) ?_ ?_
  · rintro _ _ ⟨rfl, rfl⟩
    exact (Again.anc (by kernel_rfl) (Again.anc (by kernel_rfl) (Again.anc (by kernel_rfl) (Again.anc (by kernel_rfl) Again.nil))))
  rintro _ _ ⟨rfl, rfl⟩
  refine Dr.done (by kernel_rfl) ?_
  refine To.keep (Keep.cons 6 rfl (Keep.cons 5 rfl (Keep.cons 3 rfl (Keep.cons 2 rfl Keep.nil)))) ?_
  refine To.nx ?_
  refine To.cut (fun a w => ∃ (x1011 : Bool), tale_Same.j1 x1011 = some r ∧ Knows 63 a [(4, .bool x1011)] ∧ Holds w (F)) ?_ ?_
  · rintro a w ⟨x1011, hm, ha, hw⟩
    refine To.at ha hw ?_
    clear ha hw a w
    unfold tale_Same.j1 at hm
    refine To.ret ?_
    cases hm
    exact To.back rfl (.tmp rfl .nil) rfl ⟨rfl, rfl⟩ .all
  · skip
    refine To.region (l := [0, 1, 2, 3, 4, 5, 6, 7, 8, 9, 10, 11, 12, 13, 14, 15, 16, 17, 18, 19, 20, 21, 22, 23, 24, 25, 26, 27, 28, 29, 30, 31, 32, 33, 34, 35, 36, 37, 38, 39, 40, 41, 42, 43, 44, 45, 46, 47, 48, 49, 50, 51, 52]) rfl ?_
    refine To.pure rfl (Want.none rfl) rfl rfl (pe_fld rfl rfl fld26_0 ty23 rfl rfl) ?_
    refine To.pure rfl (Want.none rfl) rfl rfl (pe_load rfl rfl (.s .z) .pt rfl (.t .z) ty23 rfl (fun _ => rfl) rfl) ?_
    refine To.pure rfl (Want.none rfl) rfl rfl (pe_fld rfl rfl fld26_0 ty23 rfl rfl) ?_
    refine To.pure rfl (Want.none rfl) rfl rfl (pe_load rfl rfl .z .pt rfl (.t .z) ty23 rfl (fun _ => rfl) rfl) ?_
    refine To.pure rfl (Want.none rfl) rfl rfl (pe_int rfl rfl rfl bi_eql) ?_
    refine To.pure rfl (Want.none rfl) rfl rfl (pe_move rfl rfl) ?_
    refine To.split 16 rfl (fun hc => ?_) (fun hc => ?_)
    · replace hm := ifT hc hm
      refine To.pure rfl (Want.of rfl rfl rfl rfl rfl rfl) rfl rfl (pe_fld rfl rfl fld26_1 ty3 rfl rfl) ?_
      refine To.pure rfl (Want.of rfl rfl rfl rfl rfl rfl) rfl rfl (pe_load rfl rfl (.s .z) .pt rfl (.d (.t .z)) ty3 rfl (fun _ => rfl) rfl) ?_
      refine To.pure rfl (Want.of rfl rfl rfl rfl rfl rfl) rfl rfl (pe_fld rfl rfl fld26_1 ty3 rfl rfl) ?_
      refine To.pure rfl (Want.of rfl rfl rfl rfl rfl rfl) rfl rfl (pe_load rfl rfl .z .pt rfl (.d (.t .z)) ty3 rfl (fun _ => rfl) rfl) ?_
      refine To.pure rfl (Want.of rfl rfl rfl rfl rfl rfl) rfl rfl (pe_int rfl rfl rfl bi_eql) ?_
      refine To.pure rfl (Want.none rfl) rfl rfl (pe_pick rfl rfl rfl) ?_
      refine To.pure rfl (Want.none rfl) rfl rfl (pe_move rfl rfl) ?_
      refine To.split 23 rfl (fun hc => ?_) (fun hc => ?_)
      · replace hm := ifT hc hm
        refine To.pure rfl (Want.of rfl rfl rfl rfl rfl rfl) rfl rfl (pe_fld rfl rfl fld26_2 ty3 rfl rfl) ?_
        refine To.pure rfl (Want.of rfl rfl rfl rfl rfl rfl) rfl rfl (pe_load rfl rfl (.s .z) .pt rfl (.d (.d (.t .z))) ty3 rfl (fun _ => rfl) rfl) ?_
        refine To.pure rfl (Want.of rfl rfl rfl rfl rfl rfl) rfl rfl (pe_fld rfl rfl fld26_2 ty3 rfl rfl) ?_
        refine To.pure rfl (Want.of rfl rfl rfl rfl rfl rfl) rfl rfl (pe_load rfl rfl .z .pt rfl (.d (.d (.t .z))) ty3 rfl (fun _ => rfl) rfl) ?_
        refine To.pure rfl (Want.of rfl rfl rfl rfl rfl rfl) rfl rfl (pe_int rfl rfl rfl bi_eql) ?_
        refine To.pure rfl (Want.none rfl) rfl rfl (pe_pick rfl rfl rfl) ?_
        refine To.pure rfl (Want.none rfl) rfl rfl (pe_move rfl rfl) ?_
        refine To.split 30 rfl (fun hc => ?_) (fun hc => ?_)
        · replace hm := ifT hc hm
          refine To.pure rfl (Want.of rfl rfl rfl rfl rfl rfl) rfl rfl (pe_fld rfl rfl fld26_3 ty3 rfl rfl) ?_
          refine To.pure rfl (Want.of rfl rfl rfl rfl rfl rfl) rfl rfl (pe_load rfl rfl (.s .z) .pt rfl (.d (.d (.d (.t .z)))) ty3 rfl (fun _ => rfl) rfl) ?_
          refine To.pure rfl (Want.of rfl rfl rfl rfl rfl rfl) rfl rfl (pe_fld rfl rfl fld26_3 ty3 rfl rfl) ?_
          refine To.pure rfl (Want.of rfl rfl rfl rfl rfl rfl) rfl rfl (pe_load rfl rfl .z .pt rfl (.d (.d (.d (.t .z)))) ty3 rfl (fun _ => rfl) rfl) ?_
          refine To.pure rfl (Want.of rfl rfl rfl rfl rfl rfl) rfl rfl (pe_int rfl rfl rfl bi_eql) ?_
          refine To.pure rfl (Want.none rfl) rfl rfl (pe_pick rfl rfl rfl) ?_
          refine To.pure rfl (Want.none rfl) rfl rfl (pe_move rfl rfl) ?_
          refine To.split 37 rfl (fun hc => ?_) (fun hc => ?_)
          · replace hm := ifT hc hm
            refine To.pure rfl (Want.of rfl rfl rfl rfl rfl rfl) rfl rfl (pe_fld rfl rfl fld26_4 ty3 rfl rfl) ?_
            refine To.pure rfl (Want.of rfl rfl rfl rfl rfl rfl) rfl rfl (pe_load rfl rfl (.s .z) .pt rfl (.d (.d (.d (.d (.t .z))))) ty3 rfl (fun _ => rfl) rfl) ?_
            refine To.pure rfl (Want.of rfl rfl rfl rfl rfl rfl) rfl rfl (pe_fld rfl rfl fld26_4 ty3 rfl rfl) ?_
            refine To.pure rfl (Want.of rfl rfl rfl rfl rfl rfl) rfl rfl (pe_load rfl rfl .z .pt rfl (.d (.d (.d (.d (.t .z))))) ty3 rfl (fun _ => rfl) rfl) ?_
            refine To.pure rfl (Want.of rfl rfl rfl rfl rfl rfl) rfl rfl (pe_int rfl rfl rfl bi_eql) ?_
            refine To.pure rfl (Want.none rfl) rfl rfl (pe_pick rfl rfl rfl) ?_
            refine To.pure rfl (Want.none rfl) rfl rfl (pe_move rfl rfl) ?_
            refine To.split 44 rfl (fun hc => ?_) (fun hc => ?_)
            · replace hm := ifT hc hm
              refine To.pure rfl (Want.of rfl rfl rfl rfl rfl rfl) rfl rfl (pe_fld rfl rfl fld26_5 ty9 rfl rfl) ?_
              refine To.pure rfl (Want.of rfl rfl rfl rfl rfl rfl) rfl rfl (pe_load rfl rfl (.s .z) .pt rfl (.d (.d (.d (.d (.d (.t .z)))))) ty9 rfl (fun _ => rfl) rfl) ?_
              refine To.pure rfl (Want.of rfl rfl rfl rfl rfl rfl) rfl rfl (pe_fld rfl rfl fld26_5 ty9 rfl rfl) ?_
              refine To.pure rfl (Want.of rfl rfl rfl rfl rfl rfl) rfl rfl (pe_load rfl rfl .z .pt rfl (.d (.d (.d (.d (.d (.t .z)))))) ty9 rfl (fun _ => rfl) rfl) ?_
              refine To.pure rfl (Want.of rfl rfl rfl rfl rfl rfl) rfl rfl (pe_str rfl rfl rfl bs_eql) ?_
              refine To.pure rfl (Want.none rfl) rfl rfl (pe_pick rfl rfl rfl) ?_
              refine To.pure rfl (Want.none rfl) rfl rfl (pe_move rfl rfl) ?_
              refine To.split 51 rfl (fun hc => ?_) (fun hc => ?_)
              · replace hm := ifT hc hm
                refine To.pure rfl (Want.of rfl rfl rfl rfl rfl rfl) rfl rfl (pe_fld rfl rfl fld26_7 ty4 rfl rfl) ?_
                refine To.pure rfl (Want.of rfl rfl rfl rfl rfl rfl) rfl rfl (pe_load rfl rfl (.s .z) .pt rfl (.d (.d (.d (.d (.d (.d (.d (.t .z)))))))) ty4 rfl (fun _ => rfl) rfl) ?_
                refine To.pure rfl (Want.of rfl rfl rfl rfl rfl rfl) rfl rfl (pe_fld rfl rfl fld26_7 ty4 rfl rfl) ?_
                refine To.pure rfl (Want.of rfl rfl rfl rfl rfl rfl) rfl rfl (pe_load rfl rfl .z .pt rfl (.d (.d (.d (.d (.d (.d (.d (.t .z)))))))) ty4 rfl (fun _ => rfl) rfl) ?_
                refine To.pure rfl (Want.of rfl rfl rfl rfl rfl rfl) rfl rfl (pe_beql rfl rfl rfl Tryz.underlying4) ?_
                refine To.pure rfl (Want.none rfl) rfl rfl (pe_pick rfl rfl rfl) ?_
                refine To.pure rfl (Want.none rfl) rfl rfl (pe_move rfl rfl) ?_
                refine To.split 58 rfl (fun hc => ?_) (fun hc => ?_)
                · replace hm := ifT hc hm
                  refine To.pure rfl (Want.of rfl rfl rfl rfl rfl rfl) rfl rfl (pe_move rfl rfl) ?_
                  refine To.pure rfl (Want.of rfl rfl rfl rfl rfl rfl) rfl rfl (pe_move rfl rfl) ?_
                  obtain ⟨y1012, h_y1012, hm⟩ := bindE hm
                  refine To.step rfl (Want.of rfl rfl rfl rfl rfl rfl) rfl rfl (st_call (slices_Equal_string.tri k h_y1012 a2 c3 a5 c6) rfl rfl fun16 (.dup (.s (.s .z)) inferInstance (.dup (.s (.s (.s .z))) inferInstance .all))) ?_
                  rintro _ _ ⟨_, ⟨rfl, rfl⟩, rfl⟩
                  refine To.app0 ?_
                  refine To.pure rfl (Want.none rfl) rfl rfl (pe_pick rfl rfl rfl) ?_
                  refine To.pure rfl (Want.none rfl) rfl rfl (pe_assign rfl rfl) ?_
                  refine To.done ?_
                  refine To.keep (Keep.cons 4 rfl Keep.nil) ?_
                  refine To.sel (.drop (.drop (.drop (.drop .all)))) ?_
                  exact fun a w ha hw => ⟨y1012, hm, ha.keep (Keep.cons 4 rfl Keep.nil), (Sel.imp .all) w hw⟩
                · replace hm := ifF hc hm
                  refine To.skipped rfl (Want.of rfl rfl rfl rfl rfl rfl) rfl rfl ?_
                  refine To.skipped rfl (Want.of rfl rfl rfl rfl rfl rfl) rfl rfl ?_
                  refine To.skipped rfl (Want.of rfl rfl rfl rfl rfl rfl) rfl rfl ?_
                  refine To.pure rfl (Want.none rfl) rfl rfl (pe_pick rfl rfl rfl) ?_
                  refine To.pure rfl (Want.none rfl) rfl rfl (pe_assign rfl rfl) ?_
                  refine To.done ?_
                  refine To.keep (Keep.cons 4 rfl Keep.nil) ?_
                  refine To.sel (.drop (.drop (.drop (.drop .all)))) ?_
                  exact fun a w ha hw => ⟨false, hm, ha.keep (Keep.cons 4 rfl Keep.nil), (Sel.imp .all) w hw⟩
              · replace hm := ifF hc hm
                refine To.skipped rfl (Want.of rfl rfl rfl rfl rfl rfl) rfl rfl ?_
                refine To.skipped rfl (Want.of rfl rfl rfl rfl rfl rfl) rfl rfl ?_
                refine To.skipped rfl (Want.of rfl rfl rfl rfl rfl rfl) rfl rfl ?_
                refine To.skipped rfl (Want.of rfl rfl rfl rfl rfl rfl) rfl rfl ?_
                refine To.skipped rfl (Want.of rfl rfl rfl rfl rfl rfl) rfl rfl ?_
                refine To.pure rfl (Want.none rfl) rfl rfl (pe_pick rfl rfl rfl) ?_
                refine To.pure rfl (Want.none rfl) rfl rfl (pe_move rfl rfl) ?_
                refine To.skipped rfl (Want.of rfl rfl rfl rfl rfl rfl) rfl rfl ?_
                refine To.skipped rfl (Want.of rfl rfl rfl rfl rfl rfl) rfl rfl ?_
                refine To.skipped rfl (Want.of rfl rfl rfl rfl rfl rfl) rfl rfl ?_
                refine To.pure rfl (Want.none rfl) rfl rfl (pe_pick rfl rfl rfl) ?_
                refine To.pure rfl (Want.none rfl) rfl rfl (pe_assign rfl rfl) ?_
                refine To.done ?_
                refine To.keep (Keep.cons 4 rfl Keep.nil) ?_
                refine To.sel (.drop (.drop (.drop (.drop .all)))) ?_
                exact fun a w ha hw => ⟨false, hm, ha.keep (Keep.cons 4 rfl Keep.nil), (Sel.imp .all) w hw⟩
            · replace hm := ifF hc hm
              refine To.skipped rfl (Want.of rfl rfl rfl rfl rfl rfl) rfl rfl ?_
              refine To.skipped rfl (Want.of rfl rfl rfl rfl rfl rfl) rfl rfl ?_
              refine To.skipped rfl (Want.of rfl rfl rfl rfl rfl rfl) rfl rfl ?_
              refine To.skipped rfl (Want.of rfl rfl rfl rfl rfl rfl) rfl rfl ?_
              refine To.skipped rfl (Want.of rfl rfl rfl rfl rfl rfl) rfl rfl ?_
              refine To.pure rfl (Want.none rfl) rfl rfl (pe_pick rfl rfl rfl) ?_
              refine To.pure rfl (Want.none rfl) rfl rfl (pe_move rfl rfl) ?_
              refine To.skipped rfl (Want.of rfl rfl rfl rfl rfl rfl) rfl rfl ?_
              refine To.skipped rfl (Want.of rfl rfl rfl rfl rfl rfl) rfl rfl ?_
              refine To.skipped rfl (Want.of rfl rfl rfl rfl rfl rfl) rfl rfl ?_
              refine To.skipped rfl (Want.of rfl rfl rfl rfl rfl rfl) rfl rfl ?_
              refine To.skipped rfl (Want.of rfl rfl rfl rfl rfl rfl) rfl rfl ?_
              refine To.pure rfl (Want.none rfl) rfl rfl (pe_pick rfl rfl rfl) ?_
              refine To.pure rfl (Want.none rfl) rfl rfl (pe_move rfl rfl) ?_
              refine To.skipped rfl (Want.of rfl rfl rfl rfl rfl rfl) rfl rfl ?_
              refine To.skipped rfl (Want.of rfl rfl rfl rfl rfl rfl) rfl rfl ?_
              refine To.skipped rfl (Want.of rfl rfl rfl rfl rfl rfl) rfl rfl ?_
              refine To.pure rfl (Want.none rfl) rfl rfl (pe_pick rfl rfl rfl) ?_
              refine To.pure rfl (Want.none rfl) rfl rfl (pe_assign rfl rfl) ?_
              refine To.done ?_
              refine To.keep (Keep.cons 4 rfl Keep.nil) ?_
              refine To.sel (.drop (.drop (.drop (.drop .all)))) ?_
              exact fun a w ha hw => ⟨false, hm, ha.keep (Keep.cons 4 rfl Keep.nil), (Sel.imp .all) w hw⟩
          · replace hm := ifF hc hm
            refine To.skipped rfl (Want.of rfl rfl rfl rfl rfl rfl) rfl rfl ?_
            refine To.skipped rfl (Want.of rfl rfl rfl rfl rfl rfl) rfl rfl ?_
            refine To.skipped rfl (Want.of rfl rfl rfl rfl rfl rfl) rfl rfl ?_
            refine To.skipped rfl (Want.of rfl rfl rfl rfl rfl rfl) rfl rfl ?_
            refine To.skipped rfl (Want.of rfl rfl rfl rfl rfl rfl) rfl rfl ?_
            refine To.pure rfl (Want.none rfl) rfl rfl (pe_pick rfl rfl rfl) ?_
            refine To.pure rfl (Want.none rfl) rfl rfl (pe_move rfl rfl) ?_
            refine To.skipped rfl (Want.of rfl rfl rfl rfl rfl rfl) rfl rfl ?_
            refine To.skipped rfl (Want.of rfl rfl rfl rfl rfl rfl) rfl rfl ?_
            refine To.skipped rfl (Want.of rfl rfl rfl rfl rfl rfl) rfl rfl ?_
            refine To.skipped rfl (Want.of rfl rfl rfl rfl rfl rfl) rfl rfl ?_
            refine To.skipped rfl (Want.of rfl rfl rfl rfl rfl rfl) rfl rfl ?_
            refine To.pure rfl (Want.none rfl) rfl rfl (pe_pick rfl rfl rfl) ?_
            refine To.pure rfl (Want.none rfl) rfl rfl (pe_move rfl rfl) ?_
            refine To.skipped rfl (Want.of rfl rfl rfl rfl rfl rfl) rfl rfl ?_
            refine To.skipped rfl (Want.of rfl rfl rfl rfl rfl rfl) rfl rfl ?_
            refine To.skipped rfl (Want.of rfl rfl rfl rfl rfl rfl) rfl rfl ?_
            refine To.skipped rfl (Want.of rfl rfl rfl rfl rfl rfl) rfl rfl ?_
            refine To.skipped rfl (Want.of rfl rfl rfl rfl rfl rfl) rfl rfl ?_
            refine To.pure rfl (Want.none rfl) rfl rfl (pe_pick rfl rfl rfl) ?_
            refine To.pure rfl (Want.none rfl) rfl rfl (pe_move rfl rfl) ?_
            refine To.skipped rfl (Want.of rfl rfl rfl rfl rfl rfl) rfl rfl ?_
            refine To.skipped rfl (Want.of rfl rfl rfl rfl rfl rfl) rfl rfl ?_
            refine To.skipped rfl (Want.of rfl rfl rfl rfl rfl rfl) rfl rfl ?_
            refine To.pure rfl (Want.none rfl) rfl rfl (pe_pick rfl rfl rfl) ?_
            refine To.pure rfl (Want.none rfl) rfl rfl (pe_assign rfl rfl) ?_
            refine To.done ?_
            refine To.keep (Keep.cons 4 rfl Keep.nil) ?_
            refine To.sel (.drop (.drop (.drop (.drop .all)))) ?_
            exact fun a w ha hw => ⟨false, hm, ha.keep (Keep.cons 4 rfl Keep.nil), (Sel.imp .all) w hw⟩
        · replace hm := ifF hc hm
          refine To.skipped rfl (Want.of rfl rfl rfl rfl rfl rfl) rfl rfl ?_
          refine To.skipped rfl (Want.of rfl rfl rfl rfl rfl rfl) rfl rfl ?_
          refine To.skipped rfl (Want.of rfl rfl rfl rfl rfl rfl) rfl rfl ?_
          refine To.skipped rfl (Want.of rfl rfl rfl rfl rfl rfl) rfl rfl ?_
          refine To.skipped rfl (Want.of rfl rfl rfl rfl rfl rfl) rfl rfl ?_
          refine To.pure rfl (Want.none rfl) rfl rfl (pe_pick rfl rfl rfl) ?_
          refine To.pure rfl (Want.none rfl) rfl rfl (pe_move rfl rfl) ?_
          refine To.skipped rfl (Want.of rfl rfl rfl rfl rfl rfl) rfl rfl ?_
          refine To.skipped rfl (Want.of rfl rfl rfl rfl rfl rfl) rfl rfl ?_
          refine To.skipped rfl (Want.of rfl rfl rfl rfl rfl rfl) rfl rfl ?_
          refine To.skipped rfl (Want.of rfl rfl rfl rfl rfl rfl) rfl rfl ?_
          refine To.skipped rfl (Want.of rfl rfl rfl rfl rfl rfl) rfl rfl ?_
          refine To.pure rfl (Want.none rfl) rfl rfl (pe_pick rfl rfl rfl) ?_
          refine To.pure rfl (Want.none rfl) rfl rfl (pe_move rfl rfl) ?_
          refine To.skipped rfl (Want.of rfl rfl rfl rfl rfl rfl) rfl rfl ?_
          refine To.skipped rfl (Want.of rfl rfl rfl rfl rfl rfl) rfl rfl ?_
          refine To.skipped rfl (Want.of rfl rfl rfl rfl rfl rfl) rfl rfl ?_
          refine To.skipped rfl (Want.of rfl rfl rfl rfl rfl rfl) rfl rfl ?_
          refine To.skipped rfl (Want.of rfl rfl rfl rfl rfl rfl) rfl rfl ?_
          refine To.pure rfl (Want.none rfl) rfl rfl (pe_pick rfl rfl rfl) ?_
          refine To.pure rfl (Want.none rfl) rfl rfl (pe_move rfl rfl) ?_
          refine To.skipped rfl (Want.of rfl rfl rfl rfl rfl rfl) rfl rfl ?_
          refine To.skipped rfl (Want.of rfl rfl rfl rfl rfl rfl) rfl rfl ?_
          refine To.skipped rfl (Want.of rfl rfl rfl rfl rfl rfl) rfl rfl ?_
          refine To.skipped rfl (Want.of rfl rfl rfl rfl rfl rfl) rfl rfl ?_
          refine To.skipped rfl (Want.of rfl rfl rfl rfl rfl rfl) rfl rfl ?_
          refine To.pure rfl (Want.none rfl) rfl rfl (pe_pick rfl rfl rfl) ?_
          refine To.pure rfl (Want.none rfl) rfl rfl (pe_move rfl rfl) ?_
          refine To.skipped rfl (Want.of rfl rfl rfl rfl rfl rfl) rfl rfl ?_
          refine To.skipped rfl (Want.of rfl rfl rfl rfl rfl rfl) rfl rfl ?_
          refine To.skipped rfl (Want.of rfl rfl rfl rfl rfl rfl) rfl rfl ?_
          refine To.pure rfl (Want.none rfl) rfl rfl (pe_pick rfl rfl rfl) ?_
          refine To.pure rfl (Want.none rfl) rfl rfl (pe_assign rfl rfl) ?_
          refine To.done ?_
          refine To.keep (Keep.cons 4 rfl Keep.nil) ?_
          refine To.sel (.drop (.drop (.drop (.drop .all)))) ?_
          exact fun a w ha hw => ⟨false, hm, ha.keep (Keep.cons 4 rfl Keep.nil), (Sel.imp .all) w hw⟩
      · replace hm := ifF hc hm
        refine To.skipped rfl (Want.of rfl rfl rfl rfl rfl rfl) rfl rfl ?_
        refine To.skipped rfl (Want.of rfl rfl rfl rfl rfl rfl) rfl rfl ?_
        refine To.skipped rfl (Want.of rfl rfl rfl rfl rfl rfl) rfl rfl ?_
        refine To.skipped rfl (Want.of rfl rfl rfl rfl rfl rfl) rfl rfl ?_
        refine To.skipped rfl (Want.of rfl rfl rfl rfl rfl rfl) rfl rfl ?_
        refine To.pure rfl (Want.none rfl) rfl rfl (pe_pick rfl rfl rfl) ?_
        refine To.pure rfl (Want.none rfl) rfl rfl (pe_move rfl rfl) ?_
        refine To.skipped rfl (Want.of rfl rfl rfl rfl rfl rfl) rfl rfl ?_
        refine To.skipped rfl (Want.of rfl rfl rfl rfl rfl rfl) rfl rfl ?_
        refine To.skipped rfl (Want.of rfl rfl rfl rfl rfl rfl) rfl rfl ?_
        refine To.skipped rfl (Want.of rfl rfl rfl rfl rfl rfl) rfl rfl ?_
        refine To.skipped rfl (Want.of rfl rfl rfl rfl rfl rfl) rfl rfl ?_
        refine To.pure rfl (Want.none rfl) rfl rfl (pe_pick rfl rfl rfl) ?_
        refine To.pure rfl (Want.none rfl) rfl rfl (pe_move rfl rfl) ?_
        refine To.skipped rfl (Want.of rfl rfl rfl rfl rfl rfl) rfl rfl ?_
        refine To.skipped rfl (Want.of rfl rfl rfl rfl rfl rfl) rfl rfl ?_
        refine To.skipped rfl (Want.of rfl rfl rfl rfl rfl rfl) rfl rfl ?_
        refine To.skipped rfl (Want.of rfl rfl rfl rfl rfl rfl) rfl rfl ?_
        refine To.skipped rfl (Want.of rfl rfl rfl rfl rfl rfl) rfl rfl ?_
        refine To.pure rfl (Want.none rfl) rfl rfl (pe_pick rfl rfl rfl) ?_
        refine To.pure rfl (Want.none rfl) rfl rfl (pe_move rfl rfl) ?_
        refine To.skipped rfl (Want.of rfl rfl rfl rfl rfl rfl) rfl rfl ?_
        refine To.skipped rfl (Want.of rfl rfl rfl rfl rfl rfl) rfl rfl ?_
        refine To.skipped rfl (Want.of rfl rfl rfl rfl rfl rfl) rfl rfl ?_
        refine To.skipped rfl (Want.of rfl rfl rfl rfl rfl rfl) rfl rfl ?_
        refine To.skipped rfl (Want.of rfl rfl rfl rfl rfl rfl) rfl rfl ?_
        refine To.pure rfl (Want.none rfl) rfl rfl (pe_pick rfl rfl rfl) ?_
        refine To.pure rfl (Want.none rfl) rfl rfl (pe_move rfl rfl) ?_
        refine To.skipped rfl (Want.of rfl rfl rfl rfl rfl rfl) rfl rfl ?_
        refine To.skipped rfl (Want.of rfl rfl rfl rfl rfl rfl) rfl rfl ?_
        refine To.skipped rfl (Want.of rfl rfl rfl rfl rfl rfl) rfl rfl ?_
        refine To.skipped rfl (Want.of rfl rfl rfl rfl rfl rfl) rfl rfl ?_
        refine To.skipped rfl (Want.of rfl rfl rfl rfl rfl rfl) rfl rfl ?_
        refine To.pure rfl (Want.none rfl) rfl rfl (pe_pick rfl rfl rfl) ?_
        refine To.pure rfl (Want.none rfl) rfl rfl (pe_move rfl rfl) ?_
        refine To.skipped rfl (Want.of rfl rfl rfl rfl rfl rfl) rfl rfl ?_
        refine To.skipped rfl (Want.of rfl rfl rfl rfl rfl rfl) rfl rfl ?_
        refine To.skipped rfl (Want.of rfl rfl rfl rfl rfl rfl) rfl rfl ?_
        refine To.pure rfl (Want.none rfl) rfl rfl (pe_pick rfl rfl rfl) ?_
        refine To.pure rfl (Want.none rfl) rfl rfl (pe_assign rfl rfl) ?_
        refine To.done ?_
        refine To.keep (Keep.cons 4 rfl Keep.nil) ?_
        refine To.sel (.drop (.drop (.drop (.drop .all)))) ?_
        exact fun a w ha hw => ⟨false, hm, ha.keep (Keep.cons 4 rfl Keep.nil), (Sel.imp .all) w hw⟩
    · replace hm := ifF hc hm
      refine To.skipped rfl (Want.of rfl rfl rfl rfl rfl rfl) rfl rfl ?_
      refine To.skipped rfl (Want.of rfl rfl rfl rfl rfl rfl) rfl rfl ?_
      refine To.skipped rfl (Want.of rfl rfl rfl rfl rfl rfl) rfl rfl ?_
      refine To.skipped rfl (Want.of rfl rfl rfl rfl rfl rfl) rfl rfl ?_
      refine To.skipped rfl (Want.of rfl rfl rfl rfl rfl rfl) rfl rfl ?_
      refine To.pure rfl (Want.none rfl) rfl rfl (pe_pick rfl rfl rfl) ?_
      refine To.pure rfl (Want.none rfl) rfl rfl (pe_move rfl rfl) ?_
      refine To.skipped rfl (Want.of rfl rfl rfl rfl rfl rfl) rfl rfl ?_
      refine To.skipped rfl (Want.of rfl rfl rfl rfl rfl rfl) rfl rfl ?_
      refine To.skipped rfl (Want.of rfl rfl rfl rfl rfl rfl) rfl rfl ?_
      refine To.skipped rfl (Want.of rfl rfl rfl rfl rfl rfl) rfl rfl ?_
      refine To.skipped rfl (Want.of rfl rfl rfl rfl rfl rfl) rfl rfl ?_
      refine To.pure rfl (Want.none rfl) rfl rfl (pe_pick rfl rfl rfl) ?_
      refine To.pure rfl (Want.none rfl) rfl rfl (pe_move rfl rfl) ?_
      refine To.skipped rfl (Want.of rfl rfl rfl rfl rfl rfl) rfl rfl ?_
      refine To.skipped rfl (Want.of rfl rfl rfl rfl rfl rfl) rfl rfl ?_
      refine To.skipped rfl (Want.of rfl rfl rfl rfl rfl rfl) rfl rfl ?_
      refine To.skipped rfl (Want.of rfl rfl rfl rfl rfl rfl) rfl rfl ?_
      refine To.skipped rfl (Want.of rfl rfl rfl rfl rfl rfl) rfl rfl ?_
      refine To.pure rfl (Want.none rfl) rfl rfl (pe_pick rfl rfl rfl) ?_
      refine To.pure rfl (Want.none rfl) rfl rfl (pe_move rfl rfl) ?_
      refine To.skipped rfl (Want.of rfl rfl rfl rfl rfl rfl) rfl rfl ?_
      refine To.skipped rfl (Want.of rfl rfl rfl rfl rfl rfl) rfl rfl ?_
      refine To.skipped rfl (Want.of rfl rfl rfl rfl rfl rfl) rfl rfl ?_
      refine To.skipped rfl (Want.of rfl rfl rfl rfl rfl rfl) rfl rfl ?_
      refine To.skipped rfl (Want.of rfl rfl rfl rfl rfl rfl) rfl rfl ?_
      refine To.pure rfl (Want.none rfl) rfl rfl (pe_pick rfl rfl rfl) ?_
      refine To.pure rfl (Want.none rfl) rfl rfl (pe_move rfl rfl) ?_
      refine To.skipped rfl (Want.of rfl rfl rfl rfl rfl rfl) rfl rfl ?_
      refine To.skipped rfl (Want.of rfl rfl rfl rfl rfl rfl) rfl rfl ?_
      refine To.skipped rfl (Want.of rfl rfl rfl rfl rfl rfl) rfl rfl ?_
      refine To.skipped rfl (Want.of rfl rfl rfl rfl rfl rfl) rfl rfl ?_
      refine To.skipped rfl (Want.of rfl rfl rfl rfl rfl rfl) rfl rfl ?_
      refine To.pure rfl (Want.none rfl) rfl rfl (pe_pick rfl rfl rfl) ?_
      refine To.pure rfl (Want.none rfl) rfl rfl (pe_move rfl rfl) ?_
      refine To.skipped rfl (Want.of rfl rfl rfl rfl rfl rfl) rfl rfl ?_
      refine To.skipped rfl (Want.of rfl rfl rfl rfl rfl rfl) rfl rfl ?_
      refine To.skipped rfl (Want.of rfl rfl rfl rfl rfl rfl) rfl rfl ?_
      refine To.skipped rfl (Want.of rfl rfl rfl rfl rfl rfl) rfl rfl ?_
      refine To.skipped rfl (Want.of rfl rfl rfl rfl rfl rfl) rfl rfl ?_
      refine To.pure rfl (Want.none rfl) rfl rfl (pe_pick rfl rfl rfl) ?_
      refine To.pure rfl (Want.none rfl) rfl rfl (pe_move rfl rfl) ?_
      refine To.skipped rfl (Want.of rfl rfl rfl rfl rfl rfl) rfl rfl ?_
      refine To.skipped rfl (Want.of rfl rfl rfl rfl rfl rfl) rfl rfl ?_
      refine To.skipped rfl (Want.of rfl rfl rfl rfl rfl rfl) rfl rfl ?_
      refine To.pure rfl (Want.none rfl) rfl rfl (pe_pick rfl rfl rfl) ?_
      refine To.pure rfl (Want.none rfl) rfl rfl (pe_assign rfl rfl) ?_
      refine To.done ?_
      refine To.keep (Keep.cons 4 rfl Keep.nil) ?_
      refine To.sel (.drop (.drop (.drop (.drop .all)))) ?_
      exact fun a w ha hw => ⟨false, hm, ha.keep (Keep.cons 4 rfl Keep.nil), (Sel.imp .all) w hw⟩
end Go.Proofs.M

set_option linter.unusedVariables false
set_option maxRecDepth 10000
namespace Go.Proofs.M
open Go Go.WG
/-- socage/tale.Wrong -/
def tale_Wrong.j2 (x1175 : Int) (rec1218 : T_spec_State → Int → Int → Option Int) (e1219 : T_sched_Record) (x1245 : T_spec_State) (x1246 : Bool) : Option Int := (if x1246 = true then (some x1175) else (rec1218 x1245 e1219.Mark (IntKind.i64.wrap (x1175 + 1))))
def tale_Wrong.l1 (y1132 : (List T_sched_Record)) : Nat → T_spec_State → Int → Int → Option Int
  | 0, _, _, _ => none
  | k1217 + 1, x1173, x1174, x1175 => (if (decide (x1175 < (y1132.length : Int))) = true then ((ix y1132 x1175).bind fun e1219 => (if (decide (e1219.Mark ≤ x1174)) = true then (tale_Wrong.j2 x1175 (tale_Wrong.l1 y1132 k1217) e1219 x1173 true) else (if (decide (e1219.Mark < e1219.Call)) = true then (tale_Wrong.j2 x1175 (tale_Wrong.l1 y1132 k1217) e1219 x1173 true) else (if (decide (e1219.Mark > e1219.Return)) = true then (tale_Wrong.j2 x1175 (tale_Wrong.l1 y1132 k1217) e1219 x1173 true) else ((spec_State_Do.f k1217 x1173 e1219.Op).bind fun y1253 => ((tale_Same.f k1217 y1253.1 e1219.Result).bind fun y1256 => (tale_Wrong.j2 x1175 (tale_Wrong.l1 y1132 k1217) e1219 y1253.2 (!y1256)))))))) else (some (-1)))
def tale_Wrong.f (k : Nat) (p1 : T_stack_Stack) (p4 : Int) (p5 : List T_sched_Record) : Option Int := ((spec_New.f k p1 p4).bind fun y1130 => ((tale_Order.f k p5).bind fun y1132 => (tale_Wrong.l1 y1132 k y1130 0 0)))
theorem tale_Wrong.tri (k : Nat) {r : Int} {p1 : T_stack_Stack} {p4 : Int} {p5 : List T_sched_Record} (hm : tale_Wrong.f k p1 p4 p5 = some r) (a2 : Option Addr) (c3 : Nat) (a6 : Option Addr) (c7 : Nat) :
    Tri Tryz.prog 14 [.agg ⟨[.slice a2 p1.lF.length c3, .int .i64 p1.nextF]⟩, .int .i64 p4, .slice a6 p5.length c7] [imm k_stack_mount a2 c3 p1.lF, imm k_sched_Record a6 c7 p5] (fun v H' => v = .int .i64 r ∧ H' = []) := by
  refine Tri.intro2 Tryz.func14 rfl rfl rfl (fun F => ?_)
  unfold tale_Wrong.f at hm
  refine To.seq ?_
  refine To.region (l := [0, 1]) rfl ?_
  refine To.step rfl (Want.none rfl) rfl rfl (st_box rfl rfl rfl) ?_
  rintro _ _ ⟨b1129, rfl, rfl⟩
  refine To.pure rfl (Want.none rfl) rfl rfl (pe_assign rfl rfl) ?_
  refine To.done ?_
  refine To.keep (Keep.cons 3 rfl (Keep.cons 1 rfl (Keep.cons 2 rfl Keep.nil))) ?_
  refine To.nx ?_
  refine To.seq ?_
  refine To.region (l := [0, 1, 2, 3, 4]) rfl ?_
  refine To.pure rfl (Want.none rfl) rfl rfl (pe_load rfl rfl .z .pt rfl (.t (.t .z)) ty42 rfl nofun rfl) ?_
  refine To.pure rfl (Want.none rfl) rfl rfl (pe_move rfl rfl) ?_
  obtain ⟨y1130, h_y1130, hm⟩ := bindE hm
  refine To.step rfl (Want.none rfl) rfl rfl (st_call (spec_New.tri k h_y1130 a2 c3) rfl rfl fun20 (.dup (.s .z) inferInstance .all)) ?_
  rintro _ _ ⟨_, ⟨b1131, rfl, rfl⟩, rfl⟩
  refine To.app1 ?_
  refine To.pure rfl (Want.none rfl) rfl rfl (pe_iface rfl rfl Tryz.underlying49 rfl) ?_
  refine To.pure rfl (Want.none rfl) rfl rfl (pe_assign rfl rfl) ?_
  refine To.done ?_
  refine To.keep (Keep.cons 7 rfl (Keep.cons 2 rfl Keep.nil)) ?_
  refine To.sel (.cons .z (.drop (.drop .all))) ?_
  refine To.nx ?_
  refine To.seq ?_
  refine To.region (l := [0]) rfl ?_
  refine To.pure rfl (Want.none rfl) rfl rfl (pe_assign rfl rfl) ?_
  refine To.done ?_
  refine To.keep (Keep.cons 8 rfl (Keep.cons 7 rfl (Keep.cons 2 rfl Keep.nil))) ?_
  refine To.nx ?_
  refine To.seq ?_
  refine To.seq ?_
  refine To.region (l := [0, 1, 2, 3]) rfl ?_
  refine To.pure rfl (Want.none rfl) rfl rfl (pe_move rfl rfl) ?_
  obtain ⟨y1132, h_y1132, hm⟩ := bindE hm
  refine To.step rfl (Want.none rfl) rfl rfl (st_call (tale_Order.tri k h_y1132 a6 c7) rfl rfl fun13 (.dup (.s .z) inferInstance .all)) ?_
  rintro _ _ ⟨_, ⟨a1133, c1134, rfl, rfl⟩, rfl⟩
  refine To.app1 ?_
  refine To.pure rfl (Want.none rfl) rfl rfl (pe_len rfl rfl Tryz.underlying22) ?_
  refine To.pure rfl (Want.none rfl) rfl rfl (pe_move rfl rfl) ?_
  refine To.done ?_
  refine To.keep (Keep.cons 18 rfl (Keep.cons 17 rfl (Keep.cons 16 rfl (Keep.cons 8 rfl (Keep.cons 7 rfl Keep.nil))))) ?_
  refine To.sel (.cons .z (.cons .z (.drop .all))) ?_
  refine To.nx ?_
  refine To.block ?_
  refine To.loop (fun kk a w => ∃ (x1173 : T_spec_State), ∃ (x1174 : Int), ∃ (x1175 : Int), tale_Wrong.l1 y1132 kk x1173 x1174 x1175 = some r ∧ Knows 55 a [(7, .iface 49 (.pointer (some ⟨b1131, 0, none⟩))), (8, .int .i64 x1174), (16, .slice a1133 y1132.length c1134), (17, .int .i64 (y1132.length : Int)), (18, .int .i64 x1175)] ∧ Holds w (ob_spec_State b1131 0 x1173 :: own k_sched_Record a1133 c1134 y1132 :: F)) ?_ ?_ k ?_
  · rintro a w ⟨_, _, _, hm, _, _⟩; rw [tale_Wrong.l1] at hm; cases hm
  · rintro k1217 a w ⟨x1173, x1174, x1175, hm, ha, hw⟩
    refine To.at ha hw ?_
    clear ha hw a w
    rw [tale_Wrong.l1] at hm
    refine To.seq ?_
    refine To.region (l := [0]) rfl ?_
    refine To.pure rfl (Want.none rfl) rfl rfl (pe_int rfl rfl rfl bi_lss) ?_
    refine To.done ?_
    refine To.keep (Keep.cons 19 rfl (Keep.cons 7 rfl (Keep.cons 8 rfl (Keep.cons 16 rfl (Keep.cons 17 rfl (Keep.cons 18 rfl Keep.nil)))))) ?_
    refine To.nx ?_
    refine To.seq ?_
    refine To.cond rfl (fun hc => ?_) (fun hc => ?_)
    · replace hm := ifT hc hm
      refine To.skip ?_
      refine To.nx ?_
      refine To.seq ?_
      refine To.block ?_
      refine To.seq ?_
      refine To.region (l := [0, 1, 2, 3, 4, 5]) rfl ?_
      refine To.pure rfl (Want.none rfl) rfl rfl (pe_move rfl rfl) ?_
      obtain ⟨e1219, h_e1219, hm⟩ := bindE hm
      obtain ⟨h0_e1219, hl_e1219, hx_e1219⟩ := ixE h_e1219
      refine To.ex ( Ex.own_some (.s .z) hx_e1219) fun q e => ?_
      obtain ⟨b1220, r1221⟩ := q; cases e
      refine To.pure rfl (Want.none rfl) rfl rfl (pe_idx rfl rfl rfl Tryz.underlying22 ty32 h0_e1219 hl_e1219 rfl) ?_
      refine To.fo_sched_Record (i := (x1175 : Int).toNat) (.s .z) hx_e1219 ?_
      rintro b_ r_ a1222 c1223 e; cases e
      refine To.pure rfl (Want.none rfl) rfl rfl (pe_load rfl rfl (.s .z) .pt rfl (.t (.t (.t (.t (.t (.t (.t (.t (.t (.t (.t (.t (.t (.t (.t (.t (.t (.t (.t .z))))))))))))))))))) ty32 rfl nofun rfl) ?_
      refine To.step rfl (Want.none rfl) rfl rfl (st_alloc rfl zero32) ?_
      rintro _ _ ⟨b1224, rfl, rfl⟩
      refine To.pure rfl (Want.none rfl) rfl rfl (pe_assign rfl rfl) ?_
      refine To.step0 rfl (Want.none rfl) rfl (st_store rfl rfl rfl rfl .z rfl (.t (.t (.t (.t (.t (.t (.t (.t (.t (.t (.t (.t (.t (.t (.t (.t (.t (.t (.t .z))))))))))))))))))) ty32 rfl rfl) ?_
      rintro _ _ rfl
      refine To.done ?_
      refine To.keep (Keep.cons 9 rfl (Keep.cons 10 rfl (Keep.cons 7 rfl (Keep.cons 8 rfl (Keep.cons 16 rfl (Keep.cons 17 rfl (Keep.cons 18 rfl Keep.nil))))))) ?_
      refine To.nx ?_
      refine To.seq ?_
      refine To.sel (.dup (.s .z) inferInstance .all) ?_
      refine To.imp (mk_sched_Record (x := e1219)) ?_
      refine To.sel (.cons .z (.cons (.s (.s .z)) (.cons (.s (.s .z)) .all))) (To.imp (unfocus_same rfl hx_e1219) ?_)
      refine To.cut (fun a w => ∃ (x1245 : T_spec_State), ∃ (x1246 : Bool), tale_Wrong.j2 x1175 (tale_Wrong.l1 y1132 k1217) e1219 x1245 x1246 = some r ∧ Knows 55 a [(7, .iface 49 (.pointer (some ⟨b1131, 0, none⟩))), (9, .int .i64 x1175), (10, .pointer (some ⟨b1224, 0, none⟩)), (16, .slice (some ⟨b1220, r1221, none⟩) y1132.length c1134), (17, .int .i64 (y1132.length : Int)), (18, .int .i64 x1175), (50, .bool x1246)] ∧ Holds w (ob_spec_State b1131 0 x1245 :: pt b1224 0 [.int .i64 e1219.Client, .int .i64 e1219.Index, .int .i64 e1219.Op.Kind, .string (S e1219.Op.Path), .int .i64 e1219.Op.Off, .int .i64 e1219.Op.N, .int .i64 e1219.Op.ID, .string (S e1219.Op.Image), .int .i64 e1219.Result.Err, .int .i64 e1219.Result.Kind, .int .i64 e1219.Result.Size, .int .i64 e1219.Result.Where, .int .i64 e1219.Result.ID, .string (S e1219.Result.Text), .slice a1222 e1219.Result.Names.length c1223, .bool e1219.Result.End, .int .i64 e1219.Call, .int .i64 e1219.Mark, .int .i64 e1219.Return] :: imm kStr a1222 c1223 e1219.Result.Names :: own k_sched_Record (some ⟨b1220, r1221, none⟩) c1134 y1132 :: F)) ?_ ?_
      · rintro a w ⟨x1245, x1246, hm, ha, hw⟩
        refine To.at ha hw ?_
        clear ha hw a w
        unfold tale_Wrong.j2 at hm
        refine To.cond rfl (fun hc => ?_) (fun hc => ?_)
        · replace hm := ifT hc hm
          refine To.seq ?_
          refine To.region (l := [0, 1]) rfl ?_
          refine To.pure rfl (Want.none rfl) rfl rfl (pe_move rfl rfl) ?_
          refine To.pure rfl (Want.none rfl) rfl rfl (pe_assign rfl rfl) ?_
          refine To.done ?_
          refine To.keep (Keep.cons 6 rfl Keep.nil) ?_
          refine To.sel (.drop (.drop (.drop (.drop .all)))) ?_
          refine To.nx ?_
          refine To.ret ?_
          refine To.tr ?_
          refine To.br ?_
          refine To.tr ?_
          refine To.tr ?_
          refine To.br ?_
          refine To.tr ?_
          cases hm
          exact To.back rfl (.tmp rfl .nil) rfl ⟨rfl, rfl⟩ .all
        · replace hm := ifF hc hm
          refine To.skip ?_
          refine To.nx ?_
          refine To.region (l := [0, 1, 2]) rfl ?_
          refine To.pure rfl (Want.none rfl) rfl rfl (pe_fld rfl rfl fld32_5 ty3 rfl rfl) ?_
          refine To.pure rfl (Want.none rfl) rfl rfl (pe_load rfl rfl (.s .z) .pt rfl (.d (.d (.d (.d (.d (.d (.d (.d (.d (.d (.d (.d (.d (.d (.d (.d (.d (.t .z)))))))))))))))))) ty3 rfl (fun _ => rfl) rfl) ?_
          refine To.pure rfl (Want.none rfl) rfl rfl (pe_assign rfl rfl) ?_
          refine To.done ?_
          refine To.keep (Keep.cons 8 rfl (Keep.cons 7 rfl (Keep.cons 16 rfl (Keep.cons 17 rfl (Keep.cons 18 rfl Keep.nil))))) ?_
          refine To.sel (.cons .z (.drop (.drop .all))) ?_
          refine To.bn ?_
          refine To.nx ?_
          refine To.region (l := [0, 1]) rfl ?_
          refine To.pure rfl (Want.none rfl) rfl rfl (pe_int rfl rfl rfl bi_add) ?_
          refine To.pure rfl (Want.none rfl) rfl rfl (pe_move rfl rfl) ?_
          refine To.done ?_
          refine To.keep (Keep.cons 18 rfl (Keep.cons 8 rfl (Keep.cons 7 rfl (Keep.cons 16 rfl (Keep.cons 17 rfl Keep.nil))))) ?_
          exact fun a w ha hw => ⟨x1245, e1219.Mark, IntKind.i64.wrap (x1175 + 1), hm, ha.keep (Keep.cons 7 rfl (Keep.cons 8 rfl (Keep.cons 16 rfl (Keep.cons 17 rfl (Keep.cons 18 rfl Keep.nil))))), (Sel.imp (.cons .z (.cons .z .all))) w hw⟩
      · skip
        refine To.bool (decide (e1219.Mark ≤ x1174)) (fun hc => ?_) (fun hc => ?_)
        · replace hm := ifT hc hm; have hd1247 := hc
          refine To.draws [0, 1, 0, 7, 15, 31, 63, 31, 159, 511, 1023, 2047, 4095, 8191, 4095, 20479, 65535, 131071, 262143, 524287, 524287, 1572863, 4194303, 524287, 8912895, 33554431, 67108863, 134217727] mixed (by kernel_rfl) (by kernel_rfl) ?_
          refine Dr.pure 0 23 _ _ rfl rfl rfl rfl rfl rfl (by kernel_rfl) (PureG.of (Want.none rfl) (pe_fld rfl rfl fld32_5 ty3 rfl rfl)) ?_
          refine Dr.pure 1 24 _ _ rfl rfl rfl rfl rfl rfl (by kernel_rfl) (PureG.of (Want.none rfl) (pe_load rfl rfl (.s .z) .pt rfl (.d (.d (.d (.d (.d (.d (.d (.d (.d (.d (.d (.d (.d (.d (.d (.d (.d (.t .z)))))))))))))))))) ty3 rfl (fun _ => rfl) rfl)) ?_
          refine Dr.pure 2 25 _ _ rfl rfl rfl rfl rfl rfl (by kernel_rfl) (PureG.of (Want.none rfl) (pe_move rfl rfl)) ?_
          refine Dr.pure 3 26 _ _ rfl rfl rfl rfl rfl rfl (by kernel_rfl) (PureG.of (Want.none rfl) (pe_int rfl rfl rfl bi_leq)) ?_
          refine Dr.pure 4 27 _ _ rfl rfl rfl rfl rfl rfl (by kernel_rfl) (PureG.of (Want.none rfl) (pe_move rfl rfl)) ?_
          refine Dr.pure 5 28 _ _ rfl rfl rfl rfl rfl rfl (by kernel_rfl) (PureG.skip (Want.of rfl rfl rfl rfl rfl (by rw [hd1247]; rfl))) ?_
          refine Dr.pure 6 29 _ _ rfl rfl rfl rfl rfl rfl (by kernel_rfl) (PureG.skip (Want.of rfl rfl rfl rfl rfl (by rw [hd1247]; rfl))) ?_
          refine Dr.pure 7 30 _ _ rfl rfl rfl rfl rfl rfl (by kernel_rfl) (PureG.skip (Want.of rfl rfl rfl rfl rfl (by rw [hd1247]; rfl))) ?_
          refine Dr.pure 8 31 _ _ rfl rfl rfl rfl rfl rfl (by kernel_rfl) (PureG.skip (Want.of rfl rfl rfl rfl rfl (by rw [hd1247]; rfl))) ?_
          refine Dr.pure 9 32 _ _ rfl rfl rfl rfl rfl rfl (by kernel_rfl) (PureG.skip (Want.of rfl rfl rfl rfl rfl (by rw [hd1247]; rfl))) ?_
          refine Dr.pure 10 33 _ _ rfl rfl rfl rfl rfl rfl (by kernel_rfl) (PureG.of (Want.none rfl) (pe_pick rfl rfl (by rw [hd1247]; rfl))) ?_
          refine Dr.pure 11 34 _ _ rfl rfl rfl rfl rfl rfl (by kernel_rfl) (PureG.of (Want.none rfl) (pe_move rfl rfl)) ?_
          refine Dr.pure 12 35 _ _ rfl rfl rfl rfl rfl rfl (by kernel_rfl) (PureG.skip (Want.of rfl rfl rfl rfl rfl rfl)) ?_
          refine Dr.pure 13 36 _ _ rfl rfl rfl rfl rfl rfl (by kernel_rfl) (PureG.skip (Want.of rfl rfl rfl rfl rfl rfl)) ?_
          refine Dr.pure 14 37 _ _ rfl rfl rfl rfl rfl rfl (by kernel_rfl) (PureG.skip (Want.of rfl rfl rfl rfl rfl rfl)) ?_
          refine Dr.pure 15 38 _ _ rfl rfl rfl rfl rfl rfl (by kernel_rfl) (PureG.skip (Want.of rfl rfl rfl rfl rfl rfl)) ?_
          refine Dr.pure 16 39 _ _ rfl rfl rfl rfl rfl rfl (by kernel_rfl) (PureG.skip (Want.of rfl rfl rfl rfl rfl rfl)) ?_
          refine Dr.pure 17 40 _ _ rfl rfl rfl rfl rfl rfl (by kernel_rfl) (PureG.of (Want.none rfl) (pe_pick rfl rfl rfl)) ?_
          refine Dr.pure 18 41 _ _ rfl rfl rfl rfl rfl rfl (by kernel_rfl) (PureG.of (Want.none rfl) (pe_move rfl rfl)) ?_
          refine Dr.pure 19 42 _ _ rfl rfl rfl rfl rfl rfl (by kernel_rfl) (PureG.skip (Want.of rfl rfl rfl rfl rfl rfl)) ?_
          refine Dr.pure 20 43 _ _ rfl rfl rfl rfl rfl rfl (by kernel_rfl) (PureG.skip (Want.of rfl rfl rfl rfl rfl rfl)) ?_
          refine Dr.pure 21 44 _ _ rfl rfl rfl rfl rfl rfl (by kernel_rfl) (PureG.skip (Want.of rfl rfl rfl rfl rfl rfl)) ?_
          refine Dr.pure 22 45 _ _ rfl rfl rfl rfl rfl rfl (by kernel_rfl) (PureG.skip (Want.of rfl rfl rfl rfl rfl rfl)) ?_
          refine Dr.pure 23 46 _ _ rfl rfl rfl rfl rfl rfl (by kernel_rfl) (PureG.skip (Want.of rfl rfl rfl rfl rfl rfl)) ?_
          refine Dr.pure 24 47 _ _ rfl rfl rfl rfl rfl rfl (by kernel_rfl) (PureG.skip (Want.of rfl rfl rfl rfl rfl rfl)) ?_
          refine Dr.pure 25 48 _ _ rfl rfl rfl rfl rfl rfl (by kernel_rfl) (PureG.skip (Want.of rfl rfl rfl rfl rfl rfl)) ?_
          refine Dr.pure 26 49 _ _ rfl rfl rfl rfl rfl rfl (by kernel_rfl) (PureG.skip (Want.of rfl rfl rfl rfl rfl rfl)) ?_
          refine Dr.pure 27 50 _ _ rfl rfl rfl rfl rfl rfl (by kernel_rfl) (PureG.of (Want.none rfl) (pe_pick rfl rfl rfl)) ?_
          refine Dr.done (by kernel_rfl) ?_
          refine To.keep (Keep.cons 50 rfl (Keep.cons 9 rfl (Keep.cons 10 rfl (Keep.cons 7 rfl (Keep.cons 16 rfl (Keep.cons 17 rfl (Keep.cons 18 rfl Keep.nil))))))) ?_
          exact fun a w ha hw => ⟨x1173, true, hm, ha.keep (Keep.cons 7 rfl (Keep.cons 9 rfl (Keep.cons 10 rfl (Keep.cons 16 rfl (Keep.cons 17 rfl (Keep.cons 18 rfl (Keep.cons 50 rfl Keep.nil))))))), (Sel.imp (.cons (.s (.s (.s .z))) (.cons (.s .z) (.dup (.s .z) inferInstance (.cons .z (.drop .all)))))) w hw⟩
        · replace hm := ifF hc hm; have hd1248 := hc
          refine To.bool (decide (e1219.Mark < e1219.Call)) (fun hc => ?_) (fun hc => ?_)
          · replace hm := ifT hc hm; have hd1249 := hc
            refine To.draws [0, 1, 0, 7, 15, 31, 63, 31, 159, 511, 1023, 2047, 4095, 8191, 4095, 20479, 65535, 131071, 262143, 524287, 524287, 1572863, 4194303, 524287, 8912895, 33554431, 67108863, 134217727] mixed (by kernel_rfl) (by kernel_rfl) ?_
            refine Dr.pure 0 23 _ _ rfl rfl rfl rfl rfl rfl (by kernel_rfl) (PureG.of (Want.none rfl) (pe_fld rfl rfl fld32_5 ty3 rfl rfl)) ?_
            refine Dr.pure 1 24 _ _ rfl rfl rfl rfl rfl rfl (by kernel_rfl) (PureG.of (Want.none rfl) (pe_load rfl rfl (.s .z) .pt rfl (.d (.d (.d (.d (.d (.d (.d (.d (.d (.d (.d (.d (.d (.d (.d (.d (.d (.t .z)))))))))))))))))) ty3 rfl (fun _ => rfl) rfl)) ?_
            refine Dr.pure 2 25 _ _ rfl rfl rfl rfl rfl rfl (by kernel_rfl) (PureG.of (Want.none rfl) (pe_move rfl rfl)) ?_
            refine Dr.pure 3 26 _ _ rfl rfl rfl rfl rfl rfl (by kernel_rfl) (PureG.of (Want.none rfl) (pe_int rfl rfl rfl bi_leq)) ?_
            refine Dr.pure 4 27 _ _ rfl rfl rfl rfl rfl rfl (by kernel_rfl) (PureG.of (Want.none rfl) (pe_move rfl rfl)) ?_
            refine Dr.pure 5 28 _ _ rfl rfl rfl rfl rfl rfl (by kernel_rfl) (PureG.of (Want.of rfl rfl rfl rfl rfl (by rw [hd1248]; rfl)) (pe_fld rfl rfl fld32_5 ty3 rfl rfl)) ?_
            refine Dr.pure 6 29 _ _ rfl rfl rfl rfl rfl rfl (by kernel_rfl) (PureG.of (Want.of rfl rfl rfl rfl rfl (by rw [hd1248]; rfl)) (pe_load rfl rfl (.s .z) .pt rfl (.d (.d (.d (.d (.d (.d (.d (.d (.d (.d (.d (.d (.d (.d (.d (.d (.d (.t .z)))))))))))))))))) ty3 rfl (fun _ => rfl) rfl)) ?_
            refine Dr.pure 7 30 _ _ rfl rfl rfl rfl rfl rfl (by kernel_rfl) (PureG.of (Want.of rfl rfl rfl rfl rfl (by rw [hd1248]; rfl)) (pe_fld rfl rfl fld32_4 ty3 rfl rfl)) ?_
            refine Dr.pure 8 31 _ _ rfl rfl rfl rfl rfl rfl (by kernel_rfl) (PureG.of (Want.of rfl rfl rfl rfl rfl (by rw [hd1248]; rfl)) (pe_load rfl rfl (.s .z) .pt rfl (.d (.d (.d (.d (.d (.d (.d (.d (.d (.d (.d (.d (.d (.d (.d (.d (.t .z))))))))))))))))) ty3 rfl (fun _ => rfl) rfl)) ?_
            refine Dr.pure 9 32 _ _ rfl rfl rfl rfl rfl rfl (by kernel_rfl) (PureG.of (Want.of rfl rfl rfl rfl rfl (by rw [hd1248]; rfl)) (pe_int rfl rfl rfl bi_lss)) ?_
            refine Dr.pure 10 33 _ _ rfl rfl rfl rfl rfl rfl (by kernel_rfl) (PureG.of (Want.none rfl) (pe_pick rfl rfl (by rw [hd1248]; rfl))) ?_
            refine Dr.pure 11 34 _ _ rfl rfl rfl rfl rfl rfl (by kernel_rfl) (PureG.of (Want.none rfl) (pe_move rfl rfl)) ?_
            refine Dr.pure 12 35 _ _ rfl rfl rfl rfl rfl rfl (by kernel_rfl) (PureG.skip (Want.of rfl rfl rfl rfl rfl (by rw [hd1249]; rfl))) ?_
            refine Dr.pure 13 36 _ _ rfl rfl rfl rfl rfl rfl (by kernel_rfl) (PureG.skip (Want.of rfl rfl rfl rfl rfl (by rw [hd1249]; rfl))) ?_
            refine Dr.pure 14 37 _ _ rfl rfl rfl rfl rfl rfl (by kernel_rfl) (PureG.skip (Want.of rfl rfl rfl rfl rfl (by rw [hd1249]; rfl))) ?_
            refine Dr.pure 15 38 _ _ rfl rfl rfl rfl rfl rfl (by kernel_rfl) (PureG.skip (Want.of rfl rfl rfl rfl rfl (by rw [hd1249]; rfl))) ?_
            refine Dr.pure 16 39 _ _ rfl rfl rfl rfl rfl rfl (by kernel_rfl) (PureG.skip (Want.of rfl rfl rfl rfl rfl (by rw [hd1249]; rfl))) ?_
            refine Dr.pure 17 40 _ _ rfl rfl rfl rfl rfl rfl (by kernel_rfl) (PureG.of (Want.none rfl) (pe_pick rfl rfl (by rw [hd1249]; rfl))) ?_
            refine Dr.pure 18 41 _ _ rfl rfl rfl rfl rfl rfl (by kernel_rfl) (PureG.of (Want.none rfl) (pe_move rfl rfl)) ?_
            refine Dr.pure 19 42 _ _ rfl rfl rfl rfl rfl rfl (by kernel_rfl) (PureG.skip (Want.of rfl rfl rfl rfl rfl rfl)) ?_
            refine Dr.pure 20 43 _ _ rfl rfl rfl rfl rfl rfl (by kernel_rfl) (PureG.skip (Want.of rfl rfl rfl rfl rfl rfl)) ?_
            refine Dr.pure 21 44 _ _ rfl rfl rfl rfl rfl rfl (by kernel_rfl) (PureG.skip (Want.of rfl rfl rfl rfl rfl rfl)) ?_
            refine Dr.pure 22 45 _ _ rfl rfl rfl rfl rfl rfl (by kernel_rfl) (PureG.skip (Want.of rfl rfl rfl rfl rfl rfl)) ?_
            refine Dr.pure 23 46 _ _ rfl rfl rfl rfl rfl rfl (by kernel_rfl) (PureG.skip (Want.of rfl rfl rfl rfl rfl rfl)) ?_
            refine Dr.pure 24 47 _ _ rfl rfl rfl rfl rfl rfl (by kernel_rfl) (PureG.skip (Want.of rfl rfl rfl rfl rfl rfl)) ?_
            refine Dr.pure 25 48 _ _ rfl rfl rfl rfl rfl rfl (by kernel_rfl) (PureG.skip (Want.of rfl rfl rfl rfl rfl rfl)) ?_
            refine Dr.pure 26 49 _ _ rfl rfl rfl rfl rfl rfl (by kernel_rfl) (PureG.skip (Want.of rfl rfl rfl rfl rfl rfl)) ?_
            refine Dr.pure 27 50 _ _ rfl rfl rfl rfl rfl rfl (by kernel_rfl) (PureG.of (Want.none rfl) (pe_pick rfl rfl rfl)) ?_
            refine Dr.done (by kernel_rfl) ?_
            refine To.keep (Keep.cons 50 rfl (Keep.cons 9 rfl (Keep.cons 10 rfl (Keep.cons 7 rfl (Keep.cons 16 rfl (Keep.cons 17 rfl (Keep.cons 18 rfl Keep.nil))))))) ?_
            exact fun a w ha hw => ⟨x1173, true, hm, ha.keep (Keep.cons 7 rfl (Keep.cons 9 rfl (Keep.cons 10 rfl (Keep.cons 16 rfl (Keep.cons 17 rfl (Keep.cons 18 rfl (Keep.cons 50 rfl Keep.nil))))))), (Sel.imp (.cons (.s (.s (.s .z))) (.cons (.s .z) (.dup (.s .z) inferInstance (.cons .z (.drop .all)))))) w hw⟩
          · replace hm := ifF hc hm; have hd1250 := hc
            refine To.bool (decide (e1219.Mark > e1219.Return)) (fun hc => ?_) (fun hc => ?_)
            · replace hm := ifT hc hm; have hd1251 := hc
              refine To.draws [0, 1, 0, 7, 15, 31, 63, 31, 159, 511, 1023, 2047, 4095, 8191, 4095, 20479, 65535, 131071, 262143, 524287, 524287, 1572863, 4194303, 524287, 8912895, 33554431, 67108863, 134217727] mixed (by kernel_rfl) (by kernel_rfl) ?_
              refine Dr.pure 0 23 _ _ rfl rfl rfl rfl rfl rfl (by kernel_rfl) (PureG.of (Want.none rfl) (pe_fld rfl rfl fld32_5 ty3 rfl rfl)) ?_
              refine Dr.pure 1 24 _ _ rfl rfl rfl rfl rfl rfl (by kernel_rfl) (PureG.of (Want.none rfl) (pe_load rfl rfl (.s .z) .pt rfl (.d (.d (.d (.d (.d (.d (.d (.d (.d (.d (.d (.d (.d (.d (.d (.d (.d (.t .z)))))))))))))))))) ty3 rfl (fun _ => rfl) rfl)) ?_
              refine Dr.pure 2 25 _ _ rfl rfl rfl rfl rfl rfl (by kernel_rfl) (PureG.of (Want.none rfl) (pe_move rfl rfl)) ?_
              refine Dr.pure 3 26 _ _ rfl rfl rfl rfl rfl rfl (by kernel_rfl) (PureG.of (Want.none rfl) (pe_int rfl rfl rfl bi_leq)) ?_
              refine Dr.pure 4 27 _ _ rfl rfl rfl rfl rfl rfl (by kernel_rfl) (PureG.of (Want.none rfl) (pe_move rfl rfl)) ?_
              refine Dr.pure 5 28 _ _ rfl rfl rfl rfl rfl rfl (by kernel_rfl) (PureG.of (Want.of rfl rfl rfl rfl rfl (by rw [hd1248]; rfl)) (pe_fld rfl rfl fld32_5 ty3 rfl rfl)) ?_
              refine Dr.pure 6 29 _ _ rfl rfl rfl rfl rfl rfl (by kernel_rfl) (PureG.of (Want.of rfl rfl rfl rfl rfl (by rw [hd1248]; rfl)) (pe_load rfl rfl (.s .z) .pt rfl (.d (.d (.d (.d (.d (.d (.d (.d (.d (.d (.d (.d (.d (.d (.d (.d (.d (.t .z)))))))))))))))))) ty3 rfl (fun _ => rfl) rfl)) ?_
              refine Dr.pure 7 30 _ _ rfl rfl rfl rfl rfl rfl (by kernel_rfl) (PureG.of (Want.of rfl rfl rfl rfl rfl (by rw [hd1248]; rfl)) (pe_fld rfl rfl fld32_4 ty3 rfl rfl)) ?_
              refine Dr.pure 8 31 _ _ rfl rfl rfl rfl rfl rfl (by kernel_rfl) (PureG.of (Want.of rfl rfl rfl rfl rfl (by rw [hd1248]; rfl)) (pe_load rfl rfl (.s .z) .pt rfl (.d (.d (.d (.d (.d (.d (.d (.d (.d (.d (.d (.d (.d (.d (.d (.d (.t .z))))))))))))))))) ty3 rfl (fun _ => rfl) rfl)) ?_
              refine Dr.pure 9 32 _ _ rfl rfl rfl rfl rfl rfl (by kernel_rfl) (PureG.of (Want.of rfl rfl rfl rfl rfl (by rw [hd1248]; rfl)) (pe_int rfl rfl rfl bi_lss)) ?_
              refine Dr.pure 10 33 _ _ rfl rfl rfl rfl rfl rfl (by kernel_rfl) (PureG.of (Want.none rfl) (pe_pick rfl rfl (by rw [hd1248]; rfl))) ?_
              refine Dr.pure 11 34 _ _ rfl rfl rfl rfl rfl rfl (by kernel_rfl) (PureG.of (Want.none rfl) (pe_move rfl rfl)) ?_
              refine Dr.pure 12 35 _ _ rfl rfl rfl rfl rfl rfl (by kernel_rfl) (PureG.of (Want.of rfl rfl rfl rfl rfl (by rw [hd1250]; rfl)) (pe_fld rfl rfl fld32_5 ty3 rfl rfl)) ?_
              refine Dr.pure 13 36 _ _ rfl rfl rfl rfl rfl rfl (by kernel_rfl) (PureG.of (Want.of rfl rfl rfl rfl rfl (by rw [hd1250]; rfl)) (pe_load rfl rfl (.s .z) .pt rfl (.d (.d (.d (.d (.d (.d (.d (.d (.d (.d (.d (.d (.d (.d (.d (.d (.d (.t .z)))))))))))))))))) ty3 rfl (fun _ => rfl) rfl)) ?_
              refine Dr.pure 14 37 _ _ rfl rfl rfl rfl rfl rfl (by kernel_rfl) (PureG.of (Want.of rfl rfl rfl rfl rfl (by rw [hd1250]; rfl)) (pe_fld rfl rfl fld32_6 ty3 rfl rfl)) ?_
              refine Dr.pure 15 38 _ _ rfl rfl rfl rfl rfl rfl (by kernel_rfl) (PureG.of (Want.of rfl rfl rfl rfl rfl (by rw [hd1250]; rfl)) (pe_load rfl rfl (.s .z) .pt rfl (.d (.d (.d (.d (.d (.d (.d (.d (.d (.d (.d (.d (.d (.d (.d (.d (.d (.d (.t .z))))))))))))))))))) ty3 rfl (fun _ => rfl) rfl)) ?_
              refine Dr.pure 16 39 _ _ rfl rfl rfl rfl rfl rfl (by kernel_rfl) (PureG.of (Want.of rfl rfl rfl rfl rfl (by rw [hd1250]; rfl)) (pe_int rfl rfl rfl bi_gtr)) ?_
              refine Dr.pure 17 40 _ _ rfl rfl rfl rfl rfl rfl (by kernel_rfl) (PureG.of (Want.none rfl) (pe_pick rfl rfl (by rw [hd1250]; rfl))) ?_
              refine Dr.pure 18 41 _ _ rfl rfl rfl rfl rfl rfl (by kernel_rfl) (PureG.of (Want.none rfl) (pe_move rfl rfl)) ?_
              refine Dr.pure 19 42 _ _ rfl rfl rfl rfl rfl rfl (by kernel_rfl) (PureG.skip (Want.of rfl rfl rfl rfl rfl (by rw [hd1251]; rfl))) ?_
              refine Dr.pure 20 43 _ _ rfl rfl rfl rfl rfl rfl (by kernel_rfl) (PureG.skip (Want.of rfl rfl rfl rfl rfl (by rw [hd1251]; rfl))) ?_
              refine Dr.pure 21 44 _ _ rfl rfl rfl rfl rfl rfl (by kernel_rfl) (PureG.skip (Want.of rfl rfl rfl rfl rfl (by rw [hd1251]; rfl))) ?_
              refine Dr.pure 22 45 _ _ rfl rfl rfl rfl rfl rfl (by kernel_rfl) (PureG.skip (Want.of rfl rfl rfl rfl rfl (by rw [hd1251]; rfl))) ?_
              refine Dr.pure 23 46 _ _ rfl rfl rfl rfl rfl rfl (by kernel_rfl) (PureG.skip (Want.of rfl rfl rfl rfl rfl (by rw [hd1251]; rfl))) ?_
              refine Dr.pure 24 47 _ _ rfl rfl rfl rfl rfl rfl (by kernel_rfl) (PureG.skip (Want.of rfl rfl rfl rfl rfl (by rw [hd1251]; rfl))) ?_
              refine Dr.pure 25 48 _ _ rfl rfl rfl rfl rfl rfl (by kernel_rfl) (PureG.skip (Want.of rfl rfl rfl rfl rfl (by rw [hd1251]; rfl))) ?_
              refine Dr.pure 26 49 _ _ rfl rfl rfl rfl rfl rfl (by kernel_rfl) (PureG.skip (Want.of rfl rfl rfl rfl rfl (by rw [hd1251]; rfl))) ?_
              refine Dr.pure 27 50 _ _ rfl rfl rfl rfl rfl rfl (by kernel_rfl) (PureG.of (Want.none rfl) (pe_pick rfl rfl (by rw [hd1251]; rfl))) ?_
              refine Dr.done (by kernel_rfl) ?_
              refine To.keep (Keep.cons 50 rfl (Keep.cons 9 rfl (Keep.cons 10 rfl (Keep.cons 7 rfl (Keep.cons 16 rfl (Keep.cons 17 rfl (Keep.cons 18 rfl Keep.nil))))))) ?_
              exact fun a w ha hw => ⟨x1173, true, hm, ha.keep (Keep.cons 7 rfl (Keep.cons 9 rfl (Keep.cons 10 rfl (Keep.cons 16 rfl (Keep.cons 17 rfl (Keep.cons 18 rfl (Keep.cons 50 rfl Keep.nil))))))), (Sel.imp (.cons (.s (.s (.s .z))) (.cons (.s .z) (.dup (.s .z) inferInstance (.cons .z (.drop .all)))))) w hw⟩
            · replace hm := ifF hc hm; have hd1252 := hc
              refine To.draws [0, 1, 0, 7, 15, 31, 63, 31, 159, 511, 1023, 2047, 4095, 8191, 4095, 20479, 65535, 131071, 262143, 524287, 524287, 1572863, 4194303, 524287, 8912895, 33554431, 67108863, 134217727] mixed (by kernel_rfl) (by kernel_rfl) ?_
              refine Dr.pure 0 23 _ _ rfl rfl rfl rfl rfl rfl (by kernel_rfl) (PureG.of (Want.none rfl) (pe_fld rfl rfl fld32_5 ty3 rfl rfl)) ?_
              refine Dr.pure 1 24 _ _ rfl rfl rfl rfl rfl rfl (by kernel_rfl) (PureG.of (Want.none rfl) (pe_load rfl rfl (.s .z) .pt rfl (.d (.d (.d (.d (.d (.d (.d (.d (.d (.d (.d (.d (.d (.d (.d (.d (.d (.t .z)))))))))))))))))) ty3 rfl (fun _ => rfl) rfl)) ?_
              refine Dr.pure 2 25 _ _ rfl rfl rfl rfl rfl rfl (by kernel_rfl) (PureG.of (Want.none rfl) (pe_move rfl rfl)) ?_
              refine Dr.pure 3 26 _ _ rfl rfl rfl rfl rfl rfl (by kernel_rfl) (PureG.of (Want.none rfl) (pe_int rfl rfl rfl bi_leq)) ?_
              refine Dr.pure 4 27 _ _ rfl rfl rfl rfl rfl rfl (by kernel_rfl) (PureG.of (Want.none rfl) (pe_move rfl rfl)) ?_
              refine Dr.pure 5 28 _ _ rfl rfl rfl rfl rfl rfl (by kernel_rfl) (PureG.of (Want.of rfl rfl rfl rfl rfl (by rw [hd1248]; rfl)) (pe_fld rfl rfl fld32_5 ty3 rfl rfl)) ?_
              refine Dr.pure 6 29 _ _ rfl rfl rfl rfl rfl rfl (by kernel_rfl) (PureG.of (Want.of rfl rfl rfl rfl rfl (by rw [hd1248]; rfl)) (pe_load rfl rfl (.s .z) .pt rfl (.d (.d (.d (.d (.d (.d (.d (.d (.d (.d (.d (.d (.d (.d (.d (.d (.d (.t .z)))))))))))))))))) ty3 rfl (fun _ => rfl) rfl)) ?_
              refine Dr.pure 7 30 _ _ rfl rfl rfl rfl rfl rfl (by kernel_rfl) (PureG.of (Want.of rfl rfl rfl rfl rfl (by rw [hd1248]; rfl)) (pe_fld rfl rfl fld32_4 ty3 rfl rfl)) ?_
              refine Dr.pure 8 31 _ _ rfl rfl rfl rfl rfl rfl (by kernel_rfl) (PureG.of (Want.of rfl rfl rfl rfl rfl (by rw [hd1248]; rfl)) (pe_load rfl rfl (.s .z) .pt rfl (.d (.d (.d (.d (.d (.d (.d (.d (.d (.d (.d (.d (.d (.d (.d (.d (.t .z))))))))))))))))) ty3 rfl (fun _ => rfl) rfl)) ?_
              refine Dr.pure 9 32 _ _ rfl rfl rfl rfl rfl rfl (by kernel_rfl) (PureG.of (Want.of rfl rfl rfl rfl rfl (by rw [hd1248]; rfl)) (pe_int rfl rfl rfl bi_lss)) ?_
              refine Dr.pure 10 33 _ _ rfl rfl rfl rfl rfl rfl (by kernel_rfl) (PureG.of (Want.none rfl) (pe_pick rfl rfl (by rw [hd1248]; rfl))) ?_
              refine Dr.pure 11 34 _ _ rfl rfl rfl rfl rfl rfl (by kernel_rfl) (PureG.of (Want.none rfl) (pe_move rfl rfl)) ?_
              refine Dr.pure 12 35 _ _ rfl rfl rfl rfl rfl rfl (by kernel_rfl) (PureG.of (Want.of rfl rfl rfl rfl rfl (by rw [hd1250]; rfl)) (pe_fld rfl rfl fld32_5 ty3 rfl rfl)) ?_
              refine Dr.pure 13 36 _ _ rfl rfl rfl rfl rfl rfl (by kernel_rfl) (PureG.of (Want.of rfl rfl rfl rfl rfl (by rw [hd1250]; rfl)) (pe_load rfl rfl (.s .z) .pt rfl (.d (.d (.d (.d (.d (.d (.d (.d (.d (.d (.d (.d (.d (.d (.d (.d (.d (.t .z)))))))))))))))))) ty3 rfl (fun _ => rfl) rfl)) ?_
              refine Dr.pure 14 37 _ _ rfl rfl rfl rfl rfl rfl (by kernel_rfl) (PureG.of (Want.of rfl rfl rfl rfl rfl (by rw [hd1250]; rfl)) (pe_fld rfl rfl fld32_6 ty3 rfl rfl)) ?_
              refine Dr.pure 15 38 _ _ rfl rfl rfl rfl rfl rfl (by kernel_rfl) (PureG.of (Want.of rfl rfl rfl rfl rfl (by rw [hd1250]; rfl)) (pe_load rfl rfl (.s .z) .pt rfl (.d (.d (.d (.d (.d (.d (.d (.d (.d (.d (.d (.d (.d (.d (.d (.d (.d (.d (.t .z))))))))))))))))))) ty3 rfl (fun _ => rfl) rfl)) ?_
              refine Dr.pure 16 39 _ _ rfl rfl rfl rfl rfl rfl (by kernel_rfl) (PureG.of (Want.of rfl rfl rfl rfl rfl (by rw [hd1250]; rfl)) (pe_int rfl rfl rfl bi_gtr)) ?_
              refine Dr.pure 17 40 _ _ rfl rfl rfl rfl rfl rfl (by kernel_rfl) (PureG.of (Want.none rfl) (pe_pick rfl rfl (by rw [hd1250]; rfl))) ?_
              refine Dr.pure 18 41 _ _ rfl rfl rfl rfl rfl rfl (by kernel_rfl) (PureG.of (Want.none rfl) (pe_move rfl rfl)) ?_
              refine Dr.pure 19 42 _ _ rfl rfl rfl rfl rfl rfl (by kernel_rfl) (PureG.of (Want.of rfl rfl rfl rfl rfl (by rw [hd1252]; rfl)) (pe_move rfl rfl)) ?_
              refine Dr.pure 20 43 _ _ rfl rfl rfl rfl rfl rfl (by kernel_rfl) (PureG.of (Want.of rfl rfl rfl rfl rfl (by rw [hd1252]; rfl)) (pe_fld rfl rfl fld32_2 ty30 rfl rfl)) ?_
              refine Dr.pure 21 44 _ _ rfl rfl rfl rfl rfl rfl (by kernel_rfl) (PureG.of (Want.of rfl rfl rfl rfl rfl (by rw [hd1252]; rfl)) (pe_load rfl rfl (.s .z) .pt rfl (.d (.d (.t (.t (.t (.t (.t (.t .z)))))))) ty30 rfl nofun rfl)) ?_
              refine Dr.pure 23 46 _ _ rfl rfl rfl rfl rfl rfl (by kernel_rfl) (PureG.of (Want.of rfl rfl rfl rfl rfl (by rw [hd1252]; rfl)) (pe_fld rfl rfl fld32_3 ty26 rfl rfl)) ?_
              refine Dr.pure 24 47 _ _ rfl rfl rfl rfl rfl rfl (by kernel_rfl) (PureG.of (Want.of rfl rfl rfl rfl rfl (by rw [hd1252]; rfl)) (pe_load rfl rfl (.s .z) .pt rfl (.d (.d (.d (.d (.d (.d (.d (.d (.t (.t (.t (.t (.t (.t (.t (.t .z)))))))))))))))) ty26 rfl nofun rfl)) ?_
              obtain ⟨y1253, h_y1253, hm⟩ := bindE hm
              refine Dr.step1 22 _ _ (by kernel_rfl) rfl rfl (by kernel_rfl) (Want.of rfl rfl rfl rfl rfl (by rw [hd1252]; rfl)) (st_invoke (spec_State_Do.tri k1217 h_y1253 b1131) rfl rfl fun44 (.cons (.s (.s (.s .z))) .all) rfl meth49_Do) ?_ ?_
              · rintro _ _ ⟨_, ⟨a1254, c1255, rfl, rfl⟩, rfl⟩
                exact (Again.new rfl (PureG.of (Want.of rfl rfl rfl rfl rfl (by rw [hd1252]; rfl)) (pe_load rfl rfl (.s (.s (.s .z))) .pt rfl (.d (.d (.d (.d (.d (.d (.d (.d (.t (.t (.t (.t (.t (.t (.t (.t .z)))))))))))))))) ty26 rfl nofun rfl)) (Again.new rfl (PureG.of (Want.of rfl rfl rfl rfl rfl (by rw [hd1252]; rfl)) (pe_fld rfl rfl fld32_3 ty26 rfl rfl)) (Again.anc (by kernel_rfl) (Again.anc (by kernel_rfl) (Again.anc (by kernel_rfl) (Again.anc (by kernel_rfl) (Again.anc (by kernel_rfl) (Again.anc (by kernel_rfl) (Again.anc (by kernel_rfl) (Again.anc (by kernel_rfl) (Again.anc (by kernel_rfl) (Again.anc (by kernel_rfl) (Again.anc (by kernel_rfl) (Again.anc (by kernel_rfl) (Again.anc (by kernel_rfl) (Again.anc (by kernel_rfl) (Again.anc (by kernel_rfl) (Again.anc (by kernel_rfl) (Again.anc (by kernel_rfl) (Again.anc (by kernel_rfl) (Again.anc (by kernel_rfl) (Again.anc (by kernel_rfl) (Again.anc (by kernel_rfl) (Again.anc (by kernel_rfl) Again.nil))))))))))))))))))))))))
              rintro _ _ ⟨_, ⟨a1254, c1255, rfl, rfl⟩, rfl⟩
              refine Dr.app2 ?_
              refine Dr.pull .z (Dr.imp Imp.freeze ?_)
              obtain ⟨y1256, h_y1256, hm⟩ := bindE hm
              refine Dr.step1 25 _ _ (by kernel_rfl) rfl rfl (by kernel_rfl) (Want.of rfl rfl rfl rfl rfl (by rw [hd1252]; rfl)) (st_call (tale_Same.tri k1217 h_y1256 a1254 c1255 a1222 c1223) rfl rfl fun9 (.dup .z inferInstance (.dup (.s (.s (.s (.s .z)))) inferInstance .all))) ?_ ?_
              · rintro _ _ ⟨_, ⟨rfl, rfl⟩, rfl⟩
                exact (Again.anc (by kernel_rfl) (Again.anc (by kernel_rfl) (Again.anc (by kernel_rfl) (Again.anc (by kernel_rfl) (Again.anc (by kernel_rfl) (Again.anc (by kernel_rfl) (Again.anc (by kernel_rfl) (Again.anc (by kernel_rfl) (Again.anc (by kernel_rfl) (Again.anc (by kernel_rfl) (Again.anc (by kernel_rfl) (Again.anc (by kernel_rfl) (Again.anc (by kernel_rfl) (Again.anc (by kernel_rfl) (Again.anc (by kernel_rfl) (Again.anc (by kernel_rfl) (Again.anc (by kernel_rfl) (Again.anc (by kernel_rfl) (Again.anc (by kernel_rfl) (Again.anc (by kernel_rfl) (Again.anc (by kernel_rfl) (Again.anc (by kernel_rfl) (Again.anc (by kernel_rfl) (Again.anc (by kernel_rfl) Again.nil))))))))))))))))))))))))
              rintro _ _ ⟨_, ⟨rfl, rfl⟩, rfl⟩
              refine Dr.app0 ?_
              refine Dr.pure 26 49 _ _ rfl rfl rfl rfl rfl rfl (by kernel_rfl) (PureG.of (Want.of rfl rfl rfl rfl rfl (by rw [hd1252]; rfl)) (pe_not rfl rfl)) ?_
              refine Dr.pure 27 50 _ _ rfl rfl rfl rfl rfl rfl (by kernel_rfl) (PureG.of (Want.none rfl) (pe_pick rfl rfl (by rw [hd1252]; rfl))) ?_
              refine Dr.done (by kernel_rfl) ?_
              refine To.keep (Keep.cons 50 rfl (Keep.cons 9 rfl (Keep.cons 10 rfl (Keep.cons 7 rfl (Keep.cons 16 rfl (Keep.cons 17 rfl (Keep.cons 18 rfl Keep.nil))))))) ?_
              refine To.sel (.drop .all) ?_
              exact fun a w ha hw => ⟨y1253.2, !y1256, hm, ha.keep (Keep.cons 7 rfl (Keep.cons 9 rfl (Keep.cons 10 rfl (Keep.cons 16 rfl (Keep.cons 17 rfl (Keep.cons 18 rfl (Keep.cons 50 rfl Keep.nil))))))), (Sel.imp (.cons .z (.cons (.s .z) (.dup (.s .z) inferInstance (.cons .z (.drop .all)))))) w hw⟩
    · replace hm := ifF hc hm
      refine To.exit ?_
      refine To.tx ?_
      refine To.tx ?_
      refine To.bx ?_
      refine To.nx ?_
      refine To.seq ?_
      refine To.region (l := [0]) rfl ?_
      refine To.pure rfl (Want.none rfl) rfl rfl (pe_assign rfl rfl) ?_
      refine To.done ?_
      refine To.keep (Keep.cons 6 rfl Keep.nil) ?_
      refine To.sel (.drop (.drop .all)) ?_
      refine To.nx ?_
      refine To.ret ?_
      cases hm
      exact To.back rfl (.tmp rfl .nil) rfl ⟨rfl, rfl⟩ .all
  · skip
    exact fun a w ha hw => ⟨y1130, 0, 0, hm, ha.keep (Keep.cons 7 rfl (Keep.cons 8 rfl (Keep.cons 16 rfl (Keep.cons 17 rfl (Keep.cons 18 rfl Keep.nil))))), (Sel.imp (.cons (.s .z) (.cons .z .all))) w hw⟩
end Go.Proofs.M

set_option linter.unusedVariables false
set_option maxRecDepth 10000
namespace Go.Proofs.M
open Go Go.WG
/-- socage/socagelaw24.speaks -/
def law24_speaks.j1 (x1078 : Bool) : Option Bool := (some x1078)
def law24_speaks.f (k : Nat) : Option Bool := ((tale_Order.f k [(⟨0, 0, (⟨9, [], 0, 0, 0, []⟩ : T_api_Op), (⟨2, 0, 0, 0, 0, [], [], false⟩ : T_api_Result), 2, 4, 5⟩ : T_sched_Record), (⟨0, 0, (⟨7, [], 0, 0, 0, []⟩ : T_api_Op), (⟨9, 0, 0, 0, 0, [], [], false⟩ : T_api_Result), 1, 1, 1⟩ : T_sched_Record)]).bind fun y1051 => (if ((y1051.length : Int) == 2) = true then ((ix y1051 0).bind fun e1079 => (if (e1079.Mark == 1) = true then ((tale_Wrong.f k (⟨[], 0⟩ : T_stack_Stack) 1 [(⟨0, 0, (⟨7, [], 0, 0, 0, []⟩ : T_api_Op), (⟨9, 0, 0, 0, 0, [], [], false⟩ : T_api_Result), 1, 1, 1⟩ : T_sched_Record), (⟨0, 0, (⟨9, [], 0, 0, 0, []⟩ : T_api_Op), (⟨2, 0, 0, 0, 0, [], [], false⟩ : T_api_Result), 2, 4, 5⟩ : T_sched_Record)]).bind fun y1085 => (if (y1085 == (-1)) = true then ((tale_Wrong.f k (⟨[], 0⟩ : T_stack_Stack) 1 [(⟨0, 0, (⟨7, [], 0, 0, 0, []⟩ : T_api_Op), (⟨9, 0, 0, 0, 0, [], [], false⟩ : T_api_Result), 1, 1, 1⟩ : T_sched_Record), (⟨0, 0, (⟨9, [], 0, 0, 0, []⟩ : T_api_Op), (⟨0, 0, 0, 0, 0, [], [], false⟩ : T_api_Result), 2, 4, 5⟩ : T_sched_Record)]).bind fun y1087 => (if (y1087 == 1) = true then ((tale_Before.f k (⟨0, 0, (⟨7, [], 0, 0, 0, []⟩ : T_api_Op), (⟨9, 0, 0, 0, 0, [], [], false⟩ : T_api_Result), 1, 1, 1⟩ : T_sched_Record) (⟨0, 0, (⟨9, [], 0, 0, 0, []⟩ : T_api_Op), (⟨2, 0, 0, 0, 0, [], [], false⟩ : T_api_Result), 2, 4, 5⟩ : T_sched_Record)).bind fun y1088 => (if y1088 = true then ((tale_Kept.f k [(⟨0, 0, (⟨9, [], 0, 0, 0, []⟩ : T_api_Op), (⟨2, 0, 0, 0, 0, [], [], false⟩ : T_api_Result), 2, 4, 5⟩ : T_sched_Record), (⟨0, 0, (⟨7, [], 0, 0, 0, []⟩ : T_api_Op), (⟨9, 0, 0, 0, 0, [], [], false⟩ : T_api_Result), 1, 1, 1⟩ : T_sched_Record)]).bind fun y1090 => (law24_speaks.j1 (!y1090))) else (law24_speaks.j1 false))) else (law24_speaks.j1 false))) else (law24_speaks.j1 false))) else (law24_speaks.j1 false))) else (law24_speaks.j1 false)))
theorem law24_speaks.tri (k : Nat) {r : Bool} (hm : law24_speaks.f k = some r) :
    Tri Tryz.prog 5 [] [] (fun v H' => v = .bool r ∧ H' = []) := by
  refine Tri.intro0 Tryz.func5 rfl rfl rfl (fun F => ?_)
  unfold law24_speaks.f at hm
  refine To.seq ?_
  refine To.region (l := [0]) rfl ?_
  refine To.pure rfl (Want.none rfl) rfl rfl (pe_assign rfl rfl) ?_
  refine To.done ?_
  refine To.keep Keep.nil ?_
  refine To.nx ?_
  refine To.seq ?_
  refine To.region (l := [0]) rfl ?_
  refine To.step rfl (Want.none rfl) rfl rfl (st_alloc rfl zero42) ?_
  rintro _ _ ⟨b1046, rfl, rfl⟩
  refine To.done ?_
  refine To.keep (Keep.cons 1 rfl Keep.nil) ?_
  refine To.nx ?_
  refine To.seq ?_
  refine To.region (l := [0, 1, 2, 3, 4]) rfl ?_
  refine To.pure rfl (Want.none rfl) rfl rfl (pe_build (vs := [(0, .int .i64 7)]) (.cons rfl rfl rfl (.t .z) rfl .nil) rfl zero30 stc30 rfl) ?_
  refine To.pure rfl (Want.none rfl) rfl rfl (pe_build (vs := [(0, .int .i64 9)]) (.cons rfl rfl rfl (.t .z) rfl .nil) rfl zero26 stc26 rfl) ?_
  refine To.pure rfl (Want.none rfl) rfl rfl (pe_build (vs := [(2, .agg ⟨[.int .i64 7, .string (S []), .int .i64 0, .int .i64 0, .int .i64 0, .string (S [])]⟩), (3, .agg ⟨[.int .i64 9, .int .i64 0, .int .i64 0, .int .i64 0, .int .i64 0, .string (S []), .slice none 0 0, .bool false]⟩), (4, .int .i64 1), (5, .int .i64 1), (6, .int .i64 1)]) (.cons rfl rfl rfl (.d (.d (.t (.t (.t (.t (.t (.t .z)))))))) rfl (.cons rfl rfl rfl (.d (.d (.d (.d (.d (.d (.d (.d (.t (.t (.t (.t (.t (.t (.t (.t .z)))))))))))))))) rfl (.cons rfl rfl rfl (.d (.d (.d (.d (.d (.d (.d (.d (.d (.d (.d (.d (.d (.d (.d (.d (.t .z))))))))))))))))) rfl (.cons rfl rfl rfl (.d (.d (.d (.d (.d (.d (.d (.d (.d (.d (.d (.d (.d (.d (.d (.d (.d (.t .z)))))))))))))))))) rfl (.cons rfl rfl rfl (.d (.d (.d (.d (.d (.d (.d (.d (.d (.d (.d (.d (.d (.d (.d (.d (.d (.d (.t .z))))))))))))))))))) rfl .nil))))) rfl zero32 stc32 rfl) ?_
  refine To.step rfl (Want.none rfl) rfl rfl (st_alloc rfl zero32) ?_
  rintro _ _ ⟨b1047, rfl, rfl⟩
  refine To.step0 rfl (Want.none rfl) rfl (st_store rfl rfl rfl rfl .z rfl (.t (.t (.t (.t (.t (.t (.t (.t (.t (.t (.t (.t (.t (.t (.t (.t (.t (.t (.t .z))))))))))))))))))) ty32 rfl rfl) ?_
  rintro _ _ rfl
  refine To.done ?_
  refine To.keep (Keep.cons 2 rfl (Keep.cons 1 rfl Keep.nil)) ?_
  refine To.nx ?_
  refine To.seq ?_
  refine To.region (l := [0, 1, 2, 3, 4]) rfl ?_
  refine To.pure rfl (Want.none rfl) rfl rfl (pe_build (vs := [(0, .int .i64 9)]) (.cons rfl rfl rfl (.t .z) rfl .nil) rfl zero30 stc30 rfl) ?_
  refine To.pure rfl (Want.none rfl) rfl rfl (pe_build (vs := [(0, .int .i64 2)]) (.cons rfl rfl rfl (.t .z) rfl .nil) rfl zero26 stc26 rfl) ?_
  refine To.pure rfl (Want.none rfl) rfl rfl (pe_build (vs := [(2, .agg ⟨[.int .i64 9, .string (S []), .int .i64 0, .int .i64 0, .int .i64 0, .string (S [])]⟩), (3, .agg ⟨[.int .i64 2, .int .i64 0, .int .i64 0, .int .i64 0, .int .i64 0, .string (S []), .slice none 0 0, .bool false]⟩), (4, .int .i64 2), (5, .int .i64 4), (6, .int .i64 5)]) (.cons rfl rfl rfl (.d (.d (.t (.t (.t (.t (.t (.t .z)))))))) rfl (.cons rfl rfl rfl (.d (.d (.d (.d (.d (.d (.d (.d (.t (.t (.t (.t (.t (.t (.t (.t .z)))))))))))))))) rfl (.cons rfl rfl rfl (.d (.d (.d (.d (.d (.d (.d (.d (.d (.d (.d (.d (.d (.d (.d (.d (.t .z))))))))))))))))) rfl (.cons rfl rfl rfl (.d (.d (.d (.d (.d (.d (.d (.d (.d (.d (.d (.d (.d (.d (.d (.d (.d (.t .z)))))))))))))))))) rfl (.cons rfl rfl rfl (.d (.d (.d (.d (.d (.d (.d (.d (.d (.d (.d (.d (.d (.d (.d (.d (.d (.d (.t .z))))))))))))))))))) rfl .nil))))) rfl zero32 stc32 rfl) ?_
  refine To.step rfl (Want.none rfl) rfl rfl (st_alloc rfl zero32) ?_
  rintro _ _ ⟨b1048, rfl, rfl⟩
  refine To.step0 rfl (Want.none rfl) rfl (st_store rfl rfl rfl rfl .z rfl (.t (.t (.t (.t (.t (.t (.t (.t (.t (.t (.t (.t (.t (.t (.t (.t (.t (.t (.t .z))))))))))))))))))) ty32 rfl rfl) ?_
  rintro _ _ rfl
  refine To.done ?_
  refine To.keep (Keep.cons 3 rfl (Keep.cons 2 rfl (Keep.cons 1 rfl Keep.nil))) ?_
  refine To.nx ?_
  refine To.seq ?_
  refine To.region (l := [0, 1, 2]) rfl ?_
  refine To.pure rfl (Want.none rfl) rfl rfl (pe_load rfl rfl .z .pt rfl (.t (.t (.t (.t (.t (.t (.t (.t (.t (.t (.t (.t (.t (.t (.t (.t (.t (.t (.t .z))))))))))))))))))) ty32 rfl nofun rfl) ?_
  refine To.step rfl (Want.none rfl) rfl rfl (st_alloc rfl zero32) ?_
  rintro _ _ ⟨b1049, rfl, rfl⟩
  refine To.step0 rfl (Want.none rfl) rfl (st_store rfl rfl rfl rfl .z rfl (.t (.t (.t (.t (.t (.t (.t (.t (.t (.t (.t (.t (.t (.t (.t (.t (.t (.t (.t .z))))))))))))))))))) ty32 rfl rfl) ?_
  rintro _ _ rfl
  refine To.done ?_
  refine To.keep (Keep.cons 4 rfl (Keep.cons 3 rfl (Keep.cons 2 rfl (Keep.cons 1 rfl Keep.nil)))) ?_
  refine To.nx ?_
  refine To.seq ?_
  refine To.region (l := [0, 1, 2]) rfl ?_
  refine To.pure rfl (Want.none rfl) rfl rfl (pe_fld rfl rfl fld32_3 ty26 rfl rfl) ?_
  refine To.pure rfl (Want.none rfl) rfl rfl (pe_fld rfl rfl fld26_0 ty23 rfl rfl) ?_
  refine To.step0 rfl (Want.none rfl) rfl (st_store rfl rfl rfl rfl .z rfl (.d (.d (.d (.d (.d (.d (.d (.d (.t .z))))))))) ty23 rfl rfl) ?_
  rintro _ _ rfl
  refine To.done ?_
  refine To.keep (Keep.cons 4 rfl (Keep.cons 3 rfl (Keep.cons 2 rfl (Keep.cons 1 rfl Keep.nil)))) ?_
  refine To.nx ?_
  refine To.seq ?_
  refine To.region (l := [0, 1, 2, 3, 4]) rfl ?_
  refine To.pure rfl (Want.none rfl) rfl rfl (pe_load rfl rfl (.s .z) .pt rfl (.t (.t (.t (.t (.t (.t (.t (.t (.t (.t (.t (.t (.t (.t (.t (.t (.t (.t (.t .z))))))))))))))))))) ty32 rfl nofun rfl) ?_
  refine To.pure rfl (Want.none rfl) rfl rfl (pe_load rfl rfl (.s (.s .z)) .pt rfl (.t (.t (.t (.t (.t (.t (.t (.t (.t (.t (.t (.t (.t (.t (.t (.t (.t (.t (.t .z))))))))))))))))))) ty32 rfl nofun rfl) ?_
  refine To.step rfl (Want.none rfl) rfl rfl (st_row (vs := [.agg ⟨[.int .i64 0, .int .i64 0, .int .i64 9, .string (S []), .int .i64 0, .int .i64 0, .int .i64 0, .string (S []), .int .i64 2, .int .i64 0, .int .i64 0, .int .i64 0, .int .i64 0, .string (S []), .slice none 0 0, .bool false, .int .i64 2, .int .i64 4, .int .i64 5]⟩, .agg ⟨[.int .i64 0, .int .i64 0, .int .i64 7, .string (S []), .int .i64 0, .int .i64 0, .int .i64 0, .string (S []), .int .i64 9, .int .i64 0, .int .i64 0, .int .i64 0, .int .i64 0, .string (S []), .slice none 0 0, .bool false, .int .i64 1, .int .i64 1, .int .i64 1]⟩]) rfl rfl rfl rfl Tryz.underlying22 ty32 zsz22 rfl rfl) ?_
  rintro _ _ ⟨b1050, rfl, rfl⟩
  refine To.imp (Imp.imm_nil (k := kStr) (c := 0)) ?_
  refine To.sel (.dup .z inferInstance .all) ?_
  refine To.imp (mk_sched_Record (x := (⟨0, 0, (⟨9, [], 0, 0, 0, []⟩ : T_api_Op), (⟨2, 0, 0, 0, 0, [], [], false⟩ : T_api_Result), 2, 4, 5⟩ : T_sched_Record))) ?_
  refine To.sel (.dup (.s .z) inferInstance .all) ?_
  refine To.imp (mk_sched_Record (x := (⟨0, 0, (⟨7, [], 0, 0, 0, []⟩ : T_api_Op), (⟨9, 0, 0, 0, 0, [], [], false⟩ : T_api_Result), 1, 1, 1⟩ : T_sched_Record))) ?_
  refine To.pull (.s (.s (.s .z))) (To.imp (Imp.row (k := k_sched_Record) (xs := [(⟨0, 0, (⟨9, [], 0, 0, 0, []⟩ : T_api_Op), (⟨2, 0, 0, 0, 0, [], [], false⟩ : T_api_Result), 2, 4, 5⟩ : T_sched_Record), (⟨0, 0, (⟨7, [], 0, 0, 0, []⟩ : T_api_Op), (⟨9, 0, 0, 0, 0, [], [], false⟩ : T_api_Result), 1, 1, 1⟩ : T_sched_Record)]) (.cons (.s .z) (.cons .z .nil rfl) rfl) rfl) ?_)
  refine To.sel (.cons .z (.drop (.drop .all))) ?_
  refine To.pull .z (To.imp Imp.freeze ?_)
  obtain ⟨y1051, h_y1051, hm⟩ := bindE hm
  refine To.step rfl (Want.none rfl) rfl rfl (st_call (tale_Order.tri k h_y1051 (some ⟨b1050, 0, none⟩) 2) rfl rfl fun13 (.dup .z inferInstance .all)) ?_
  rintro _ _ ⟨_, ⟨a1052, c1053, rfl, rfl⟩, rfl⟩
  refine To.app1 ?_
  refine To.pure rfl (Want.none rfl) rfl rfl (pe_assign rfl rfl) ?_
  refine To.done ?_
  refine To.keep (Keep.cons 5 rfl (Keep.cons 4 rfl (Keep.cons 3 rfl (Keep.cons 2 rfl (Keep.cons 1 rfl Keep.nil))))) ?_
  refine To.sel (.cons .z (.drop .all)) ?_
  refine To.nx ?_
  refine To.cut (fun a w => ∃ (x1078 : Bool), law24_speaks.j1 x1078 = some r ∧ Knows 57 a [(0, .bool x1078)] ∧ Holds w (F)) ?_ ?_
  · rintro a w ⟨x1078, hm, ha, hw⟩
    refine To.at ha hw ?_
    clear ha hw a w
    unfold law24_speaks.j1 at hm
    refine To.ret ?_
    cases hm
    exact To.back rfl (.tmp rfl .nil) rfl ⟨rfl, rfl⟩ .all
  · skip
    refine To.region (l := [0, 1, 2, 3, 4, 5, 6, 7, 8, 9, 10, 11, 12, 13, 14, 15, 16, 17, 18, 19, 20, 21, 22, 23, 24, 25, 26, 27, 28, 29, 30, 31, 32, 33, 34, 35, 36, 37, 38]) rfl ?_
    refine To.pure rfl (Want.none rfl) rfl rfl (pe_move rfl rfl) ?_
    refine To.pure rfl (Want.none rfl) rfl rfl (pe_len rfl rfl Tryz.underlying22) ?_
    refine To.pure rfl (Want.none rfl) rfl rfl (pe_int rfl rfl rfl bi_eql) ?_
    refine To.pure rfl (Want.none rfl) rfl rfl (pe_move rfl rfl) ?_
    refine To.split 22 rfl (fun hc => ?_) (fun hc => ?_)
    · replace hm := ifT hc hm
      refine To.pure rfl (Want.of rfl rfl rfl rfl rfl rfl) rfl rfl (pe_move rfl rfl) ?_
      obtain ⟨e1079, h_e1079, hm⟩ := bindE hm
      obtain ⟨h0_e1079, hl_e1079, hx_e1079⟩ := ixE h_e1079
      refine To.ex ( Ex.own_some .z hx_e1079) fun q e => ?_
      obtain ⟨b1080, r1081⟩ := q; cases e
      refine To.pure rfl (Want.of rfl rfl rfl rfl rfl rfl) rfl rfl (pe_idx rfl rfl rfl Tryz.underlying22 ty32 h0_e1079 hl_e1079 rfl) ?_
      refine To.pure rfl (Want.of rfl rfl rfl rfl rfl rfl) rfl rfl (pe_fld rfl rfl fld32_5 ty3 rfl rfl) ?_
      refine To.fo_sched_Record (i := (0 : Int).toNat) .z hx_e1079 ?_
      rintro b_ r_ a1082 c1083 e; cases e
      refine To.pure rfl (Want.of rfl rfl rfl rfl rfl rfl) rfl rfl (pe_load rfl rfl (.s .z) .pt rfl (.d (.d (.d (.d (.d (.d (.d (.d (.d (.d (.d (.d (.d (.d (.d (.d (.d (.t .z)))))))))))))))))) ty3 rfl (fun _ => rfl) rfl) ?_
      refine To.pure rfl (Want.of rfl rfl rfl rfl rfl rfl) rfl rfl (pe_int rfl rfl rfl bi_eql) ?_
      refine To.pure rfl (Want.none rfl) rfl rfl (pe_pick rfl rfl rfl) ?_
      refine To.pure rfl (Want.none rfl) rfl rfl (pe_move rfl rfl) ?_
      refine To.split 29 rfl (fun hc => ?_) (fun hc => ?_)
      · replace hm := ifT hc hm
        refine To.pure rfl (Want.of rfl rfl rfl rfl rfl rfl) rfl rfl (pe_load rfl rfl (.s (.s (.s (.s (.s (.s (.s .z))))))) .pt rfl (.t (.t .z)) ty42 rfl nofun rfl) ?_
        refine To.pure rfl (Want.of rfl rfl rfl rfl rfl rfl) rfl rfl (pe_load rfl rfl (.s (.s (.s (.s (.s (.s .z)))))) .pt rfl (.t (.t (.t (.t (.t (.t (.t (.t (.t (.t (.t (.t (.t (.t (.t (.t (.t (.t (.t .z))))))))))))))))))) ty32 rfl nofun rfl) ?_
        refine To.pure rfl (Want.of rfl rfl rfl rfl rfl rfl) rfl rfl (pe_load rfl rfl (.s (.s (.s (.s (.s .z))))) .pt rfl (.t (.t (.t (.t (.t (.t (.t (.t (.t (.t (.t (.t (.t (.t (.t (.t (.t (.t (.t .z))))))))))))))))))) ty32 rfl nofun rfl) ?_
        refine To.step rfl (Want.of rfl rfl rfl rfl rfl rfl) rfl rfl (st_row (vs := [.agg ⟨[.int .i64 0, .int .i64 0, .int .i64 7, .string (S []), .int .i64 0, .int .i64 0, .int .i64 0, .string (S []), .int .i64 9, .int .i64 0, .int .i64 0, .int .i64 0, .int .i64 0, .string (S []), .slice none 0 0, .bool false, .int .i64 1, .int .i64 1, .int .i64 1]⟩, .agg ⟨[.int .i64 0, .int .i64 0, .int .i64 9, .string (S []), .int .i64 0, .int .i64 0, .int .i64 0, .string (S []), .int .i64 2, .int .i64 0, .int .i64 0, .int .i64 0, .int .i64 0, .string (S []), .slice none 0 0, .bool false, .int .i64 2, .int .i64 4, .int .i64 5]⟩]) rfl rfl rfl rfl Tryz.underlying22 ty32 zsz22 rfl rfl) ?_
        rintro _ _ ⟨b1084, rfl, rfl⟩
        refine To.sel (.dup (.s (.s (.s (.s .z)))) inferInstance .all) ?_
        refine To.imp (mk_sched_Record (x := (⟨0, 0, (⟨7, [], 0, 0, 0, []⟩ : T_api_Op), (⟨9, 0, 0, 0, 0, [], [], false⟩ : T_api_Result), 1, 1, 1⟩ : T_sched_Record))) ?_
        refine To.sel (.dup (.s (.s (.s (.s (.s .z))))) inferInstance .all) ?_
        refine To.imp (mk_sched_Record (x := (⟨0, 0, (⟨9, [], 0, 0, 0, []⟩ : T_api_Op), (⟨2, 0, 0, 0, 0, [], [], false⟩ : T_api_Result), 2, 4, 5⟩ : T_sched_Record))) ?_
        refine To.pull (.s (.s .z)) (To.imp (Imp.row (k := k_sched_Record) (xs := [(⟨0, 0, (⟨7, [], 0, 0, 0, []⟩ : T_api_Op), (⟨9, 0, 0, 0, 0, [], [], false⟩ : T_api_Result), 1, 1, 1⟩ : T_sched_Record), (⟨0, 0, (⟨9, [], 0, 0, 0, []⟩ : T_api_Op), (⟨2, 0, 0, 0, 0, [], [], false⟩ : T_api_Result), 2, 4, 5⟩ : T_sched_Record)]) (.cons (.s .z) (.cons .z .nil rfl) rfl) rfl) ?_)
        refine To.sel (.cons .z (.drop (.drop .all))) ?_
        refine To.sel (.dup (.s .z) inferInstance .all) ?_
        refine To.imp (mk_sched_Record (x := e1079)) ?_
        refine To.sel (.cons .z (.cons (.s (.s .z)) (.cons (.s (.s .z)) .all))) (To.imp (unfocus_same rfl hx_e1079) ?_)
        refine To.imp (Imp.imm_nil (k := k_stack_mount) (c := 0)) ?_
        refine To.pull (.s (.s .z)) (To.imp Imp.freeze ?_)
        obtain ⟨y1085, h_y1085, hm⟩ := bindE hm
        refine To.step rfl (Want.of rfl rfl rfl rfl rfl rfl) rfl rfl (st_call (tale_Wrong.tri k h_y1085 none 0 (some ⟨b1084, 0, none⟩) 2) rfl rfl fun14 (.dup (.s .z) inferInstance (.dup .z inferInstance .all))) ?_
        rintro _ _ ⟨_, ⟨rfl, rfl⟩, rfl⟩
        refine To.app0 ?_
        refine To.pure rfl (Want.of rfl rfl rfl rfl rfl rfl) rfl rfl (pe_int rfl rfl rfl bi_eql) ?_
        refine To.pure rfl (Want.none rfl) rfl rfl (pe_pick rfl rfl rfl) ?_
        refine To.pure rfl (Want.none rfl) rfl rfl (pe_move rfl rfl) ?_
        refine To.split 37 rfl (fun hc => ?_) (fun hc => ?_)
        · replace hm := ifT hc hm
          refine To.pure rfl (Want.of rfl rfl rfl rfl rfl rfl) rfl rfl (pe_load rfl rfl (.s (.s (.s (.s (.s (.s (.s (.s .z)))))))) .pt rfl (.t (.t .z)) ty42 rfl nofun rfl) ?_
          refine To.pure rfl (Want.of rfl rfl rfl rfl rfl rfl) rfl rfl (pe_load rfl rfl (.s (.s (.s (.s (.s (.s (.s .z))))))) .pt rfl (.t (.t (.t (.t (.t (.t (.t (.t (.t (.t (.t (.t (.t (.t (.t (.t (.t (.t (.t .z))))))))))))))))))) ty32 rfl nofun rfl) ?_
          refine To.pure rfl (Want.of rfl rfl rfl rfl rfl rfl) rfl rfl (pe_load rfl rfl (.s (.s (.s (.s (.s .z))))) .pt rfl (.t (.t (.t (.t (.t (.t (.t (.t (.t (.t (.t (.t (.t (.t (.t (.t (.t (.t (.t .z))))))))))))))))))) ty32 rfl nofun rfl) ?_
          refine To.step rfl (Want.of rfl rfl rfl rfl rfl rfl) rfl rfl (st_row (vs := [.agg ⟨[.int .i64 0, .int .i64 0, .int .i64 7, .string (S []), .int .i64 0, .int .i64 0, .int .i64 0, .string (S []), .int .i64 9, .int .i64 0, .int .i64 0, .int .i64 0, .int .i64 0, .string (S []), .slice none 0 0, .bool false, .int .i64 1, .int .i64 1, .int .i64 1]⟩, .agg ⟨[.int .i64 0, .int .i64 0, .int .i64 9, .string (S []), .int .i64 0, .int .i64 0, .int .i64 0, .string (S []), .int .i64 0, .int .i64 0, .int .i64 0, .int .i64 0, .int .i64 0, .string (S []), .slice none 0 0, .bool false, .int .i64 2, .int .i64 4, .int .i64 5]⟩]) rfl rfl rfl rfl Tryz.underlying22 ty32 zsz22 rfl rfl) ?_
          rintro _ _ ⟨b1086, rfl, rfl⟩
          refine To.sel (.dup (.s (.s (.s (.s (.s .z))))) inferInstance .all) ?_
          refine To.imp (mk_sched_Record (x := (⟨0, 0, (⟨7, [], 0, 0, 0, []⟩ : T_api_Op), (⟨9, 0, 0, 0, 0, [], [], false⟩ : T_api_Result), 1, 1, 1⟩ : T_sched_Record))) ?_
          refine To.sel (.dup (.s (.s (.s (.s (.s (.s .z)))))) inferInstance .all) ?_
          refine To.imp (mk_sched_Record (x := (⟨0, 0, (⟨9, [], 0, 0, 0, []⟩ : T_api_Op), (⟨0, 0, 0, 0, 0, [], [], false⟩ : T_api_Result), 2, 4, 5⟩ : T_sched_Record))) ?_
          refine To.pull (.s (.s .z)) (To.imp (Imp.row (k := k_sched_Record) (xs := [(⟨0, 0, (⟨7, [], 0, 0, 0, []⟩ : T_api_Op), (⟨9, 0, 0, 0, 0, [], [], false⟩ : T_api_Result), 1, 1, 1⟩ : T_sched_Record), (⟨0, 0, (⟨9, [], 0, 0, 0, []⟩ : T_api_Op), (⟨0, 0, 0, 0, 0, [], [], false⟩ : T_api_Result), 2, 4, 5⟩ : T_sched_Record)]) (.cons (.s .z) (.cons .z .nil rfl) rfl) rfl) ?_)
          refine To.sel (.cons .z (.drop (.drop .all))) ?_
          refine To.pull .z (To.imp Imp.freeze ?_)
          obtain ⟨y1087, h_y1087, hm⟩ := bindE hm
          refine To.step rfl (Want.of rfl rfl rfl rfl rfl rfl) rfl rfl (st_call (tale_Wrong.tri k h_y1087 none 0 (some ⟨b1086, 0, none⟩) 2) rfl rfl fun14 (.dup (.s (.s .z)) inferInstance (.dup .z inferInstance .all))) ?_
          rintro _ _ ⟨_, ⟨rfl, rfl⟩, rfl⟩
          refine To.app0 ?_
          refine To.pure rfl (Want.of rfl rfl rfl rfl rfl rfl) rfl rfl (pe_int rfl rfl rfl bi_eql) ?_
          refine To.pure rfl (Want.none rfl) rfl rfl (pe_pick rfl rfl rfl) ?_
          refine To.pure rfl (Want.none rfl) rfl rfl (pe_move rfl rfl) ?_
          refine To.split 45 rfl (fun hc => ?_) (fun hc => ?_)
          · replace hm := ifT hc hm
            refine To.pure rfl (Want.of rfl rfl rfl rfl rfl rfl) rfl rfl (pe_load rfl rfl (.s (.s (.s (.s (.s (.s (.s (.s .z)))))))) .pt rfl (.t (.t (.t (.t (.t (.t (.t (.t (.t (.t (.t (.t (.t (.t (.t (.t (.t (.t (.t .z))))))))))))))))))) ty32 rfl nofun rfl) ?_
            refine To.pure rfl (Want.of rfl rfl rfl rfl rfl rfl) rfl rfl (pe_load rfl rfl (.s (.s (.s (.s (.s (.s (.s .z))))))) .pt rfl (.t (.t (.t (.t (.t (.t (.t (.t (.t (.t (.t (.t (.t (.t (.t (.t (.t (.t (.t .z))))))))))))))))))) ty32 rfl nofun rfl) ?_
            obtain ⟨y1088, h_y1088, hm⟩ := bindE hm
            refine To.step rfl (Want.of rfl rfl rfl rfl rfl rfl) rfl rfl (st_call (tale_Before.tri k h_y1088 none 0 none 0) rfl rfl fun7 (.dup (.s (.s (.s (.s (.s .z))))) inferInstance (.dup (.s (.s (.s (.s (.s .z))))) inferInstance .all))) ?_
            rintro _ _ ⟨_, ⟨rfl, rfl⟩, rfl⟩
            refine To.app0 ?_
            refine To.pure rfl (Want.none rfl) rfl rfl (pe_pick rfl rfl rfl) ?_
            refine To.pure rfl (Want.none rfl) rfl rfl (pe_move rfl rfl) ?_
            refine To.split 50 rfl (fun hc => ?_) (fun hc => ?_)
            · replace hm := ifT hc hm
              refine To.pure rfl (Want.of rfl rfl rfl rfl rfl rfl) rfl rfl (pe_load rfl rfl (.s (.s (.s (.s (.s (.s (.s .z))))))) .pt rfl (.t (.t (.t (.t (.t (.t (.t (.t (.t (.t (.t (.t (.t (.t (.t (.t (.t (.t (.t .z))))))))))))))))))) ty32 rfl nofun rfl) ?_
              refine To.pure rfl (Want.of rfl rfl rfl rfl rfl rfl) rfl rfl (pe_load rfl rfl (.s (.s (.s (.s (.s (.s (.s (.s .z)))))))) .pt rfl (.t (.t (.t (.t (.t (.t (.t (.t (.t (.t (.t (.t (.t (.t (.t (.t (.t (.t (.t .z))))))))))))))))))) ty32 rfl nofun rfl) ?_
              refine To.step rfl (Want.of rfl rfl rfl rfl rfl rfl) rfl rfl (st_row (vs := [.agg ⟨[.int .i64 0, .int .i64 0, .int .i64 9, .string (S []), .int .i64 0, .int .i64 0, .int .i64 0, .string (S []), .int .i64 2, .int .i64 0, .int .i64 0, .int .i64 0, .int .i64 0, .string (S []), .slice none 0 0, .bool false, .int .i64 2, .int .i64 4, .int .i64 5]⟩, .agg ⟨[.int .i64 0, .int .i64 0, .int .i64 7, .string (S []), .int .i64 0, .int .i64 0, .int .i64 0, .string (S []), .int .i64 9, .int .i64 0, .int .i64 0, .int .i64 0, .int .i64 0, .string (S []), .slice none 0 0, .bool false, .int .i64 1, .int .i64 1, .int .i64 1]⟩]) rfl rfl rfl rfl Tryz.underlying22 ty32 zsz22 rfl rfl) ?_
              rintro _ _ ⟨b1089, rfl, rfl⟩
              refine To.sel (.dup (.s (.s (.s (.s (.s (.s .z)))))) inferInstance .all) ?_
              refine To.imp (mk_sched_Record (x := (⟨0, 0, (⟨9, [], 0, 0, 0, []⟩ : T_api_Op), (⟨2, 0, 0, 0, 0, [], [], false⟩ : T_api_Result), 2, 4, 5⟩ : T_sched_Record))) ?_
              refine To.sel (.dup (.s (.s (.s (.s (.s (.s (.s .z))))))) inferInstance .all) ?_
              refine To.imp (mk_sched_Record (x := (⟨0, 0, (⟨7, [], 0, 0, 0, []⟩ : T_api_Op), (⟨9, 0, 0, 0, 0, [], [], false⟩ : T_api_Result), 1, 1, 1⟩ : T_sched_Record))) ?_
              refine To.pull (.s (.s .z)) (To.imp (Imp.row (k := k_sched_Record) (xs := [(⟨0, 0, (⟨9, [], 0, 0, 0, []⟩ : T_api_Op), (⟨2, 0, 0, 0, 0, [], [], false⟩ : T_api_Result), 2, 4, 5⟩ : T_sched_Record), (⟨0, 0, (⟨7, [], 0, 0, 0, []⟩ : T_api_Op), (⟨9, 0, 0, 0, 0, [], [], false⟩ : T_api_Result), 1, 1, 1⟩ : T_sched_Record)]) (.cons (.s .z) (.cons .z .nil rfl) rfl) rfl) ?_)
              refine To.sel (.cons .z (.drop (.drop .all))) ?_
              refine To.pull .z (To.imp Imp.freeze ?_)
              obtain ⟨y1090, h_y1090, hm⟩ := bindE hm
              refine To.step rfl (Want.of rfl rfl rfl rfl rfl rfl) rfl rfl (st_call (tale_Kept.tri k h_y1090 (some ⟨b1089, 0, none⟩) 2) rfl rfl fun8 (.dup .z inferInstance .all)) ?_
              rintro _ _ ⟨_, ⟨rfl, rfl⟩, rfl⟩
              refine To.app0 ?_
              refine To.pure rfl (Want.of rfl rfl rfl rfl rfl rfl) rfl rfl (pe_not rfl rfl) ?_
              refine To.pure rfl (Want.none rfl) rfl rfl (pe_pick rfl rfl rfl) ?_
              refine To.pure rfl (Want.none rfl) rfl rfl (pe_assign rfl rfl) ?_
              refine To.done ?_
              refine To.keep (Keep.cons 0 rfl Keep.nil) ?_
              refine To.sel (.drop (.drop (.drop (.drop (.drop (.drop (.drop (.drop (.drop (.drop (.drop .all))))))))))) ?_
              exact fun a w ha hw => ⟨!y1090, hm, ha.keep (Keep.cons 0 rfl Keep.nil), (Sel.imp .all) w hw⟩
            · replace hm := ifF hc hm
              refine To.skipped rfl (Want.of rfl rfl rfl rfl rfl rfl) rfl rfl ?_
              refine To.skipped rfl (Want.of rfl rfl rfl rfl rfl rfl) rfl rfl ?_
              refine To.skipped rfl (Want.of rfl rfl rfl rfl rfl rfl) rfl rfl ?_
              refine To.skipped rfl (Want.of rfl rfl rfl rfl rfl rfl) rfl rfl ?_
              refine To.skipped rfl (Want.of rfl rfl rfl rfl rfl rfl) rfl rfl ?_
              refine To.pure rfl (Want.none rfl) rfl rfl (pe_pick rfl rfl rfl) ?_
              refine To.pure rfl (Want.none rfl) rfl rfl (pe_assign rfl rfl) ?_
              refine To.done ?_
              refine To.keep (Keep.cons 0 rfl Keep.nil) ?_
              refine To.sel (.drop (.drop (.drop (.drop (.drop (.drop (.drop (.drop (.drop (.drop .all)))))))))) ?_
              exact fun a w ha hw => ⟨false, hm, ha.keep (Keep.cons 0 rfl Keep.nil), (Sel.imp .all) w hw⟩
          · replace hm := ifF hc hm
            refine To.skipped rfl (Want.of rfl rfl rfl rfl rfl rfl) rfl rfl ?_
            refine To.skipped rfl (Want.of rfl rfl rfl rfl rfl rfl) rfl rfl ?_
            refine To.skipped rfl (Want.of rfl rfl rfl rfl rfl rfl) rfl rfl ?_
            refine To.pure rfl (Want.none rfl) rfl rfl (pe_pick rfl rfl rfl) ?_
            refine To.pure rfl (Want.none rfl) rfl rfl (pe_move rfl rfl) ?_
            refine To.skipped rfl (Want.of rfl rfl rfl rfl rfl rfl) rfl rfl ?_
            refine To.skipped rfl (Want.of rfl rfl rfl rfl rfl rfl) rfl rfl ?_
            refine To.skipped rfl (Want.of rfl rfl rfl rfl rfl rfl) rfl rfl ?_
            refine To.skipped rfl (Want.of rfl rfl rfl rfl rfl rfl) rfl rfl ?_
            refine To.skipped rfl (Want.of rfl rfl rfl rfl rfl rfl) rfl rfl ?_
            refine To.pure rfl (Want.none rfl) rfl rfl (pe_pick rfl rfl rfl) ?_
            refine To.pure rfl (Want.none rfl) rfl rfl (pe_assign rfl rfl) ?_
            refine To.done ?_
            refine To.keep (Keep.cons 0 rfl Keep.nil) ?_
            refine To.sel (.drop (.drop (.drop (.drop (.drop (.drop (.drop (.drop (.drop (.drop .all)))))))))) ?_
            exact fun a w ha hw => ⟨false, hm, ha.keep (Keep.cons 0 rfl Keep.nil), (Sel.imp .all) w hw⟩
        · replace hm := ifF hc hm
          refine To.skipped rfl (Want.of rfl rfl rfl rfl rfl rfl) rfl rfl ?_
          refine To.skipped rfl (Want.of rfl rfl rfl rfl rfl rfl) rfl rfl ?_
          refine To.skipped rfl (Want.of rfl rfl rfl rfl rfl rfl) rfl rfl ?_
          refine To.skipped rfl (Want.of rfl rfl rfl rfl rfl rfl) rfl rfl ?_
          refine To.skipped rfl (Want.of rfl rfl rfl rfl rfl rfl) rfl rfl ?_
          refine To.skipped rfl (Want.of rfl rfl rfl rfl rfl rfl) rfl rfl ?_
          refine To.pure rfl (Want.none rfl) rfl rfl (pe_pick rfl rfl rfl) ?_
          refine To.pure rfl (Want.none rfl) rfl rfl (pe_move rfl rfl) ?_
          refine To.skipped rfl (Want.of rfl rfl rfl rfl rfl rfl) rfl rfl ?_
          refine To.skipped rfl (Want.of rfl rfl rfl rfl rfl rfl) rfl rfl ?_
          refine To.skipped rfl (Want.of rfl rfl rfl rfl rfl rfl) rfl rfl ?_
          refine To.pure rfl (Want.none rfl) rfl rfl (pe_pick rfl rfl rfl) ?_
          refine To.pure rfl (Want.none rfl) rfl rfl (pe_move rfl rfl) ?_
          refine To.skipped rfl (Want.of rfl rfl rfl rfl rfl rfl) rfl rfl ?_
          refine To.skipped rfl (Want.of rfl rfl rfl rfl rfl rfl) rfl rfl ?_
          refine To.skipped rfl (Want.of rfl rfl rfl rfl rfl rfl) rfl rfl ?_
          refine To.skipped rfl (Want.of rfl rfl rfl rfl rfl rfl) rfl rfl ?_
          refine To.skipped rfl (Want.of rfl rfl rfl rfl rfl rfl) rfl rfl ?_
          refine To.pure rfl (Want.none rfl) rfl rfl (pe_pick rfl rfl rfl) ?_
          refine To.pure rfl (Want.none rfl) rfl rfl (pe_assign rfl rfl) ?_
          refine To.done ?_
          refine To.keep (Keep.cons 0 rfl Keep.nil) ?_
          refine To.sel (.drop (.drop (.drop (.drop (.drop (.drop (.drop (.drop (.drop .all))))))))) ?_
          exact fun a w ha hw => ⟨false, hm, ha.keep (Keep.cons 0 rfl Keep.nil), (Sel.imp .all) w hw⟩
      · replace hm := ifF hc hm
        refine To.skipped rfl (Want.of rfl rfl rfl rfl rfl rfl) rfl rfl ?_
        refine To.skipped rfl (Want.of rfl rfl rfl rfl rfl rfl) rfl rfl ?_
        refine To.skipped rfl (Want.of rfl rfl rfl rfl rfl rfl) rfl rfl ?_
        refine To.skipped rfl (Want.of rfl rfl rfl rfl rfl rfl) rfl rfl ?_
        refine To.skipped rfl (Want.of rfl rfl rfl rfl rfl rfl) rfl rfl ?_
        refine To.skipped rfl (Want.of rfl rfl rfl rfl rfl rfl) rfl rfl ?_
        refine To.pure rfl (Want.none rfl) rfl rfl (pe_pick rfl rfl rfl) ?_
        refine To.pure rfl (Want.none rfl) rfl rfl (pe_move rfl rfl) ?_
        refine To.skipped rfl (Want.of rfl rfl rfl rfl rfl rfl) rfl rfl ?_
        refine To.skipped rfl (Want.of rfl rfl rfl rfl rfl rfl) rfl rfl ?_
        refine To.skipped rfl (Want.of rfl rfl rfl rfl rfl rfl) rfl rfl ?_
        refine To.skipped rfl (Want.of rfl rfl rfl rfl rfl rfl) rfl rfl ?_
        refine To.skipped rfl (Want.of rfl rfl rfl rfl rfl rfl) rfl rfl ?_
        refine To.skipped rfl (Want.of rfl rfl rfl rfl rfl rfl) rfl rfl ?_
        refine To.pure rfl (Want.none rfl) rfl rfl (pe_pick rfl rfl rfl) ?_
        refine To.pure rfl (Want.none rfl) rfl rfl (pe_move rfl rfl) ?_
        refine To.skipped rfl (Want.of rfl rfl rfl rfl rfl rfl) rfl rfl ?_
        refine To.skipped rfl (Want.of rfl rfl rfl rfl rfl rfl) rfl rfl ?_
        refine To.skipped rfl (Want.of rfl rfl rfl rfl rfl rfl) rfl rfl ?_
        refine To.pure rfl (Want.none rfl) rfl rfl (pe_pick rfl rfl rfl) ?_
        refine To.pure rfl (Want.none rfl) rfl rfl (pe_move rfl rfl) ?_
        refine To.skipped rfl (Want.of rfl rfl rfl rfl rfl rfl) rfl rfl ?_
        refine To.skipped rfl (Want.of rfl rfl rfl rfl rfl rfl) rfl rfl ?_
        refine To.skipped rfl (Want.of rfl rfl rfl rfl rfl rfl) rfl rfl ?_
        refine To.skipped rfl (Want.of rfl rfl rfl rfl rfl rfl) rfl rfl ?_
        refine To.skipped rfl (Want.of rfl rfl rfl rfl rfl rfl) rfl rfl ?_
        refine To.pure rfl (Want.none rfl) rfl rfl (pe_pick rfl rfl rfl) ?_
        refine To.pure rfl (Want.none rfl) rfl rfl (pe_assign rfl rfl) ?_
        refine To.done ?_
        refine To.keep (Keep.cons 0 rfl Keep.nil) ?_
        refine To.sel (.drop (.drop (.drop (.drop (.drop (.drop (.drop (.drop .all)))))))) ?_
        exact fun a w ha hw => ⟨false, hm, ha.keep (Keep.cons 0 rfl Keep.nil), (Sel.imp .all) w hw⟩
    · replace hm := ifF hc hm
      refine To.skipped rfl (Want.of rfl rfl rfl rfl rfl rfl) rfl rfl ?_
      refine To.skipped rfl (Want.of rfl rfl rfl rfl rfl rfl) rfl rfl ?_
      refine To.skipped rfl (Want.of rfl rfl rfl rfl rfl rfl) rfl rfl ?_
      refine To.skipped rfl (Want.of rfl rfl rfl rfl rfl rfl) rfl rfl ?_
      refine To.skipped rfl (Want.of rfl rfl rfl rfl rfl rfl) rfl rfl ?_
      refine To.pure rfl (Want.none rfl) rfl rfl (pe_pick rfl rfl rfl) ?_
      refine To.pure rfl (Want.none rfl) rfl rfl (pe_move rfl rfl) ?_
      refine To.skipped rfl (Want.of rfl rfl rfl rfl rfl rfl) rfl rfl ?_
      refine To.skipped rfl (Want.of rfl rfl rfl rfl rfl rfl) rfl rfl ?_
      refine To.skipped rfl (Want.of rfl rfl rfl rfl rfl rfl) rfl rfl ?_
      refine To.skipped rfl (Want.of rfl rfl rfl rfl rfl rfl) rfl rfl ?_
      refine To.skipped rfl (Want.of rfl rfl rfl rfl rfl rfl) rfl rfl ?_
      refine To.skipped rfl (Want.of rfl rfl rfl rfl rfl rfl) rfl rfl ?_
      refine To.pure rfl (Want.none rfl) rfl rfl (pe_pick rfl rfl rfl) ?_
      refine To.pure rfl (Want.none rfl) rfl rfl (pe_move rfl rfl) ?_
      refine To.skipped rfl (Want.of rfl rfl rfl rfl rfl rfl) rfl rfl ?_
      refine To.skipped rfl (Want.of rfl rfl rfl rfl rfl rfl) rfl rfl ?_
      refine To.skipped rfl (Want.of rfl rfl rfl rfl rfl rfl) rfl rfl ?_
      refine To.skipped rfl (Want.of rfl rfl rfl rfl rfl rfl) rfl rfl ?_
      refine To.skipped rfl (Want.of rfl rfl rfl rfl rfl rfl) rfl rfl ?_
      refine To.skipped rfl (Want.of rfl rfl rfl rfl rfl rfl) rfl rfl ?_
      refine To.pure rfl (Want.none rfl) rfl rfl (pe_pick rfl rfl rfl) ?_
      refine To.pure rfl (Want.none rfl) rfl rfl (pe_move rfl rfl) ?_
      refine To.skipped rfl (Want.of rfl rfl rfl rfl rfl rfl) rfl rfl ?_
      refine To.skipped rfl (Want.of rfl rfl rfl rfl rfl rfl) rfl rfl ?_
      refine To.skipped rfl (Want.of rfl rfl rfl rfl rfl rfl) rfl rfl ?_
      refine To.pure rfl (Want.none rfl) rfl rfl (pe_pick rfl rfl rfl) ?_
      refine To.pure rfl (Want.none rfl) rfl rfl (pe_move rfl rfl) ?_
      refine To.skipped rfl (Want.of rfl rfl rfl rfl rfl rfl) rfl rfl ?_
      refine To.skipped rfl (Want.of rfl rfl rfl rfl rfl rfl) rfl rfl ?_
      refine To.skipped rfl (Want.of rfl rfl rfl rfl rfl rfl) rfl rfl ?_
      refine To.skipped rfl (Want.of rfl rfl rfl rfl rfl rfl) rfl rfl ?_
      refine To.skipped rfl (Want.of rfl rfl rfl rfl rfl rfl) rfl rfl ?_
      refine To.pure rfl (Want.none rfl) rfl rfl (pe_pick rfl rfl rfl) ?_
      refine To.pure rfl (Want.none rfl) rfl rfl (pe_assign rfl rfl) ?_
      refine To.done ?_
      refine To.keep (Keep.cons 0 rfl Keep.nil) ?_
      refine To.sel (.drop (.drop (.drop (.drop (.drop (.drop .all)))))) ?_
      exact fun a w ha hw => ⟨false, hm, ha.keep (Keep.cons 0 rfl Keep.nil), (Sel.imp .all) w hw⟩
end Go.Proofs.M

set_option linter.unusedVariables false
set_option maxRecDepth 10000
namespace Go.Proofs.M
open Go Go.WG
/-- socage/socageref01.Same -/
def ref01_Same.l1 (p1 : List Str) (p4 : List Str) : Nat → Int → Option Bool
  | 0, _ => none
  | k1037 + 1, x1029 => (if (decide (x1029 < (p1.length : Int))) = true then ((ix p1 x1029).bind fun e1039 => (ix p4 x1029).bind fun e1042 => (if (!(e1039 == e1042)) = true then (some false) else ((ref01_Same.l1 p1 p4 k1037) (IntKind.i64.wrap (x1029 + 1))))) else (some true))
def ref01_Same.f (k : Nat) (p1 : List Str) (p4 : List Str) : Option Bool := (if ((p1.length : Int) != (p4.length : Int)) = true then (some false) else (ref01_Same.l1 p1 p4 k 0))
theorem ref01_Same.tri (k : Nat) {r : Bool} {p1 : List Str} {p4 : List Str} (hm : ref01_Same.f k p1 p4 = some r) (a2 : Option Addr) (c3 : Nat) (a5 : Option Addr) (c6 : Nat) :
    Tri Tryz.prog 12 [.slice a2 p1.length c3, .slice a5 p4.length c6] [imm kStr a2 c3 p1, imm kStr a5 c6 p4] (fun v H' => v = .bool r ∧ H' = []) := by
  refine Tri.intro2 Tryz.func12 rfl rfl rfl (fun F => ?_)
  unfold ref01_Same.f at hm
  refine To.seq ?_
  refine To.region (l := [0]) rfl ?_
  refine To.pure rfl (Want.none rfl) rfl rfl (pe_assign rfl rfl) ?_
  refine To.done ?_
  refine To.keep (Keep.cons 0 rfl (Keep.cons 1 rfl Keep.nil)) ?_
  refine To.nx ?_
  refine To.seq ?_
  refine To.seq ?_
  refine To.region (l := [0, 1, 2, 3, 4]) rfl ?_
  refine To.pure rfl (Want.none rfl) rfl rfl (pe_move rfl rfl) ?_
  refine To.pure rfl (Want.none rfl) rfl rfl (pe_len rfl rfl Tryz.underlying24) ?_
  refine To.pure rfl (Want.none rfl) rfl rfl (pe_move rfl rfl) ?_
  refine To.pure rfl (Want.none rfl) rfl rfl (pe_len rfl rfl Tryz.underlying24) ?_
  refine To.pure rfl (Want.none rfl) rfl rfl (pe_int rfl rfl rfl bi_neq) ?_
  refine To.done ?_
  refine To.keep (Keep.cons 10 rfl (Keep.cons 0 rfl (Keep.cons 1 rfl Keep.nil))) ?_
  refine To.nx ?_
  refine To.cond rfl (fun hc => ?_) (fun hc => ?_)
  · replace hm := ifT hc hm
    refine To.seq ?_
    refine To.region (l := [0]) rfl ?_
    refine To.pure rfl (Want.none rfl) rfl rfl (pe_assign rfl rfl) ?_
    refine To.done ?_
    refine To.keep (Keep.cons 4 rfl Keep.nil) ?_
    refine To.sel (.drop (.drop .all)) ?_
    refine To.nx ?_
    refine To.ret ?_
    refine To.tr ?_
    cases hm
    exact To.back rfl (.tmp rfl .nil) rfl ⟨rfl, rfl⟩ .all
  · replace hm := ifF hc hm
    refine To.skip ?_
    refine To.nx ?_
    refine To.seq ?_
    refine To.seq ?_
    refine To.region (l := [0]) rfl ?_
    refine To.pure rfl (Want.none rfl) rfl rfl (pe_assign rfl rfl) ?_
    refine To.done ?_
    refine To.keep (Keep.cons 5 rfl (Keep.cons 0 rfl (Keep.cons 1 rfl Keep.nil))) ?_
    refine To.nx ?_
    refine To.block ?_
    refine To.loop (fun kk a w => ∃ (x1029 : Int), ref01_Same.l1 p1 p4 kk x1029 = some r ∧ Knows 26 a [(0, .slice a2 p1.length c3), (1, .slice a5 p4.length c6), (5, .int .i64 x1029)] ∧ Holds w (imm kStr a2 c3 p1 :: imm kStr a5 c6 p4 :: F)) ?_ ?_ k ?_
    · rintro a w ⟨_, hm, _, _⟩; rw [ref01_Same.l1] at hm; cases hm
    · rintro k1037 a w ⟨x1029, hm, ha, hw⟩
      refine To.at ha hw ?_
      clear ha hw a w
      rw [ref01_Same.l1] at hm
      refine To.seq ?_
      refine To.seq ?_
      refine To.region (l := [0, 1, 2, 3]) rfl ?_
      refine To.pure rfl (Want.none rfl) rfl rfl (pe_move rfl rfl) ?_
      refine To.pure rfl (Want.none rfl) rfl rfl (pe_move rfl rfl) ?_
      refine To.pure rfl (Want.none rfl) rfl rfl (pe_len rfl rfl Tryz.underlying24) ?_
      refine To.pure rfl (Want.none rfl) rfl rfl (pe_int rfl rfl rfl bi_lss) ?_
      refine To.done ?_
      refine To.keep (Keep.cons 14 rfl (Keep.cons 0 rfl (Keep.cons 1 rfl (Keep.cons 5 rfl Keep.nil)))) ?_
      refine To.nx ?_
      refine To.cond rfl (fun hc => ?_) (fun hc => ?_)
      · replace hm := ifT hc hm
        refine To.skip ?_
        refine To.nx ?_
        refine To.seq ?_
        refine To.block ?_
        refine To.seq ?_
        obtain ⟨e1039, h_e1039, hm⟩ := bindE hm
        obtain ⟨h0_e1039, hl_e1039, hx_e1039⟩ := ixE h_e1039
        refine To.el_str (i := (x1029 : Int).toNat) .z hx_e1039 ?_
        rintro b1040 r1041 e; cases e
        obtain ⟨e1042, h_e1042, hm⟩ := bindE hm
        obtain ⟨h0_e1042, hl_e1042, hx_e1042⟩ := ixE h_e1042
        refine To.el_str (i := (x1029 : Int).toNat) (.s (.s .z)) hx_e1042 ?_
        rintro b1043 r1044 e; cases e
        refine To.draws [0, 0, 3, 7, 0, 0, 48, 112, 255] mixed (by kernel_rfl) (by kernel_rfl) ?_
        refine Dr.pure 0 17 _ _ rfl rfl rfl rfl rfl rfl (by kernel_rfl) (PureG.of (Want.none rfl) (pe_move rfl rfl)) ?_
        refine Dr.pure 1 18 _ _ rfl rfl rfl rfl rfl rfl (by kernel_rfl) (PureG.of (Want.none rfl) (pe_move rfl rfl)) ?_
        refine Dr.pure 2 19 _ _ rfl rfl rfl rfl rfl rfl (by kernel_rfl) (PureG.of (Want.none rfl) (pe_idx rfl rfl rfl Tryz.underlying24 ty9 h0_e1039 hl_e1039 rfl)) ?_
        refine Dr.pure 3 20 _ _ rfl rfl rfl rfl rfl rfl (by kernel_rfl) (PureG.of (Want.none rfl) (pe_load rfl rfl (.s .z) .ro rfl (.t .z) ty9 rfl (fun _ => rfl) rfl)) ?_
        refine Dr.pure 4 21 _ _ rfl rfl rfl rfl rfl rfl (by kernel_rfl) (PureG.of (Want.none rfl) (pe_move rfl rfl)) ?_
        refine Dr.pure 5 22 _ _ rfl rfl rfl rfl rfl rfl (by kernel_rfl) (PureG.of (Want.none rfl) (pe_move rfl rfl)) ?_
        refine Dr.pure 6 23 _ _ rfl rfl rfl rfl rfl rfl (by kernel_rfl) (PureG.of (Want.none rfl) (pe_idx rfl rfl rfl Tryz.underlying24 ty9 h0_e1042 hl_e1042 rfl)) ?_
        refine Dr.pure 7 24 _ _ rfl rfl rfl rfl rfl rfl (by kernel_rfl) (PureG.of (Want.none rfl) (pe_load rfl rfl .z .ro rfl (.t .z) ty9 rfl (fun _ => rfl) rfl)) ?_
        refine Dr.pure 8 25 _ _ rfl rfl rfl rfl rfl rfl (by kernel_rfl) (PureG.of (Want.none rfl) (pe_str rfl rfl rfl bs_neq)) ?_
        refine Dr.done (by kernel_rfl) ?_
        refine To.keep (Keep.cons 25 rfl (Keep.cons 0 rfl (Keep.cons 1 rfl (Keep.cons 5 rfl Keep.nil)))) ?_
        refine To.sel (.drop (.drop .all)) ?_
        refine To.nx ?_
        refine To.cond rfl (fun hc => ?_) (fun hc => ?_)
        · replace hm := ifT hc hm
          refine To.seq ?_
          refine To.region (l := [0]) rfl ?_
          refine To.pure rfl (Want.none rfl) rfl rfl (pe_assign rfl rfl) ?_
          refine To.done ?_
          refine To.keep (Keep.cons 4 rfl Keep.nil) ?_
          refine To.sel (.drop (.drop .all)) ?_
          refine To.nx ?_
          refine To.ret ?_
          refine To.br ?_
          refine To.tr ?_
          refine To.tr ?_
          refine To.br ?_
          refine To.tr ?_
          cases hm
          exact To.back rfl (.tmp rfl .nil) rfl ⟨rfl, rfl⟩ .all
        · replace hm := ifF hc hm
          refine To.skip ?_
          refine To.bn ?_
          refine To.nx ?_
          refine To.region (l := [0, 1, 2]) rfl ?_
          refine To.pure rfl (Want.none rfl) rfl rfl (pe_move rfl rfl) ?_
          refine To.pure rfl (Want.none rfl) rfl rfl (pe_int rfl rfl rfl bi_add) ?_
          refine To.pure rfl (Want.none rfl) rfl rfl (pe_assign rfl rfl) ?_
          refine To.done ?_
          refine To.keep (Keep.cons 5 rfl (Keep.cons 0 rfl (Keep.cons 1 rfl Keep.nil))) ?_
          exact fun a w ha hw => ⟨IntKind.i64.wrap (x1029 + 1), hm, ha.keep (Keep.cons 0 rfl (Keep.cons 1 rfl (Keep.cons 5 rfl Keep.nil))), (Sel.imp (.dup .z inferInstance (.dup (.s .z) inferInstance (.drop (.drop .all))))) w hw⟩
      · replace hm := ifF hc hm
        refine To.exit ?_
        refine To.tx ?_
        refine To.tx ?_
        refine To.bx ?_
        refine To.nx ?_
        refine To.seq ?_
        refine To.region (l := [0]) rfl ?_
        refine To.pure rfl (Want.none rfl) rfl rfl (pe_assign rfl rfl) ?_
        refine To.done ?_
        refine To.keep (Keep.cons 4 rfl Keep.nil) ?_
        refine To.sel (.drop (.drop .all)) ?_
        refine To.nx ?_
        refine To.ret ?_
        cases hm
        exact To.back rfl (.tmp rfl .nil) rfl ⟨rfl, rfl⟩ .all
    · skip
      exact fun a w ha hw => ⟨0, hm, ha.keep (Keep.cons 0 rfl (Keep.cons 1 rfl (Keep.cons 5 rfl Keep.nil))), (Sel.imp (.dup .z inferInstance (.dup (.s .z) inferInstance (.drop (.drop .all))))) w hw⟩
end Go.Proofs.M

set_option linter.unusedVariables false
set_option maxRecDepth 10000
namespace Go.Proofs.M
open Go Go.WG
/-- socage/tale.Pages -/
def tale_Pages.j2 (rec1194 : (List Str) → Bool → Int → Option ((List Str) × Bool)) (x1153 : Int) (x1215 : List Str) (x1218 : Bool) : Option ((List Str) × Bool) := (rec1194 x1215 x1218 (IntKind.i64.wrap (x1153 + 1)))
def tale_Pages.j3 (x1149 : List Str) (e1219 : T_sched_Record) (rec1194 : (List Str) → Bool → Int → Option ((List Str) × Bool)) (x1153 : Int) (x1152 : Bool) (x1225 : Bool) : Option ((List Str) × Bool) := (if x1225 = true then (lim (x1149.length + e1219.Result.Names.length ≤ BIG) ((tale_Pages.j2 rec1194 x1153 (x1149 ++ e1219.Result.Names) e1219.Result.End))) else (tale_Pages.j2 rec1194 x1153 x1149 x1152))
def tale_Pages.l1 (p1 : List T_sched_Record) (p4 : Int) : Nat → (List Str) → Bool → Int → Option ((List Str) × Bool)
  | 0, _, _, _ => none
  | k1193 + 1, x1149, x1152, x1153 => (if (decide (x1153 < (p1.length : Int))) = true then ((ix p1 x1153).bind fun e1219 => (if (e1219.Op.Kind == 6) = true then (if (e1219.Op.ID == p4) = true then (tale_Pages.j3 x1149 e1219 (tale_Pages.l1 p1 p4 k1193) x1153 x1152 (e1219.Result.Err == 0)) else (tale_Pages.j3 x1149 e1219 (tale_Pages.l1 p1 p4 k1193) x1153 x1152 false)) else (tale_Pages.j3 x1149 e1219 (tale_Pages.l1 p1 p4 k1193) x1153 x1152 false))) else (some (x1149, x1152)))
def tale_Pages.f (k : Nat) (p1 : List T_sched_Record) (p4 : Int) : Option ((List Str) × Bool) := (tale_Pages.l1 p1 p4 k [] false 0)
theorem tale_Pages.tri (k : Nat) {r : (List Str) × Bool} {p1 : List T_sched_Record} {p4 : Int} (hm : tale_Pages.f k p1 p4 = some r) (a2 : Option Addr) (c3 : Nat) :
    Tri Tryz.prog 11 [.slice a2 p1.length c3, .int .i64 p4] [imm k_sched_Record a2 c3 p1] (fun v H' => ∃ (az2 : Option Addr), ∃ (cz3 : Nat), v = .tuple ⟨[.slice az2 r.1.length cz3, .bool r.2]⟩ ∧ H' = [own kStr az2 cz3 r.1]) := by
  refine Tri.intro1 Tryz.func11 rfl rfl rfl (fun F => ?_)
  unfold tale_Pages.f at hm
  refine To.seq ?_
  refine To.region (l := [0, 1]) rfl ?_
  refine To.pure rfl (Want.none rfl) rfl rfl (pe_assign rfl rfl) ?_
  refine To.pure rfl (Want.none rfl) rfl rfl (pe_assign rfl rfl) ?_
  refine To.done ?_
  refine To.keep (Keep.cons 5 rfl (Keep.cons 4 rfl (Keep.cons 0 rfl (Keep.cons 1 rfl Keep.nil)))) ?_
  refine To.nx ?_
  refine To.seq ?_
  refine To.seq ?_
  refine To.region (l := [0, 1, 2]) rfl ?_
  refine To.pure rfl (Want.none rfl) rfl rfl (pe_move rfl rfl) ?_
  refine To.pure rfl (Want.none rfl) rfl rfl (pe_len rfl rfl Tryz.underlying22) ?_
  refine To.pure rfl (Want.none rfl) rfl rfl (pe_move rfl rfl) ?_
  refine To.done ?_
  refine To.keep (Keep.cons 10 rfl (Keep.cons 9 rfl (Keep.cons 8 rfl (Keep.cons 5 rfl (Keep.cons 4 rfl (Keep.cons 1 rfl Keep.nil)))))) ?_
  refine To.nx ?_
  refine To.block ?_
  refine To.loop (fun kk a w => ∃ (x1149 : List Str), ∃ (x1152 : Bool), ∃ (x1153 : Int), ∃ (a1150 : Option Addr), ∃ (c1151 : Nat), tale_Pages.l1 p1 p4 kk x1149 x1152 x1153 = some r ∧ Knows 42 a [(1, .int .i64 p4), (4, .slice a1150 x1149.length c1151), (5, .bool x1152), (8, .slice a2 p1.length c3), (9, .int .i64 (p1.length : Int)), (10, .int .i64 x1153)] ∧ Holds w (own kStr a1150 c1151 x1149 :: imm k_sched_Record a2 c3 p1 :: F)) ?_ ?_ k ?_
  · rintro a w ⟨_, _, _, _, _, hm, _, _⟩; rw [tale_Pages.l1] at hm; cases hm
  · rintro k1193 a w ⟨x1149, x1152, x1153, a1150, c1151, hm, ha, hw⟩
    refine To.at ha hw ?_
    clear ha hw a w
    rw [tale_Pages.l1] at hm
    refine To.seq ?_
    refine To.region (l := [0]) rfl ?_
    refine To.pure rfl (Want.none rfl) rfl rfl (pe_int rfl rfl rfl bi_lss) ?_
    refine To.done ?_
    refine To.keep (Keep.cons 11 rfl (Keep.cons 1 rfl (Keep.cons 4 rfl (Keep.cons 5 rfl (Keep.cons 8 rfl (Keep.cons 9 rfl (Keep.cons 10 rfl Keep.nil))))))) ?_
    refine To.nx ?_
    refine To.seq ?_
    refine To.cond rfl (fun hc => ?_) (fun hc => ?_)
    · replace hm := ifT hc hm
      refine To.skip ?_
      refine To.nx ?_
      refine To.cut (fun a w => ∃ (x1215 : List Str), ∃ (x1218 : Bool), ∃ (a1216 : Option Addr), ∃ (c1217 : Nat), tale_Pages.j2 (tale_Pages.l1 p1 p4 k1193) x1153 x1215 x1218 = some r ∧ Knows 42 a [(1, .int .i64 p4), (4, .slice a1216 x1215.length c1217), (5, .bool x1218), (8, .slice a2 p1.length c3), (9, .int .i64 (p1.length : Int)), (10, .int .i64 x1153)] ∧ Holds w (own kStr a1216 c1217 x1215 :: imm k_sched_Record a2 c3 p1 :: F)) ?_ ?_
      · rintro a w ⟨x1215, x1218, a1216, c1217, hm, ha, hw⟩
        refine To.at ha hw ?_
        clear ha hw a w
        unfold tale_Pages.j2 at hm
        refine To.region (l := [0, 1]) rfl ?_
        refine To.pure rfl (Want.none rfl) rfl rfl (pe_int rfl rfl rfl bi_add) ?_
        refine To.pure rfl (Want.none rfl) rfl rfl (pe_move rfl rfl) ?_
        refine To.done ?_
        refine To.keep (Keep.cons 10 rfl (Keep.cons 1 rfl (Keep.cons 4 rfl (Keep.cons 5 rfl (Keep.cons 8 rfl (Keep.cons 9 rfl Keep.nil)))))) ?_
        exact fun a w ha hw => ⟨x1215, x1218, IntKind.i64.wrap (x1153 + 1), a1216, c1217, hm, ha.keep (Keep.cons 1 rfl (Keep.cons 4 rfl (Keep.cons 5 rfl (Keep.cons 8 rfl (Keep.cons 9 rfl (Keep.cons 10 rfl Keep.nil)))))), (Sel.imp (.cons .z (.dup .z inferInstance (.drop .all)))) w hw⟩
      · skip
        refine To.block ?_
        refine To.seq ?_
        refine To.region (l := [0, 1, 2, 3]) rfl ?_
        obtain ⟨e1219, h_e1219, hm⟩ := bindE hm
        obtain ⟨h0_e1219, hl_e1219, hx_e1219⟩ := ixE h_e1219
        refine To.el_sched_Record (i := (x1153 : Int).toNat) (.s .z) hx_e1219 ?_
        rintro b1222 r1223 a1220 c1221 e; cases e
        refine To.pure rfl (Want.none rfl) rfl rfl (pe_idx rfl rfl rfl Tryz.underlying22 ty32 h0_e1219 hl_e1219 rfl) ?_
        refine To.pure rfl (Want.none rfl) rfl rfl (pe_load rfl rfl (.s .z) .ro rfl (.t (.t (.t (.t (.t (.t (.t (.t (.t (.t (.t (.t (.t (.t (.t (.t (.t (.t (.t .z))))))))))))))))))) ty32 rfl nofun rfl) ?_
        refine To.step rfl (Want.none rfl) rfl rfl (st_alloc rfl zero32) ?_
        rintro _ _ ⟨b1224, rfl, rfl⟩
        refine To.step0 rfl (Want.none rfl) rfl (st_store rfl rfl rfl rfl .z rfl (.t (.t (.t (.t (.t (.t (.t (.t (.t (.t (.t (.t (.t (.t (.t (.t (.t (.t (.t .z))))))))))))))))))) ty32 rfl rfl) ?_
        rintro _ _ rfl
        refine To.done ?_
        refine To.keep (Keep.cons 7 rfl (Keep.cons 1 rfl (Keep.cons 4 rfl (Keep.cons 5 rfl (Keep.cons 8 rfl (Keep.cons 9 rfl (Keep.cons 10 rfl Keep.nil))))))) ?_
        refine To.sel (.cons .z (.cons .z (.drop .all))) ?_
        refine To.nx ?_
        refine To.cut (fun a w => ∃ (x1225 : Bool), tale_Pages.j3 x1149 e1219 (tale_Pages.l1 p1 p4 k1193) x1153 x1152 x1225 = some r ∧ Knows 42 a [(1, .int .i64 p4), (4, .slice a1150 x1149.length c1151), (5, .bool x1152), (7, .pointer (some ⟨b1224, 0, none⟩)), (8, .slice (some ⟨b1222, r1223, none⟩) p1.length c3), (9, .int .i64 (p1.length : Int)), (10, .int .i64 x1153), (30, .bool x1225)] ∧ Holds w (own kStr a1150 c1151 x1149 :: pt b1224 0 [.int .i64 e1219.Client, .int .i64 e1219.Index, .int .i64 e1219.Op.Kind, .string (S e1219.Op.Path), .int .i64 e1219.Op.Off, .int .i64 e1219.Op.N, .int .i64 e1219.Op.ID, .string (S e1219.Op.Image), .int .i64 e1219.Result.Err, .int .i64 e1219.Result.Kind, .int .i64 e1219.Result.Size, .int .i64 e1219.Result.Where, .int .i64 e1219.Result.ID, .string (S e1219.Result.Text), .slice a1220 e1219.Result.Names.length c1221, .bool e1219.Result.End, .int .i64 e1219.Call, .int .i64 e1219.Mark, .int .i64 e1219.Return] :: imm kStr a1220 c1221 e1219.Result.Names :: imm k_sched_Record (some ⟨b1222, r1223, none⟩) c3 p1 :: F)) ?_ ?_
        · rintro a w ⟨x1225, hm, ha, hw⟩
          refine To.at ha hw ?_
          clear ha hw a w
          unfold tale_Pages.j3 at hm
          refine To.cond rfl (fun hc => ?_) (fun hc => ?_)
          · replace hm := ifT hc hm
            refine To.draws [0, 0, 2, 6, 15, 0, 32, 96, 31, 511] mixed (by kernel_rfl) (by kernel_rfl) ?_
            refine Dr.pure 0 31 _ _ rfl rfl rfl rfl rfl rfl (by kernel_rfl) (PureG.of (Want.none rfl) (pe_move rfl rfl)) ?_
            refine Dr.pure 1 32 _ _ rfl rfl rfl rfl rfl rfl (by kernel_rfl) (PureG.of (Want.none rfl) (pe_fld rfl rfl fld32_3 ty26 rfl rfl)) ?_
            refine Dr.pure 2 33 _ _ rfl rfl rfl rfl rfl rfl (by kernel_rfl) (PureG.of (Want.none rfl) (pe_fld rfl rfl fld26_6 ty24 rfl rfl)) ?_
            refine Dr.pure 3 34 _ _ rfl rfl rfl rfl rfl rfl (by kernel_rfl) (PureG.of (Want.none rfl) (pe_load rfl rfl (.s .z) .pt rfl (.d (.d (.d (.d (.d (.d (.d (.d (.d (.d (.d (.d (.d (.d (.t .z))))))))))))))) ty24 rfl (fun _ => rfl) rfl)) ?_
            refine Dr.pure 5 36 _ _ rfl rfl rfl rfl rfl rfl (by kernel_rfl) (PureG.of (Want.none rfl) (pe_fld rfl rfl fld32_3 ty26 rfl rfl)) ?_
            refine Dr.pure 6 37 _ _ rfl rfl rfl rfl rfl rfl (by kernel_rfl) (PureG.of (Want.none rfl) (pe_fld rfl rfl fld26_7 ty4 rfl rfl)) ?_
            refine Dr.pure 7 38 _ _ rfl rfl rfl rfl rfl rfl (by kernel_rfl) (PureG.of (Want.none rfl) (pe_load rfl rfl (.s .z) .pt rfl (.d (.d (.d (.d (.d (.d (.d (.d (.d (.d (.d (.d (.d (.d (.d (.t .z)))))))))))))))) ty4 rfl (fun _ => rfl) rfl)) ?_
            obtain ⟨hl1226, hm⟩ := limE hm
            refine Dr.step1 4 _ _ (by kernel_rfl) rfl rfl (by kernel_rfl) (Want.none rfl) (st_append (xs := x1149) (ys := e1219.Result.Names) rfl rfl rfl elt24 rfl zsz24 .z (Src.imm (.s .z)) hl1226) ?_ ?_
            · rintro _ _ ⟨a1227, c1228, rfl, rfl⟩
              exact (Again.new rfl (PureG.of (Want.none rfl) (pe_load rfl rfl (.s .z) .pt rfl (.d (.d (.d (.d (.d (.d (.d (.d (.d (.d (.d (.d (.d (.d (.d (.t .z)))))))))))))))) ty4 rfl (fun _ => rfl) rfl)) (Again.new rfl (PureG.of (Want.none rfl) (pe_fld rfl rfl fld26_7 ty4 rfl rfl)) (Again.new rfl (PureG.of (Want.none rfl) (pe_fld rfl rfl fld32_3 ty26 rfl rfl)) (Again.anc (by kernel_rfl) (Again.anc (by kernel_rfl) (Again.anc (by kernel_rfl) (Again.anc (by kernel_rfl) Again.nil)))))))
            rintro _ _ ⟨a1227, c1228, rfl, rfl⟩
            refine Dr.step1 8 _ _ (by kernel_rfl) rfl rfl (by kernel_rfl) (Want.none rfl) ((pe_assign rfl rfl).step) ?_ ?_
            · rintro _ _ ⟨rfl, rfl⟩
              exact (Again.new rfl (PureG.of (Want.none rfl) (pe_load rfl rfl (.s .z) .pt rfl (.d (.d (.d (.d (.d (.d (.d (.d (.d (.d (.d (.d (.d (.d (.d (.t .z)))))))))))))))) ty4 rfl (fun _ => rfl) rfl)) (Again.new rfl (PureG.of (Want.none rfl) (pe_fld rfl rfl fld26_7 ty4 rfl rfl)) (Again.new rfl (PureG.of (Want.none rfl) (pe_fld rfl rfl fld32_3 ty26 rfl rfl)) (Again.anc (by kernel_rfl) (Again.anc (by kernel_rfl) (Again.anc (by kernel_rfl) (Again.anc (by kernel_rfl) Again.nil)))))))
            rintro _ _ ⟨rfl, rfl⟩
            refine Dr.step1 9 _ _ (by kernel_rfl) rfl rfl (by kernel_rfl) (Want.none rfl) ((pe_assign rfl rfl).step) ?_ ?_
            · rintro _ _ ⟨rfl, rfl⟩
              exact (Again.anc (by kernel_rfl) (Again.anc (by kernel_rfl) (Again.anc (by kernel_rfl) (Again.anc (by kernel_rfl) (Again.anc (by kernel_rfl) (Again.anc (by kernel_rfl) (Again.anc (by kernel_rfl) Again.nil)))))))
            rintro _ _ ⟨rfl, rfl⟩
            refine Dr.done (by kernel_rfl) ?_
            refine To.keep (Keep.cons 5 rfl (Keep.cons 4 rfl (Keep.cons 1 rfl (Keep.cons 8 rfl (Keep.cons 9 rfl (Keep.cons 10 rfl Keep.nil)))))) ?_
            refine To.sel (.cons .z (.drop (.drop .all))) ?_
            refine To.bn ?_
            exact fun a w ha hw => ⟨(x1149 ++ e1219.Result.Names), e1219.Result.End, a1227, c1228, hm, ha.keep (Keep.cons 1 rfl (Keep.cons 4 rfl (Keep.cons 5 rfl (Keep.cons 8 rfl (Keep.cons 9 rfl (Keep.cons 10 rfl Keep.nil)))))), (Sel.imp (.cons .z (.dup .z inferInstance (.drop .all)))) w hw⟩
          · replace hm := ifF hc hm
            refine To.skip ?_
            refine To.bn ?_
            exact fun a w ha hw => ⟨x1149, x1152, a1150, c1151, hm, ha.keep (Keep.cons 1 rfl (Keep.cons 4 rfl (Keep.cons 5 rfl (Keep.cons 8 rfl (Keep.cons 9 rfl (Keep.cons 10 rfl Keep.nil)))))), (Sel.imp (.cons .z (.dup (.s (.s .z)) inferInstance (.drop (.drop (.drop .all)))))) w hw⟩
        · skip
          refine To.region (l := [0, 1, 2, 3, 4, 5, 6, 7, 8, 9, 10, 11, 12, 13, 14, 15, 16]) rfl ?_
          refine To.pure rfl (Want.none rfl) rfl rfl (pe_fld rfl rfl fld32_2 ty30 rfl rfl) ?_
          refine To.pure rfl (Want.none rfl) rfl rfl (pe_fld rfl rfl fld30_0 ty3 rfl rfl) ?_
          refine To.pure rfl (Want.none rfl) rfl rfl (pe_load rfl rfl .z .pt rfl (.d (.d (.t .z))) ty3 rfl (fun _ => rfl) rfl) ?_
          refine To.pure rfl (Want.none rfl) rfl rfl (pe_int rfl rfl rfl bi_eql) ?_
          refine To.pure rfl (Want.none rfl) rfl rfl (pe_move rfl rfl) ?_
          refine To.split 18 rfl (fun hc => ?_) (fun hc => ?_)
          · replace hm := ifT hc hm
            refine To.pure rfl (Want.of rfl rfl rfl rfl rfl rfl) rfl rfl (pe_fld rfl rfl fld32_2 ty30 rfl rfl) ?_
            refine To.pure rfl (Want.of rfl rfl rfl rfl rfl rfl) rfl rfl (pe_fld rfl rfl fld30_4 ty3 rfl rfl) ?_
            refine To.pure rfl (Want.of rfl rfl rfl rfl rfl rfl) rfl rfl (pe_load rfl rfl .z .pt rfl (.d (.d (.d (.d (.d (.d (.t .z))))))) ty3 rfl (fun _ => rfl) rfl) ?_
            refine To.pure rfl (Want.of rfl rfl rfl rfl rfl rfl) rfl rfl (pe_move rfl rfl) ?_
            refine To.pure rfl (Want.of rfl rfl rfl rfl rfl rfl) rfl rfl (pe_int rfl rfl rfl bi_eql) ?_
            refine To.pure rfl (Want.none rfl) rfl rfl (pe_pick rfl rfl rfl) ?_
            refine To.pure rfl (Want.none rfl) rfl rfl (pe_move rfl rfl) ?_
            refine To.split 25 rfl (fun hc => ?_) (fun hc => ?_)
            · replace hm := ifT hc hm
              refine To.pure rfl (Want.of rfl rfl rfl rfl rfl rfl) rfl rfl (pe_fld rfl rfl fld32_3 ty26 rfl rfl) ?_
              refine To.pure rfl (Want.of rfl rfl rfl rfl rfl rfl) rfl rfl (pe_fld rfl rfl fld26_0 ty23 rfl rfl) ?_
              refine To.pure rfl (Want.of rfl rfl rfl rfl rfl rfl) rfl rfl (pe_load rfl rfl .z .pt rfl (.d (.d (.d (.d (.d (.d (.d (.d (.t .z))))))))) ty23 rfl (fun _ => rfl) rfl) ?_
              refine To.pure rfl (Want.of rfl rfl rfl rfl rfl rfl) rfl rfl (pe_int rfl rfl rfl bi_eql) ?_
              refine To.pure rfl (Want.none rfl) rfl rfl (pe_pick rfl rfl rfl) ?_
              refine To.done ?_
              refine To.keep (Keep.cons 30 rfl (Keep.cons 7 rfl (Keep.cons 1 rfl (Keep.cons 4 rfl (Keep.cons 5 rfl (Keep.cons 8 rfl (Keep.cons 9 rfl (Keep.cons 10 rfl Keep.nil)))))))) ?_
              exact fun a w ha hw => ⟨(e1219.Result.Err == 0), hm, ha.keep (Keep.cons 1 rfl (Keep.cons 4 rfl (Keep.cons 5 rfl (Keep.cons 7 rfl (Keep.cons 8 rfl (Keep.cons 9 rfl (Keep.cons 10 rfl (Keep.cons 30 rfl Keep.nil)))))))), (Sel.imp (.cons (.s (.s .z)) (.cons .z (.dup .z inferInstance (.dup (.s .z) inferInstance (.drop (.drop .all))))))) w hw⟩
            · replace hm := ifF hc hm
              refine To.skipped rfl (Want.of rfl rfl rfl rfl rfl rfl) rfl rfl ?_
              refine To.skipped rfl (Want.of rfl rfl rfl rfl rfl rfl) rfl rfl ?_
              refine To.skipped rfl (Want.of rfl rfl rfl rfl rfl rfl) rfl rfl ?_
              refine To.skipped rfl (Want.of rfl rfl rfl rfl rfl rfl) rfl rfl ?_
              refine To.pure rfl (Want.none rfl) rfl rfl (pe_pick rfl rfl rfl) ?_
              refine To.done ?_
              refine To.keep (Keep.cons 30 rfl (Keep.cons 7 rfl (Keep.cons 1 rfl (Keep.cons 4 rfl (Keep.cons 5 rfl (Keep.cons 8 rfl (Keep.cons 9 rfl (Keep.cons 10 rfl Keep.nil)))))))) ?_
              exact fun a w ha hw => ⟨false, hm, ha.keep (Keep.cons 1 rfl (Keep.cons 4 rfl (Keep.cons 5 rfl (Keep.cons 7 rfl (Keep.cons 8 rfl (Keep.cons 9 rfl (Keep.cons 10 rfl (Keep.cons 30 rfl Keep.nil)))))))), (Sel.imp (.cons (.s (.s .z)) (.cons .z (.dup .z inferInstance (.dup (.s .z) inferInstance (.drop (.drop .all))))))) w hw⟩
          · replace hm := ifF hc hm
            refine To.skipped rfl (Want.of rfl rfl rfl rfl rfl rfl) rfl rfl ?_
            refine To.skipped rfl (Want.of rfl rfl rfl rfl rfl rfl) rfl rfl ?_
            refine To.skipped rfl (Want.of rfl rfl rfl rfl rfl rfl) rfl rfl ?_
            refine To.skipped rfl (Want.of rfl rfl rfl rfl rfl rfl) rfl rfl ?_
            refine To.skipped rfl (Want.of rfl rfl rfl rfl rfl rfl) rfl rfl ?_
            refine To.pure rfl (Want.none rfl) rfl rfl (pe_pick rfl rfl rfl) ?_
            refine To.pure rfl (Want.none rfl) rfl rfl (pe_move rfl rfl) ?_
            refine To.skipped rfl (Want.of rfl rfl rfl rfl rfl rfl) rfl rfl ?_
            refine To.skipped rfl (Want.of rfl rfl rfl rfl rfl rfl) rfl rfl ?_
            refine To.skipped rfl (Want.of rfl rfl rfl rfl rfl rfl) rfl rfl ?_
            refine To.skipped rfl (Want.of rfl rfl rfl rfl rfl rfl) rfl rfl ?_
            refine To.pure rfl (Want.none rfl) rfl rfl (pe_pick rfl rfl rfl) ?_
            refine To.done ?_
            refine To.keep (Keep.cons 30 rfl (Keep.cons 7 rfl (Keep.cons 1 rfl (Keep.cons 4 rfl (Keep.cons 5 rfl (Keep.cons 8 rfl (Keep.cons 9 rfl (Keep.cons 10 rfl Keep.nil)))))))) ?_
            exact fun a w ha hw => ⟨false, hm, ha.keep (Keep.cons 1 rfl (Keep.cons 4 rfl (Keep.cons 5 rfl (Keep.cons 7 rfl (Keep.cons 8 rfl (Keep.cons 9 rfl (Keep.cons 10 rfl (Keep.cons 30 rfl Keep.nil)))))))), (Sel.imp (.cons (.s (.s .z)) (.cons .z (.dup .z inferInstance (.dup (.s .z) inferInstance (.drop (.drop .all))))))) w hw⟩
    · replace hm := ifF hc hm
      refine To.exit ?_
      refine To.tx ?_
      refine To.tx ?_
      refine To.bx ?_
      refine To.nx ?_
      refine To.seq ?_
      refine To.region (l := [0, 1, 2, 3]) rfl ?_
      refine To.pure rfl (Want.none rfl) rfl rfl (pe_move rfl rfl) ?_
      refine To.pure rfl (Want.none rfl) rfl rfl (pe_move rfl rfl) ?_
      refine To.pure rfl (Want.none rfl) rfl rfl (pe_assign rfl rfl) ?_
      refine To.pure rfl (Want.none rfl) rfl rfl (pe_assign rfl rfl) ?_
      refine To.done ?_
      refine To.keep (Keep.cons 5 rfl (Keep.cons 4 rfl Keep.nil)) ?_
      refine To.sel (.cons .z (.drop .all)) ?_
      refine To.nx ?_
      refine To.ret ?_
      cases hm
      exact To.back rfl (.tmp rfl (.tmp rfl .nil)) rfl ⟨a1150, c1151, rfl, rfl⟩ (.cons .z .all)
  · skip
    refine To.imp (Imp.own_nil (k := kStr)) ?_
    exact fun a w ha hw => ⟨[], false, 0, none, 0, hm, ha.keep (Keep.cons 1 rfl (Keep.cons 4 rfl (Keep.cons 5 rfl (Keep.cons 8 rfl (Keep.cons 9 rfl (Keep.cons 10 rfl Keep.nil)))))), (Sel.imp (.cons .z (.dup .z inferInstance (.drop .all)))) w hw⟩
end Go.Proofs.M

set_option linter.unusedVariables false
set_option maxRecDepth 10000
namespace Go.Proofs.M
open Go Go.WG
/-- socage/socagelaw24.TalePages -/
def law24_TalePages.j2 (rec1233 : (List Str) → Bool → Int → Option Bool) (x1185 : Int) (x1254 : List Str) (x1257 : Bool) : Option Bool := (rec1233 x1254 x1257 (IntKind.i64.wrap (x1185 + 1)))
def law24_TalePages.j3 (x1181 : List Str) (e1258 : T_sched_Record) (rec1233 : (List Str) → Bool → Int → Option Bool) (x1185 : Int) (x1184 : Bool) (x1264 : Bool) : Option Bool := (if x1264 = true then (lim (x1181.length + e1258.Result.Names.length ≤ BIG) ((law24_TalePages.j2 rec1233 x1185 (x1181 ++ e1258.Result.Names) e1258.Result.End))) else (law24_TalePages.j2 rec1233 x1185 x1181 x1184))
def law24_TalePages.j4 (x1273 : Bool) : Option Bool := (some x1273)
def law24_TalePages.l1 (p1 : List T_sched_Record) (p4 : Int) : Nat → (List Str) → Bool → Int → Option Bool
  | 0, _, _, _ => none
  | k1232 + 1, x1181, x1184, x1185 => (if (decide (x1185 < (p1.length : Int))) = true then ((ix p1 x1185).bind fun e1258 => (if (e1258.Op.Kind == 6) = true then (if (e1258.Op.ID == p4) = true then (law24_TalePages.j3 x1181 e1258 (law24_TalePages.l1 p1 p4 k1232) x1185 x1184 (e1258.Result.Err == 0)) else (law24_TalePages.j3 x1181 e1258 (law24_TalePages.l1 p1 p4 k1232) x1185 x1184 false)) else (law24_TalePages.j3 x1181 e1258 (law24_TalePages.l1 p1 p4 k1232) x1185 x1184 false))) else ((tale_Pages.f k1232 p1 p4).bind fun y1268 => ((ref01_Same.f k1232 y1268.1 x1181).bind fun y1274 => (if y1274 = true then (law24_TalePages.j4 (y1268.2 == x1184)) else (law24_TalePages.j4 false)))))
def law24_TalePages.f (k : Nat) (p1 : List T_sched_Record) (p4 : Int) : Option Bool := ((law24_speaks.f 64).bind fun y1138 => (if (!y1138) = true then (some false) else ((law24_may.f k p1).bind fun y1139 => (if (!y1139) = true then (some true) else (law24_TalePages.l1 p1 p4 k [] false 0)))))
theorem law24_TalePages.tri (k : Nat) {r : Bool} {p1 : List T_sched_Record} {p4 : Int} (hm : law24_TalePages.f k p1 p4 = some r) (a2 : Option Addr) (c3 : Nat) :
    Tri Tryz.prog 4 [.slice a2 p1.length c3, .int .i64 p4] [imm k_sched_Record a2 c3 p1] (fun v H' => v = .bool r ∧ H' = []) := by
  refine Tri.intro1 Tryz.func4 rfl rfl rfl (fun F => ?_)
  unfold law24_TalePages.f at hm
  refine To.seq ?_
  refine To.region (l := [0]) rfl ?_
  refine To.pure rfl (Want.none rfl) rfl rfl (pe_assign rfl rfl) ?_
  refine To.done ?_
  refine To.keep (Keep.cons 0 rfl (Keep.cons 1 rfl Keep.nil)) ?_
  refine To.nx ?_
  refine To.seq ?_
  refine To.seq ?_
  refine To.region (l := [0, 1]) rfl ?_
  obtain ⟨y1138, h_y1138, hm⟩ := bindE hm
  refine To.step rfl (Want.none rfl) rfl rfl (st_call (law24_speaks.tri 64 h_y1138) rfl rfl fun5 .all) ?_
  rintro _ _ ⟨_, ⟨rfl, rfl⟩, rfl⟩
  refine To.app0 ?_
  refine To.pure rfl (Want.none rfl) rfl rfl (pe_not rfl rfl) ?_
  refine To.done ?_
  refine To.keep (Keep.cons 12 rfl (Keep.cons 0 rfl (Keep.cons 1 rfl Keep.nil))) ?_
  refine To.nx ?_
  refine To.cond rfl (fun hc => ?_) (fun hc => ?_)
  · replace hm := ifT hc hm
    refine To.seq ?_
    refine To.region (l := [0]) rfl ?_
    refine To.pure rfl (Want.none rfl) rfl rfl (pe_assign rfl rfl) ?_
    refine To.done ?_
    refine To.keep (Keep.cons 4 rfl Keep.nil) ?_
    refine To.sel (.drop .all) ?_
    refine To.nx ?_
    refine To.ret ?_
    refine To.tr ?_
    cases hm
    exact To.back rfl (.tmp rfl .nil) rfl ⟨rfl, rfl⟩ .all
  · replace hm := ifF hc hm
    refine To.skip ?_
    refine To.nx ?_
    refine To.seq ?_
    refine To.seq ?_
    refine To.region (l := [0, 1, 2]) rfl ?_
    refine To.pure rfl (Want.none rfl) rfl rfl (pe_move rfl rfl) ?_
    obtain ⟨y1139, h_y1139, hm⟩ := bindE hm
    refine To.step rfl (Want.none rfl) rfl rfl (st_call (law24_may.tri k h_y1139 a2 c3) rfl rfl fun6 (.dup .z inferInstance .all)) ?_
    rintro _ _ ⟨_, ⟨rfl, rfl⟩, rfl⟩
    refine To.app0 ?_
    refine To.pure rfl (Want.none rfl) rfl rfl (pe_not rfl rfl) ?_
    refine To.done ?_
    refine To.keep (Keep.cons 15 rfl (Keep.cons 0 rfl (Keep.cons 1 rfl Keep.nil))) ?_
    refine To.nx ?_
    refine To.cond rfl (fun hc => ?_) (fun hc => ?_)
    · replace hm := ifT hc hm
      refine To.seq ?_
      refine To.region (l := [0]) rfl ?_
      refine To.pure rfl (Want.none rfl) rfl rfl (pe_assign rfl rfl) ?_
      refine To.done ?_
      refine To.keep (Keep.cons 4 rfl Keep.nil) ?_
      refine To.sel (.drop .all) ?_
      refine To.nx ?_
      refine To.ret ?_
      refine To.tr ?_
      cases hm
      exact To.back rfl (.tmp rfl .nil) rfl ⟨rfl, rfl⟩ .all
    · replace hm := ifF hc hm
      refine To.skip ?_
      refine To.nx ?_
      refine To.seq ?_
      refine To.region (l := [0]) rfl ?_
      refine To.pure rfl (Want.none rfl) rfl rfl (pe_assign rfl rfl) ?_
      refine To.done ?_
      refine To.keep (Keep.cons 5 rfl (Keep.cons 0 rfl (Keep.cons 1 rfl Keep.nil))) ?_
      refine To.nx ?_
      refine To.seq ?_
      refine To.region (l := [0]) rfl ?_
      refine To.pure rfl (Want.none rfl) rfl rfl (pe_assign rfl rfl) ?_
      refine To.done ?_
      refine To.keep (Keep.cons 6 rfl (Keep.cons 5 rfl (Keep.cons 0 rfl (Keep.cons 1 rfl Keep.nil)))) ?_
      refine To.nx ?_
      refine To.seq ?_
      refine To.seq ?_
      refine To.region (l := [0, 1, 2]) rfl ?_
      refine To.pure rfl (Want.none rfl) rfl rfl (pe_move rfl rfl) ?_
      refine To.pure rfl (Want.none rfl) rfl rfl (pe_len rfl rfl Tryz.underlying22) ?_
      refine To.pure rfl (Want.none rfl) rfl rfl (pe_move rfl rfl) ?_
      refine To.done ?_
      refine To.keep (Keep.cons 18 rfl (Keep.cons 17 rfl (Keep.cons 16 rfl (Keep.cons 6 rfl (Keep.cons 5 rfl (Keep.cons 0 rfl (Keep.cons 1 rfl Keep.nil))))))) ?_
      refine To.nx ?_
      refine To.block ?_
      refine To.loop (fun kk a w => ∃ (x1181 : List Str), ∃ (x1184 : Bool), ∃ (x1185 : Int), ∃ (a1182 : Option Addr), ∃ (c1183 : Nat), law24_TalePages.l1 p1 p4 kk x1181 x1184 x1185 = some r ∧ Knows 62 a [(0, .slice a2 p1.length c3), (1, .int .i64 p4), (5, .slice a1182 x1181.length c1183), (6, .bool x1184), (16, .slice a2 p1.length c3), (17, .int .i64 (p1.length : Int)), (18, .int .i64 x1185)] ∧ Holds w (imm k_sched_Record a2 c3 p1 :: own kStr a1182 c1183 x1181 :: F)) ?_ ?_ k ?_
      · rintro a w ⟨_, _, _, _, _, hm, _, _⟩; rw [law24_TalePages.l1] at hm; cases hm
      · rintro k1232 a w ⟨x1181, x1184, x1185, a1182, c1183, hm, ha, hw⟩
        refine To.at ha hw ?_
        clear ha hw a w
        rw [law24_TalePages.l1] at hm
        refine To.seq ?_
        refine To.region (l := [0]) rfl ?_
        refine To.pure rfl (Want.none rfl) rfl rfl (pe_int rfl rfl rfl bi_lss) ?_
        refine To.done ?_
        refine To.keep (Keep.cons 19 rfl (Keep.cons 0 rfl (Keep.cons 1 rfl (Keep.cons 5 rfl (Keep.cons 6 rfl (Keep.cons 16 rfl (Keep.cons 17 rfl (Keep.cons 18 rfl Keep.nil)))))))) ?_
        refine To.nx ?_
        refine To.seq ?_
        refine To.cond rfl (fun hc => ?_) (fun hc => ?_)
        · replace hm := ifT hc hm
          refine To.skip ?_
          refine To.nx ?_
          refine To.cut (fun a w => ∃ (x1254 : List Str), ∃ (x1257 : Bool), ∃ (a1255 : Option Addr), ∃ (c1256 : Nat), law24_TalePages.j2 (law24_TalePages.l1 p1 p4 k1232) x1185 x1254 x1257 = some r ∧ Knows 62 a [(0, .slice a2 p1.length c3), (1, .int .i64 p4), (5, .slice a1255 x1254.length c1256), (6, .bool x1257), (16, .slice a2 p1.length c3), (17, .int .i64 (p1.length : Int)), (18, .int .i64 x1185)] ∧ Holds w (imm k_sched_Record a2 c3 p1 :: own kStr a1255 c1256 x1254 :: F)) ?_ ?_
          · rintro a w ⟨x1254, x1257, a1255, c1256, hm, ha, hw⟩
            refine To.at ha hw ?_
            clear ha hw a w
            unfold law24_TalePages.j2 at hm
            refine To.region (l := [0, 1]) rfl ?_
            refine To.pure rfl (Want.none rfl) rfl rfl (pe_int rfl rfl rfl bi_add) ?_
            refine To.pure rfl (Want.none rfl) rfl rfl (pe_move rfl rfl) ?_
            refine To.done ?_
            refine To.keep (Keep.cons 18 rfl (Keep.cons 0 rfl (Keep.cons 1 rfl (Keep.cons 5 rfl (Keep.cons 6 rfl (Keep.cons 16 rfl (Keep.cons 17 rfl Keep.nil))))))) ?_
            exact fun a w ha hw => ⟨x1254, x1257, IntKind.i64.wrap (x1185 + 1), a1255, c1256, hm, ha.keep (Keep.cons 0 rfl (Keep.cons 1 rfl (Keep.cons 5 rfl (Keep.cons 6 rfl (Keep.cons 16 rfl (Keep.cons 17 rfl (Keep.cons 18 rfl Keep.nil))))))), (Sel.imp (.dup .z inferInstance (.cons (.s .z) (.drop .all)))) w hw⟩
          · skip
            refine To.block ?_
            refine To.seq ?_
            refine To.region (l := [0, 1, 2, 3]) rfl ?_
            obtain ⟨e1258, h_e1258, hm⟩ := bindE hm
            obtain ⟨h0_e1258, hl_e1258, hx_e1258⟩ := ixE h_e1258
            refine To.el_sched_Record (i := (x1185 : Int).toNat) .z hx_e1258 ?_
            rintro b1261 r1262 a1259 c1260 e; cases e
            refine To.pure rfl (Want.none rfl) rfl rfl (pe_idx rfl rfl rfl Tryz.underlying22 ty32 h0_e1258 hl_e1258 rfl) ?_
            refine To.pure rfl (Want.none rfl) rfl rfl (pe_load rfl rfl (.s .z) .ro rfl (.t (.t (.t (.t (.t (.t (.t (.t (.t (.t (.t (.t (.t (.t (.t (.t (.t (.t (.t .z))))))))))))))))))) ty32 rfl nofun rfl) ?_
            refine To.step rfl (Want.none rfl) rfl rfl (st_alloc rfl zero32) ?_
            rintro _ _ ⟨b1263, rfl, rfl⟩
            refine To.step0 rfl (Want.none rfl) rfl (st_store rfl rfl rfl rfl .z rfl (.t (.t (.t (.t (.t (.t (.t (.t (.t (.t (.t (.t (.t (.t (.t (.t (.t (.t (.t .z))))))))))))))))))) ty32 rfl rfl) ?_
            rintro _ _ rfl
            refine To.done ?_
            refine To.keep (Keep.cons 8 rfl (Keep.cons 0 rfl (Keep.cons 1 rfl (Keep.cons 5 rfl (Keep.cons 6 rfl (Keep.cons 16 rfl (Keep.cons 17 rfl (Keep.cons 18 rfl Keep.nil)))))))) ?_
            refine To.sel (.cons .z (.cons .z (.drop .all))) ?_
            refine To.nx ?_
            refine To.cut (fun a w => ∃ (x1264 : Bool), law24_TalePages.j3 x1181 e1258 (law24_TalePages.l1 p1 p4 k1232) x1185 x1184 x1264 = some r ∧ Knows 62 a [(0, .slice (some ⟨b1261, r1262, none⟩) p1.length c3), (1, .int .i64 p4), (5, .slice a1182 x1181.length c1183), (6, .bool x1184), (8, .pointer (some ⟨b1263, 0, none⟩)), (16, .slice (some ⟨b1261, r1262, none⟩) p1.length c3), (17, .int .i64 (p1.length : Int)), (18, .int .i64 x1185), (38, .bool x1264)] ∧ Holds w (imm k_sched_Record (some ⟨b1261, r1262, none⟩) c3 p1 :: own kStr a1182 c1183 x1181 :: pt b1263 0 [.int .i64 e1258.Client, .int .i64 e1258.Index, .int .i64 e1258.Op.Kind, .string (S e1258.Op.Path), .int .i64 e1258.Op.Off, .int .i64 e1258.Op.N, .int .i64 e1258.Op.ID, .string (S e1258.Op.Image), .int .i64 e1258.Result.Err, .int .i64 e1258.Result.Kind, .int .i64 e1258.Result.Size, .int .i64 e1258.Result.Where, .int .i64 e1258.Result.ID, .string (S e1258.Result.Text), .slice a1259 e1258.Result.Names.length c1260, .bool e1258.Result.End, .int .i64 e1258.Call, .int .i64 e1258.Mark, .int .i64 e1258.Return] :: imm kStr a1259 c1260 e1258.Result.Names :: F)) ?_ ?_
            · rintro a w ⟨x1264, hm, ha, hw⟩
              refine To.at ha hw ?_
              clear ha hw a w
              unfold law24_TalePages.j3 at hm
              refine To.cond rfl (fun hc => ?_) (fun hc => ?_)
              · replace hm := ifT hc hm
                refine To.draws [0, 0, 2, 6, 15, 0, 32, 96, 31, 511] mixed (by kernel_rfl) (by kernel_rfl) ?_
                refine Dr.pure 0 39 _ _ rfl rfl rfl rfl rfl rfl (by kernel_rfl) (PureG.of (Want.none rfl) (pe_move rfl rfl)) ?_
                refine Dr.pure 1 40 _ _ rfl rfl rfl rfl rfl rfl (by kernel_rfl) (PureG.of (Want.none rfl) (pe_fld rfl rfl fld32_3 ty26 rfl rfl)) ?_
                refine Dr.pure 2 41 _ _ rfl rfl rfl rfl rfl rfl (by kernel_rfl) (PureG.of (Want.none rfl) (pe_fld rfl rfl fld26_6 ty24 rfl rfl)) ?_
                refine Dr.pure 3 42 _ _ rfl rfl rfl rfl rfl rfl (by kernel_rfl) (PureG.of (Want.none rfl) (pe_load rfl rfl (.s (.s .z)) .pt rfl (.d (.d (.d (.d (.d (.d (.d (.d (.d (.d (.d (.d (.d (.d (.t .z))))))))))))))) ty24 rfl (fun _ => rfl) rfl)) ?_
                refine Dr.pure 5 44 _ _ rfl rfl rfl rfl rfl rfl (by kernel_rfl) (PureG.of (Want.none rfl) (pe_fld rfl rfl fld32_3 ty26 rfl rfl)) ?_
                refine Dr.pure 6 45 _ _ rfl rfl rfl rfl rfl rfl (by kernel_rfl) (PureG.of (Want.none rfl) (pe_fld rfl rfl fld26_7 ty4 rfl rfl)) ?_
                refine Dr.pure 7 46 _ _ rfl rfl rfl rfl rfl rfl (by kernel_rfl) (PureG.of (Want.none rfl) (pe_load rfl rfl (.s (.s .z)) .pt rfl (.d (.d (.d (.d (.d (.d (.d (.d (.d (.d (.d (.d (.d (.d (.d (.t .z)))))))))))))))) ty4 rfl (fun _ => rfl) rfl)) ?_
                obtain ⟨hl1265, hm⟩ := limE hm
                refine Dr.step1 4 _ _ (by kernel_rfl) rfl rfl (by kernel_rfl) (Want.none rfl) (st_append (xs := x1181) (ys := e1258.Result.Names) rfl rfl rfl elt24 rfl zsz24 (.s .z) (Src.imm (.s (.s .z))) hl1265) ?_ ?_
                · rintro _ _ ⟨a1266, c1267, rfl, rfl⟩
                  exact (Again.new rfl (PureG.of (Want.none rfl) (pe_load rfl rfl (.s (.s .z)) .pt rfl (.d (.d (.d (.d (.d (.d (.d (.d (.d (.d (.d (.d (.d (.d (.d (.t .z)))))))))))))))) ty4 rfl (fun _ => rfl) rfl)) (Again.new rfl (PureG.of (Want.none rfl) (pe_fld rfl rfl fld26_7 ty4 rfl rfl)) (Again.new rfl (PureG.of (Want.none rfl) (pe_fld rfl rfl fld32_3 ty26 rfl rfl)) (Again.anc (by kernel_rfl) (Again.anc (by kernel_rfl) (Again.anc (by kernel_rfl) (Again.anc (by kernel_rfl) Again.nil)))))))
                rintro _ _ ⟨a1266, c1267, rfl, rfl⟩
                refine Dr.step1 8 _ _ (by kernel_rfl) rfl rfl (by kernel_rfl) (Want.none rfl) ((pe_assign rfl rfl).step) ?_ ?_
                · rintro _ _ ⟨rfl, rfl⟩
                  exact (Again.new rfl (PureG.of (Want.none rfl) (pe_load rfl rfl (.s (.s .z)) .pt rfl (.d (.d (.d (.d (.d (.d (.d (.d (.d (.d (.d (.d (.d (.d (.d (.t .z)))))))))))))))) ty4 rfl (fun _ => rfl) rfl)) (Again.new rfl (PureG.of (Want.none rfl) (pe_fld rfl rfl fld26_7 ty4 rfl rfl)) (Again.new rfl (PureG.of (Want.none rfl) (pe_fld rfl rfl fld32_3 ty26 rfl rfl)) (Again.anc (by kernel_rfl) (Again.anc (by kernel_rfl) (Again.anc (by kernel_rfl) (Again.anc (by kernel_rfl) Again.nil)))))))
                rintro _ _ ⟨rfl, rfl⟩
                refine Dr.step1 9 _ _ (by kernel_rfl) rfl rfl (by kernel_rfl) (Want.none rfl) ((pe_assign rfl rfl).step) ?_ ?_
                · rintro _ _ ⟨rfl, rfl⟩
                  exact (Again.anc (by kernel_rfl) (Again.anc (by kernel_rfl) (Again.anc (by kernel_rfl) (Again.anc (by kernel_rfl) (Again.anc (by kernel_rfl) (Again.anc (by kernel_rfl) (Again.anc (by kernel_rfl) Again.nil)))))))
                rintro _ _ ⟨rfl, rfl⟩
                refine Dr.done (by kernel_rfl) ?_
                refine To.keep (Keep.cons 6 rfl (Keep.cons 5 rfl (Keep.cons 0 rfl (Keep.cons 1 rfl (Keep.cons 16 rfl (Keep.cons 17 rfl (Keep.cons 18 rfl Keep.nil))))))) ?_
                refine To.sel (.cons .z (.cons .z (.drop (.drop .all)))) ?_
                refine To.bn ?_
                exact fun a w ha hw => ⟨(x1181 ++ e1258.Result.Names), e1258.Result.End, a1266, c1267, hm, ha.keep (Keep.cons 0 rfl (Keep.cons 1 rfl (Keep.cons 5 rfl (Keep.cons 6 rfl (Keep.cons 16 rfl (Keep.cons 17 rfl (Keep.cons 18 rfl Keep.nil))))))), (Sel.imp (.dup (.s .z) inferInstance (.cons .z (.drop .all)))) w hw⟩
              · replace hm := ifF hc hm
                refine To.skip ?_
                refine To.bn ?_
                exact fun a w ha hw => ⟨x1181, x1184, a1182, c1183, hm, ha.keep (Keep.cons 0 rfl (Keep.cons 1 rfl (Keep.cons 5 rfl (Keep.cons 6 rfl (Keep.cons 16 rfl (Keep.cons 17 rfl (Keep.cons 18 rfl Keep.nil))))))), (Sel.imp (.dup .z inferInstance (.cons (.s .z) (.drop (.drop (.drop .all)))))) w hw⟩
            · skip
              refine To.region (l := [0, 1, 2, 3, 4, 5, 6, 7, 8, 9, 10, 11, 12, 13, 14, 15, 16]) rfl ?_
              refine To.pure rfl (Want.none rfl) rfl rfl (pe_fld rfl rfl fld32_2 ty30 rfl rfl) ?_
              refine To.pure rfl (Want.none rfl) rfl rfl (pe_fld rfl rfl fld30_0 ty3 rfl rfl) ?_
              refine To.pure rfl (Want.none rfl) rfl rfl (pe_load rfl rfl .z .pt rfl (.d (.d (.t .z))) ty3 rfl (fun _ => rfl) rfl) ?_
              refine To.pure rfl (Want.none rfl) rfl rfl (pe_int rfl rfl rfl bi_eql) ?_
              refine To.pure rfl (Want.none rfl) rfl rfl (pe_move rfl rfl) ?_
              refine To.split 26 rfl (fun hc => ?_) (fun hc => ?_)
              · replace hm := ifT hc hm
                refine To.pure rfl (Want.of rfl rfl rfl rfl rfl rfl) rfl rfl (pe_fld rfl rfl fld32_2 ty30 rfl rfl) ?_
                refine To.pure rfl (Want.of rfl rfl rfl rfl rfl rfl) rfl rfl (pe_fld rfl rfl fld30_4 ty3 rfl rfl) ?_
                refine To.pure rfl (Want.of rfl rfl rfl rfl rfl rfl) rfl rfl (pe_load rfl rfl .z .pt rfl (.d (.d (.d (.d (.d (.d (.t .z))))))) ty3 rfl (fun _ => rfl) rfl) ?_
                refine To.pure rfl (Want.of rfl rfl rfl rfl rfl rfl) rfl rfl (pe_move rfl rfl) ?_
                refine To.pure rfl (Want.of rfl rfl rfl rfl rfl rfl) rfl rfl (pe_int rfl rfl rfl bi_eql) ?_
                refine To.pure rfl (Want.none rfl) rfl rfl (pe_pick rfl rfl rfl) ?_
                refine To.pure rfl (Want.none rfl) rfl rfl (pe_move rfl rfl) ?_
                refine To.split 33 rfl (fun hc => ?_) (fun hc => ?_)
                · replace hm := ifT hc hm
                  refine To.pure rfl (Want.of rfl rfl rfl rfl rfl rfl) rfl rfl (pe_fld rfl rfl fld32_3 ty26 rfl rfl) ?_
                  refine To.pure rfl (Want.of rfl rfl rfl rfl rfl rfl) rfl rfl (pe_fld rfl rfl fld26_0 ty23 rfl rfl) ?_
                  refine To.pure rfl (Want.of rfl rfl rfl rfl rfl rfl) rfl rfl (pe_load rfl rfl .z .pt rfl (.d (.d (.d (.d (.d (.d (.d (.d (.t .z))))))))) ty23 rfl (fun _ => rfl) rfl) ?_
                  refine To.pure rfl (Want.of rfl rfl rfl rfl rfl rfl) rfl rfl (pe_int rfl rfl rfl bi_eql) ?_
                  refine To.pure rfl (Want.none rfl) rfl rfl (pe_pick rfl rfl rfl) ?_
                  refine To.done ?_
                  refine To.keep (Keep.cons 38 rfl (Keep.cons 8 rfl (Keep.cons 0 rfl (Keep.cons 1 rfl (Keep.cons 5 rfl (Keep.cons 6 rfl (Keep.cons 16 rfl (Keep.cons 17 rfl (Keep.cons 18 rfl Keep.nil))))))))) ?_
                  exact fun a w ha hw => ⟨(e1258.Result.Err == 0), hm, ha.keep (Keep.cons 0 rfl (Keep.cons 1 rfl (Keep.cons 5 rfl (Keep.cons 6 rfl (Keep.cons 8 rfl (Keep.cons 16 rfl (Keep.cons 17 rfl (Keep.cons 18 rfl (Keep.cons 38 rfl Keep.nil))))))))), (Sel.imp (.dup (.s (.s .z)) inferInstance (.cons (.s (.s (.s .z))) (.cons .z (.dup .z inferInstance (.drop (.drop .all))))))) w hw⟩
                · replace hm := ifF hc hm
                  refine To.skipped rfl (Want.of rfl rfl rfl rfl rfl rfl) rfl rfl ?_
                  refine To.skipped rfl (Want.of rfl rfl rfl rfl rfl rfl) rfl rfl ?_
                  refine To.skipped rfl (Want.of rfl rfl rfl rfl rfl rfl) rfl rfl ?_
                  refine To.skipped rfl (Want.of rfl rfl rfl rfl rfl rfl) rfl rfl ?_
                  refine To.pure rfl (Want.none rfl) rfl rfl (pe_pick rfl rfl rfl) ?_
                  refine To.done ?_
                  refine To.keep (Keep.cons 38 rfl (Keep.cons 8 rfl (Keep.cons 0 rfl (Keep.cons 1 rfl (Keep.cons 5 rfl (Keep.cons 6 rfl (Keep.cons 16 rfl (Keep.cons 17 rfl (Keep.cons 18 rfl Keep.nil))))))))) ?_
                  exact fun a w ha hw => ⟨false, hm, ha.keep (Keep.cons 0 rfl (Keep.cons 1 rfl (Keep.cons 5 rfl (Keep.cons 6 rfl (Keep.cons 8 rfl (Keep.cons 16 rfl (Keep.cons 17 rfl (Keep.cons 18 rfl (Keep.cons 38 rfl Keep.nil))))))))), (Sel.imp (.dup (.s (.s .z)) inferInstance (.cons (.s (.s (.s .z))) (.cons .z (.dup .z inferInstance (.drop (.drop .all))))))) w hw⟩
              · replace hm := ifF hc hm
                refine To.skipped rfl (Want.of rfl rfl rfl rfl rfl rfl) rfl rfl ?_
                refine To.skipped rfl (Want.of rfl rfl rfl rfl rfl rfl) rfl rfl ?_
                refine To.skipped rfl (Want.of rfl rfl rfl rfl rfl rfl) rfl rfl ?_
                refine To.skipped rfl (Want.of rfl rfl rfl rfl rfl rfl) rfl rfl ?_
                refine To.skipped rfl (Want.of rfl rfl rfl rfl rfl rfl) rfl rfl ?_
                refine To.pure rfl (Want.none rfl) rfl rfl (pe_pick rfl rfl rfl) ?_
                refine To.pure rfl (Want.none rfl) rfl rfl (pe_move rfl rfl) ?_
                refine To.skipped rfl (Want.of rfl rfl rfl rfl rfl rfl) rfl rfl ?_
                refine To.skipped rfl (Want.of rfl rfl rfl rfl rfl rfl) rfl rfl ?_
                refine To.skipped rfl (Want.of rfl rfl rfl rfl rfl rfl) rfl rfl ?_
                refine To.skipped rfl (Want.of rfl rfl rfl rfl rfl rfl) rfl rfl ?_
                refine To.pure rfl (Want.none rfl) rfl rfl (pe_pick rfl rfl rfl) ?_
                refine To.done ?_
                refine To.keep (Keep.cons 38 rfl (Keep.cons 8 rfl (Keep.cons 0 rfl (Keep.cons 1 rfl (Keep.cons 5 rfl (Keep.cons 6 rfl (Keep.cons 16 rfl (Keep.cons 17 rfl (Keep.cons 18 rfl Keep.nil))))))))) ?_
                exact fun a w ha hw => ⟨false, hm, ha.keep (Keep.cons 0 rfl (Keep.cons 1 rfl (Keep.cons 5 rfl (Keep.cons 6 rfl (Keep.cons 8 rfl (Keep.cons 16 rfl (Keep.cons 17 rfl (Keep.cons 18 rfl (Keep.cons 38 rfl Keep.nil))))))))), (Sel.imp (.dup (.s (.s .z)) inferInstance (.cons (.s (.s (.s .z))) (.cons .z (.dup .z inferInstance (.drop (.drop .all))))))) w hw⟩
        · replace hm := ifF hc hm
          refine To.exit ?_
          refine To.tx ?_
          refine To.tx ?_
          refine To.bx ?_
          refine To.nx ?_
          refine To.seq ?_
          refine To.region (l := [0, 1, 2, 3, 4, 5, 6, 7]) rfl ?_
          refine To.pure rfl (Want.none rfl) rfl rfl (pe_move rfl rfl) ?_
          refine To.pure rfl (Want.none rfl) rfl rfl (pe_move rfl rfl) ?_
          obtain ⟨y1268, h_y1268, hm⟩ := bindE hm
          refine To.step rfl (Want.none rfl) rfl rfl (st_call (tale_Pages.tri k1232 h_y1268 a2 c3) rfl rfl fun11 (.dup .z inferInstance .all)) ?_
          rintro _ _ ⟨_, ⟨a1269, c1270, rfl, rfl⟩, rfl⟩
          refine To.app1 ?_
          refine To.pure rfl (Want.none rfl) rfl rfl (pe_move rfl rfl) ?_
          refine To.pure rfl (Want.none rfl) rfl rfl (pe_extract rfl rfl rfl) ?_
          refine To.pure rfl (Want.none rfl) rfl rfl (pe_extract rfl rfl rfl) ?_
          refine To.pure rfl (Want.none rfl) rfl rfl (pe_assign rfl rfl) ?_
          refine To.pure rfl (Want.none rfl) rfl rfl (pe_assign rfl rfl) ?_
          refine To.done ?_
          refine To.keep (Keep.cons 10 rfl (Keep.cons 9 rfl (Keep.cons 5 rfl (Keep.cons 6 rfl Keep.nil)))) ?_
          refine To.sel (.cons .z (.drop .all)) ?_
          refine To.nx ?_
          refine To.cut (fun a w => ∃ (x1273 : Bool), law24_TalePages.j4 x1273 = some r ∧ Knows 62 a [(4, .bool x1273)] ∧ Holds w (F)) ?_ ?_
          · rintro a w ⟨x1273, hm, ha, hw⟩
            refine To.at ha hw ?_
            clear ha hw a w
            unfold law24_TalePages.j4 at hm
            refine To.ret ?_
            cases hm
            exact To.back rfl (.tmp rfl .nil) rfl ⟨rfl, rfl⟩ .all
          · skip
            refine To.region (l := [0, 1, 2, 3, 4, 5, 6, 7, 8]) rfl ?_
            refine To.pure rfl (Want.none rfl) rfl rfl (pe_move rfl rfl) ?_
            refine To.pure rfl (Want.none rfl) rfl rfl (pe_move rfl rfl) ?_
            refine To.pull .z (To.imp Imp.freeze ?_)
            refine To.pull (.s .z) (To.imp Imp.freeze ?_)
            obtain ⟨y1274, h_y1274, hm⟩ := bindE hm
            refine To.step rfl (Want.none rfl) rfl rfl (st_call (ref01_Same.tri k1232 h_y1274 a1269 c1270 a1182 c1183) rfl rfl fun12 (.dup (.s .z) inferInstance (.dup .z inferInstance .all))) ?_
            rintro _ _ ⟨_, ⟨rfl, rfl⟩, rfl⟩
            refine To.app0 ?_
            refine To.pure rfl (Want.none rfl) rfl rfl (pe_move rfl rfl) ?_
            refine To.split 57 rfl (fun hc => ?_) (fun hc => ?_)
            · replace hm := ifT hc hm
              refine To.pure rfl (Want.of rfl rfl rfl rfl rfl rfl) rfl rfl (pe_move rfl rfl) ?_
              refine To.pure rfl (Want.of rfl rfl rfl rfl rfl rfl) rfl rfl (pe_move rfl rfl) ?_
              refine To.pure rfl (Want.of rfl rfl rfl rfl rfl rfl) rfl rfl (pe_beql rfl rfl rfl Tryz.underlying4) ?_
              refine To.pure rfl (Want.none rfl) rfl rfl (pe_pick rfl rfl rfl) ?_
              refine To.pure rfl (Want.none rfl) rfl rfl (pe_assign rfl rfl) ?_
              refine To.done ?_
              refine To.keep (Keep.cons 4 rfl Keep.nil) ?_
              refine To.sel (.drop (.drop .all)) ?_
              exact fun a w ha hw => ⟨(y1268.2 == x1184), hm, ha.keep (Keep.cons 4 rfl Keep.nil), (Sel.imp .all) w hw⟩
            · replace hm := ifF hc hm
              refine To.skipped rfl (Want.of rfl rfl rfl rfl rfl rfl) rfl rfl ?_
              refine To.skipped rfl (Want.of rfl rfl rfl rfl rfl rfl) rfl rfl ?_
              refine To.skipped rfl (Want.of rfl rfl rfl rfl rfl rfl) rfl rfl ?_
              refine To.pure rfl (Want.none rfl) rfl rfl (pe_pick rfl rfl rfl) ?_
              refine To.pure rfl (Want.none rfl) rfl rfl (pe_assign rfl rfl) ?_
              refine To.done ?_
              refine To.keep (Keep.cons 4 rfl Keep.nil) ?_
              refine To.sel (.drop (.drop .all)) ?_
              exact fun a w ha hw => ⟨false, hm, ha.keep (Keep.cons 4 rfl Keep.nil), (Sel.imp .all) w hw⟩
      · skip
        refine To.imp (Imp.own_nil (k := kStr)) ?_
        exact fun a w ha hw => ⟨[], false, 0, none, 0, hm, ha.keep (Keep.cons 0 rfl (Keep.cons 1 rfl (Keep.cons 5 rfl (Keep.cons 6 rfl (Keep.cons 16 rfl (Keep.cons 17 rfl (Keep.cons 18 rfl Keep.nil))))))), (Sel.imp (.dup (.s .z) inferInstance (.cons .z (.drop .all)))) w hw⟩
end Go.Proofs.M

set_option linter.unusedVariables false
namespace Go.PL
open Go Go.WG

/-- from some number of rounds on it comes to 'r' -/
def Ev {α : Type} (g : Nat → Option α) (r : α) : Prop := ∃ K, ∀ k, K ≤ k → g k = some r
section
variable {α β : Type}
theorem Ev.pure {r : α} : Ev (fun _ => some r) r := ⟨0, fun _ _ => rfl⟩
theorem Ev.bind {g : Nat → Option α} {h : Nat → α → Option β} {y : α} {r : β} (hg : Ev g y) (hh : Ev (fun k => h k y) r) : Ev (fun k => (g k).bind (h k)) r := by
  obtain ⟨K, hK⟩ := hg; obtain ⟨L, hL⟩ := hh
  exact ⟨K + L, fun k hk => by dsimp only; rw [hK k (by omega), Option.bind_some]; exact hL k (by omega)⟩
theorem Ev.succ {f g : Nat → Option α} {r : α} (he : ∀ k, f (k + 1) = g k) (hg : Ev g r) : Ev f r := by
  obtain ⟨K, hK⟩ := hg
  exact ⟨K + 1, fun k hk => by obtain ⟨m, rfl⟩ : ∃ m, k = m + 1 := ⟨k - 1, by omega⟩; rw [he]; exact hK m (by omega)⟩
theorem Ev.congr {f g : Nat → Option α} {r : α} (he : ∀ k, f k = g k) (hg : Ev g r) : Ev f r := by
  obtain ⟨K, hK⟩ := hg; exact ⟨K, fun k hk => by rw [he]; exact hK k hk⟩
theorem Ev.lim {p : Prop} [Decidable p] {g : Nat → Option α} {r : α} (hp : p) (hg : Ev g r) : Ev (fun k => lim p (g k)) r := by
  obtain ⟨K, hK⟩ := hg; exact ⟨K, fun k hk => by dsimp only; unfold WG.lim; rw [if_pos hp]; exact hK k hk⟩
theorem Ev.ift {c : Bool} {g h : Nat → Option α} {r : α} (hc : c = true) (hg : Ev g r) : Ev (fun k => if c = true then g k else h k) r := by subst hc; exact hg
theorem Ev.iff {c : Bool} {g h : Nat → Option α} {r : α} (hc : c = false) (hh : Ev h r) : Ev (fun k => if c = true then g k else h k) r := by subst hc; exact hh
theorem Ev.ite {c : Bool} {g h : Nat → Option α} {r : α} (hg : c = true → Ev g r) (hh : c = false → Ev h r) : Ev (fun k => if c = true then g k else h k) r := by
  cases c
  · exact hh rfl
  · exact hg rfl
theorem Ev.val {g : Option α} {r : α} (h : g = some r) : Ev (fun _ => g) r := ⟨0, fun _ _ => h⟩
theorem Ev.ex {g : Nat → Option α} {r : α} (h : Ev g r) : ∃ k, g k = some r := by obtain ⟨K, hK⟩ := h; exact ⟨K, hK K (Nat.le_refl _)⟩
theorem Ev.ix {xs : List α} {i : Nat} {x : α} {h : Nat → α → Option β} {r : β} (hx : xs[i]? = some x) (hh : Ev (fun k => h k x) r) : Ev (fun k => (WG.ix xs (i : Int)).bind (h k)) r :=
  Ev.bind (Ev.val (by unfold WG.ix; rw [if_pos (by omega)]; simpa using hx)) hh
theorem Ev.uniq {g : Nat → Option α} {r s : α} (h : Ev g r) (h' : Ev g s) : r = s := by
  obtain ⟨K, hK⟩ := h; obtain ⟨L, hL⟩ := h'
  have := (hK (K + L) (by omega)).symm.trans (hL (K + L) (by omega))
  exact Option.some.inj this

/-- it comes to something -/
def EvX {α : Type} (g : Nat → Option α) : Prop := ∃ r, Ev g r
theorem EvX.pure {r : α} : EvX (fun _ => some r) := ⟨r, Ev.pure⟩
theorem EvX.of {g : Nat → Option α} {r : α} (h : Ev g r) : EvX g := ⟨r, h⟩
theorem EvX.bind {g : Nat → Option α} {h : Nat → α → Option β} (hg : EvX g) (hh : ∀ y, Ev g y → EvX (fun k => h k y)) : EvX (fun k => (g k).bind (h k)) := by
  obtain ⟨y, hy⟩ := hg; obtain ⟨r, hr⟩ := hh y hy; exact ⟨r, hy.bind hr⟩
theorem EvX.succ {f g : Nat → Option α} (he : ∀ k, f (k + 1) = g k) (hg : EvX g) : EvX f := by obtain ⟨r, h⟩ := hg; exact ⟨r, Ev.succ he h⟩
theorem EvX.ite {c : Bool} {g h : Nat → Option α} (hg : c = true → EvX g) (hh : c = false → EvX h) : EvX (fun k => if c = true then g k else h k) := by
  cases c
  · exact hh rfl
  · exact hg rfl
theorem EvX.ix {xs : List α} {i : Nat} {x : α} {h : Nat → α → Option β} (hx : xs[i]? = some x) (hh : EvX (fun k => h k x)) : EvX (fun k => (WG.ix xs (i : Int)).bind (h k)) := by obtain ⟨r, h⟩ := hh; exact ⟨r, Ev.ix hx h⟩
/-- from some number of rounds on it goes on with what comes behind at 'x' -/
def EvK {α γ : Type} (g : Nat → (γ → Option α) → Option α) (x : γ) : Prop := ∃ K, ∀ k, K ≤ k → ∀ rec, g k rec = rec x
variable {γ δ : Type}
theorem EvK.use {g : Nat → (γ → Option α) → Option α} {x : γ} {h : Nat → γ → Option α} {r : α} (hg : EvK g x) (hh : Ev (fun k => h k x) r) : Ev (fun k => g k (h k)) r := by
  obtain ⟨K, hK⟩ := hg; obtain ⟨L, hL⟩ := hh
  exact ⟨K + L, fun k hk => by dsimp only; rw [hK k (by omega)]; exact hL k (by omega)⟩
theorem EvK.succ {f g : Nat → (γ → Option α) → Option α} {x : γ} (he : ∀ k rec, f (k + 1) rec = g k rec) (hg : EvK g x) : EvK f x := by
  obtain ⟨K, hK⟩ := hg
  exact ⟨K + 1, fun k hk rec => by obtain ⟨m, rfl⟩ : ∃ m, k = m + 1 := ⟨k - 1, by omega⟩; rw [he]; exact hK m (by omega) rec⟩
theorem EvK.here {x : γ} : EvK (α := α) (fun _ rec => rec x) x := ⟨0, fun _ _ _ => rfl⟩
theorem EvK.bind {g : Nat → Option β} {h : Nat → β → (γ → Option α) → Option α} {y : β} {x : γ} (hg : Ev g y) (hh : EvK (fun k => h k y) x) : EvK (fun k rec => (g k).bind (fun z => h k z rec)) x := by
  obtain ⟨K, hK⟩ := hg; obtain ⟨L, hL⟩ := hh
  exact ⟨K + L, fun k hk rec => by dsimp only; rw [hK k (by omega), Option.bind_some]; exact hL k (by omega) rec⟩
theorem EvK.ix {xs : List β} {i : Nat} {z : β} {h : Nat → β → (γ → Option α) → Option α} {x : γ} (hx : xs[i]? = some z) (hh : EvK (fun k => h k z) x) : EvK (fun k rec => (WG.ix xs (i : Int)).bind (fun z => h k z rec)) x :=
  EvK.bind (Ev.val (by unfold WG.ix; rw [if_pos (by omega)]; simpa using hx)) hh
theorem EvK.ift {c : Bool} {g h : Nat → (γ → Option α) → Option α} {x : γ} (hc : c = true) (hg : EvK g x) : EvK (fun k rec => if c = true then g k rec else h k rec) x := by subst hc; exact hg
theorem EvK.iff {c : Bool} {g h : Nat → (γ → Option α) → Option α} {x : γ} (hc : c = false) (hh : EvK h x) : EvK (fun k rec => if c = true then g k rec else h k rec) x := by subst hc; exact hh
theorem EvK.lim {p : Prop} [Decidable p] {g : Nat → (γ → Option α) → Option α} {x : γ} (hp : p) (hg : EvK g x) : EvK (fun k rec => WG.lim p (g k rec)) x := by
  obtain ⟨K, hK⟩ := hg; exact ⟨K, fun k hk rec => by dsimp only; unfold WG.lim; rw [if_pos hp]; exact hK k hk rec⟩
end

theorem w64 {x : Int} (h : -9223372036854775808 ≤ x ∧ x ≤ 9223372036854775807) : IntKind.i64.wrap x = x := IntWalk.i64_in x h
theorem get_of_drop {α : Type} {xs : List α} {j : Nat} {y : α} {ys : List α} (h : xs.drop j = y :: ys) : xs[j]? = some y ∧ xs.drop (j + 1) = ys ∧ j < xs.length := by
  have hj : j < xs.length := by
    rcases Nat.lt_or_ge j xs.length with h' | h'
    · exact h'
    · rw [List.drop_of_length_le h'] at h; cases h
  rw [List.drop_eq_getElem_cons hj] at h
  obtain ⟨h1, h2⟩ := List.cons.inj h
  exact ⟨by rw [List.getElem?_eq_getElem hj, h1], h2, hj⟩
theorem drop_nil_len {α : Type} {xs : List α} {j : Nat} (h : xs.drop j = []) : xs.length ≤ j := by simpa using h
end Go.PL

set_option linter.unusedVariables false
set_option maxRecDepth 10000
namespace Go.Proofs.M
open Go Go.WG
/-- socage/socageref12.Same -/
def ref12_Same.l2 (p1 : T_api_Result) (p4 : T_api_Result) : Nat → Int → Option Bool
  | 0, _ => none
  | k1043 + 1, x1035 => (if (decide (x1035 < (p1.Names.length : Int))) = true then ((ix p1.Names x1035).bind fun e1045 => (ix p4.Names x1035).bind fun e1048 => (if (!(e1045 == e1048)) = true then (some false) else ((ref12_Same.l2 p1 p4 k1043) (IntKind.i64.wrap (x1035 + 1))))) else (some true))
def ref12_Same.j1 (p1 : T_api_Result) (p4 : T_api_Result) (k : Nat) (x1028 : Bool) : Option Bool := (if x1028 = true then (some false) else (ref12_Same.l2 p1 p4 k 0))
def ref12_Same.f (k : Nat) (p1 : T_api_Result) (p4 : T_api_Result) : Option Bool := (if (p1.Err != p4.Err) = true then (ref12_Same.j1 p1 p4 k true) else (if (p1.Kind != p4.Kind) = true then (ref12_Same.j1 p1 p4 k true) else (if (p1.Size != p4.Size) = true then (ref12_Same.j1 p1 p4 k true) else (if (p1.Where != p4.Where) = true then (ref12_Same.j1 p1 p4 k true) else (if (p1.ID != p4.ID) = true then (ref12_Same.j1 p1 p4 k true) else (if (!(p1.Text == p4.Text)) = true then (ref12_Same.j1 p1 p4 k true) else (if (!(p1.End == p4.End)) = true then (ref12_Same.j1 p1 p4 k true) else (ref12_Same.j1 p1 p4 k ((p1.Names.length : Int) != (p4.Names.length : Int))))))))))
theorem ref12_Same.tri (k : Nat) {r : Bool} {p1 : T_api_Result} {p4 : T_api_Result} (hm : ref12_Same.f k p1 p4 = some r) (a2 : Option Addr) (c3 : Nat) (a5 : Option Addr) (c6 : Nat) :
    Tri Tryz.prog 10 [.agg ⟨[.int .i64 p1.Err, .int .i64 p1.Kind, .int .i64 p1.Size, .int .i64 p1.Where, .int .i64 p1.ID, .string (S p1.Text), .slice a2 p1.Names.length c3, .bool p1.End]⟩, .agg ⟨[.int .i64 p4.Err, .int .i64 p4.Kind, .int .i64 p4.Size, .int .i64 p4.Where, .int .i64 p4.ID, .string (S p4.Text), .slice a5 p4.Names.length c6, .bool p4.End]⟩] [imm kStr a2 c3 p1.Names, imm kStr a5 c6 p4.Names] (fun v H' => v = .bool r ∧ H' = []) := by
  refine Tri.intro2 Tryz.func10 rfl rfl rfl (fun F => ?_)
  unfold ref12_Same.f at hm
  refine To.seq ?_
  refine To.region (l := [0, 1, 2]) rfl ?_
  refine To.step rfl (Want.none rfl) rfl rfl (st_box rfl rfl rfl) ?_
  rintro _ _ ⟨b1026, rfl, rfl⟩
  refine To.step rfl (Want.none rfl) rfl rfl (st_box rfl rfl rfl) ?_
  rintro _ _ ⟨b1027, rfl, rfl⟩
  refine To.pure rfl (Want.none rfl) rfl rfl (pe_assign rfl rfl) ?_
  refine To.done ?_
  refine To.keep (Keep.cons 3 rfl (Keep.cons 2 rfl Keep.nil)) ?_
  refine To.nx ?_
  refine To.seq ?_
  refine To.cut (fun a w => ∃ (x1028 : Bool), ref12_Same.j1 p1 p4 k x1028 = some r ∧ Knows 80 a [(2, .pointer (some ⟨b1026, 0, none⟩)), (3, .pointer (some ⟨b1027, 0, none⟩)), (61, .bool x1028)] ∧ Holds w (pt b1026 0 [.int .i64 p1.Err, .int .i64 p1.Kind, .int .i64 p1.Size, .int .i64 p1.Where, .int .i64 p1.ID, .string (S p1.Text), .slice a2 p1.Names.length c3, .bool p1.End] :: imm kStr a2 c3 p1.Names :: pt b1027 0 [.int .i64 p4.Err, .int .i64 p4.Kind, .int .i64 p4.Size, .int .i64 p4.Where, .int .i64 p4.ID, .string (S p4.Text), .slice a5 p4.Names.length c6, .bool p4.End] :: imm kStr a5 c6 p4.Names :: F)) ?_ ?_
  · rintro a w ⟨x1028, hm, ha, hw⟩
    refine To.at ha hw ?_
    clear ha hw a w
    unfold ref12_Same.j1 at hm
    refine To.cond rfl (fun hc => ?_) (fun hc => ?_)
    · replace hm := ifT hc hm
      refine To.seq ?_
      refine To.region (l := [0]) rfl ?_
      refine To.pure rfl (Want.none rfl) rfl rfl (pe_assign rfl rfl) ?_
      refine To.done ?_
      refine To.keep (Keep.cons 4 rfl Keep.nil) ?_
      refine To.sel (.drop (.drop (.drop (.drop .all)))) ?_
      refine To.nx ?_
      refine To.ret ?_
      refine To.tr ?_
      cases hm
      exact To.back rfl (.tmp rfl .nil) rfl ⟨rfl, rfl⟩ .all
    · replace hm := ifF hc hm
      refine To.skip ?_
      refine To.nx ?_
      refine To.seq ?_
      refine To.seq ?_
      refine To.region (l := [0]) rfl ?_
      refine To.pure rfl (Want.none rfl) rfl rfl (pe_assign rfl rfl) ?_
      refine To.done ?_
      refine To.keep (Keep.cons 5 rfl (Keep.cons 2 rfl (Keep.cons 3 rfl Keep.nil))) ?_
      refine To.nx ?_
      refine To.block ?_
      refine To.loop (fun kk a w => ∃ (x1035 : Int), ref12_Same.l2 p1 p4 kk x1035 = some r ∧ Knows 80 a [(2, .pointer (some ⟨b1026, 0, none⟩)), (3, .pointer (some ⟨b1027, 0, none⟩)), (5, .int .i64 x1035)] ∧ Holds w (pt b1026 0 [.int .i64 p1.Err, .int .i64 p1.Kind, .int .i64 p1.Size, .int .i64 p1.Where, .int .i64 p1.ID, .string (S p1.Text), .slice a2 p1.Names.length c3, .bool p1.End] :: imm kStr a2 c3 p1.Names :: pt b1027 0 [.int .i64 p4.Err, .int .i64 p4.Kind, .int .i64 p4.Size, .int .i64 p4.Where, .int .i64 p4.ID, .string (S p4.Text), .slice a5 p4.Names.length c6, .bool p4.End] :: imm kStr a5 c6 p4.Names :: F)) ?_ ?_ k ?_
      · rintro a w ⟨_, hm, _, _⟩; rw [ref12_Same.l2] at hm; cases hm
      · rintro k1043 a w ⟨x1035, hm, ha, hw⟩
        refine To.at ha hw ?_
        clear ha hw a w
        rw [ref12_Same.l2] at hm
        refine To.seq ?_
        refine To.seq ?_
        refine To.region (l := [0, 1, 2, 3, 4]) rfl ?_
        refine To.pure rfl (Want.none rfl) rfl rfl (pe_move rfl rfl) ?_
        refine To.pure rfl (Want.none rfl) rfl rfl (pe_fld rfl rfl fld26_6 ty24 rfl rfl) ?_
        refine To.pure rfl (Want.none rfl) rfl rfl (pe_load rfl rfl .z .pt rfl (.d (.d (.d (.d (.d (.d (.t .z))))))) ty24 rfl (fun _ => rfl) rfl) ?_
        refine To.pure rfl (Want.none rfl) rfl rfl (pe_len rfl rfl Tryz.underlying24) ?_
        refine To.pure rfl (Want.none rfl) rfl rfl (pe_int rfl rfl rfl bi_lss) ?_
        refine To.done ?_
        refine To.keep (Keep.cons 66 rfl (Keep.cons 2 rfl (Keep.cons 3 rfl (Keep.cons 5 rfl Keep.nil)))) ?_
        refine To.nx ?_
        refine To.cond rfl (fun hc => ?_) (fun hc => ?_)
        · replace hm := ifT hc hm
          refine To.skip ?_
          refine To.nx ?_
          refine To.seq ?_
          refine To.block ?_
          refine To.seq ?_
          obtain ⟨e1045, h_e1045, hm⟩ := bindE hm
          obtain ⟨h0_e1045, hl_e1045, hx_e1045⟩ := ixE h_e1045
          refine To.el_str (i := (x1035 : Int).toNat) (.s .z) hx_e1045 ?_
          rintro b1046 r1047 e; cases e
          obtain ⟨e1048, h_e1048, hm⟩ := bindE hm
          obtain ⟨h0_e1048, hl_e1048, hx_e1048⟩ := ixE h_e1048
          refine To.el_str (i := (x1035 : Int).toNat) (.s (.s (.s (.s .z)))) hx_e1048 ?_
          rintro b1049 r1050 e; cases e
          refine To.draws [0, 1, 0, 7, 15, 0, 32, 0, 224, 480, 1023] mixed (by kernel_rfl) (by kernel_rfl) ?_
          refine Dr.pure 0 69 _ _ rfl rfl rfl rfl rfl rfl (by kernel_rfl) (PureG.of (Want.none rfl) (pe_fld rfl rfl fld26_6 ty24 rfl rfl)) ?_
          refine Dr.pure 1 70 _ _ rfl rfl rfl rfl rfl rfl (by kernel_rfl) (PureG.of (Want.none rfl) (pe_load rfl rfl (.s (.s .z)) .pt rfl (.d (.d (.d (.d (.d (.d (.t .z))))))) ty24 rfl (fun _ => rfl) rfl)) ?_
          refine Dr.pure 2 71 _ _ rfl rfl rfl rfl rfl rfl (by kernel_rfl) (PureG.of (Want.none rfl) (pe_move rfl rfl)) ?_
          refine Dr.pure 3 72 _ _ rfl rfl rfl rfl rfl rfl (by kernel_rfl) (PureG.of (Want.none rfl) (pe_idx rfl rfl rfl Tryz.underlying24 ty9 h0_e1045 hl_e1045 rfl)) ?_
          refine Dr.pure 4 73 _ _ rfl rfl rfl rfl rfl rfl (by kernel_rfl) (PureG.of (Want.none rfl) (pe_load rfl rfl (.s .z) .ro rfl (.t .z) ty9 rfl (fun _ => rfl) rfl)) ?_
          refine Dr.pure 5 74 _ _ rfl rfl rfl rfl rfl rfl (by kernel_rfl) (PureG.of (Want.none rfl) (pe_fld rfl rfl fld26_6 ty24 rfl rfl)) ?_
          refine Dr.pure 6 75 _ _ rfl rfl rfl rfl rfl rfl (by kernel_rfl) (PureG.of (Want.none rfl) (pe_load rfl rfl (.s (.s (.s (.s .z)))) .pt rfl (.d (.d (.d (.d (.d (.d (.t .z))))))) ty24 rfl (fun _ => rfl) rfl)) ?_
          refine Dr.pure 7 76 _ _ rfl rfl rfl rfl rfl rfl (by kernel_rfl) (PureG.of (Want.none rfl) (pe_move rfl rfl)) ?_
          refine Dr.pure 8 77 _ _ rfl rfl rfl rfl rfl rfl (by kernel_rfl) (PureG.of (Want.none rfl) (pe_idx rfl rfl rfl Tryz.underlying24 ty9 h0_e1048 hl_e1048 rfl)) ?_
          refine Dr.pure 9 78 _ _ rfl rfl rfl rfl rfl rfl (by kernel_rfl) (PureG.of (Want.none rfl) (pe_load rfl rfl .z .ro rfl (.t .z) ty9 rfl (fun _ => rfl) rfl)) ?_
          refine Dr.pure 10 79 _ _ rfl rfl rfl rfl rfl rfl (by kernel_rfl) (PureG.of (Want.none rfl) (pe_str rfl rfl rfl bs_neq)) ?_
          refine Dr.done (by kernel_rfl) ?_
          refine To.keep (Keep.cons 79 rfl (Keep.cons 2 rfl (Keep.cons 3 rfl (Keep.cons 5 rfl Keep.nil)))) ?_
          refine To.sel (.drop (.drop .all)) ?_
          refine To.nx ?_
          refine To.cond rfl (fun hc => ?_) (fun hc => ?_)
          · replace hm := ifT hc hm
            refine To.seq ?_
            refine To.region (l := [0]) rfl ?_
            refine To.pure rfl (Want.none rfl) rfl rfl (pe_assign rfl rfl) ?_
            refine To.done ?_
            refine To.keep (Keep.cons 4 rfl Keep.nil) ?_
            refine To.sel (.drop (.drop (.drop (.drop .all)))) ?_
            refine To.nx ?_
            refine To.ret ?_
            refine To.br ?_
            refine To.tr ?_
            refine To.tr ?_
            refine To.br ?_
            refine To.tr ?_
            cases hm
            exact To.back rfl (.tmp rfl .nil) rfl ⟨rfl, rfl⟩ .all
          · replace hm := ifF hc hm
            refine To.skip ?_
            refine To.bn ?_
            refine To.nx ?_
            refine To.region (l := [0, 1, 2]) rfl ?_
            refine To.pure rfl (Want.none rfl) rfl rfl (pe_move rfl rfl) ?_
            refine To.pure rfl (Want.none rfl) rfl rfl (pe_int rfl rfl rfl bi_add) ?_
            refine To.pure rfl (Want.none rfl) rfl rfl (pe_assign rfl rfl) ?_
            refine To.done ?_
            refine To.keep (Keep.cons 5 rfl (Keep.cons 2 rfl (Keep.cons 3 rfl Keep.nil))) ?_
            exact fun a w ha hw => ⟨IntKind.i64.wrap (x1035 + 1), hm, ha.keep (Keep.cons 2 rfl (Keep.cons 3 rfl (Keep.cons 5 rfl Keep.nil))), (Sel.imp (.cons .z (.dup .z inferInstance (.cons (.s .z) (.dup (.s .z) inferInstance (.drop (.drop .all))))))) w hw⟩
        · replace hm := ifF hc hm
          refine To.exit ?_
          refine To.tx ?_
          refine To.tx ?_
          refine To.bx ?_
          refine To.nx ?_
          refine To.seq ?_
          refine To.region (l := [0]) rfl ?_
          refine To.pure rfl (Want.none rfl) rfl rfl (pe_assign rfl rfl) ?_
          refine To.done ?_
          refine To.keep (Keep.cons 4 rfl Keep.nil) ?_
          refine To.sel (.drop (.drop (.drop (.drop .all)))) ?_
          refine To.nx ?_
          refine To.ret ?_
          cases hm
          exact To.back rfl (.tmp rfl .nil) rfl ⟨rfl, rfl⟩ .all
      · skip
        exact fun a w ha hw => ⟨0, hm, ha.keep (Keep.cons 2 rfl (Keep.cons 3 rfl (Keep.cons 5 rfl Keep.nil))), (Sel.imp (.cons .z (.dup .z inferInstance (.cons (.s .z) (.dup (.s .z) inferInstance (.drop (.drop .all))))))) w hw⟩
  · skip
    refine To.region (l := [0, 1, 2, 3, 4, 5, 6, 7, 8, 9, 10, 11, 12, 13, 14, 15, 16, 17, 18, 19, 20, 21, 22, 23, 24, 25, 26, 27, 28, 29, 30, 31, 32, 33, 34, 35, 36, 37, 38, 39, 40, 41, 42, 43, 44, 45, 46, 47, 48, 49, 50, 51, 52, 53, 54, 55]) rfl ?_
    refine To.pure rfl (Want.none rfl) rfl rfl (pe_fld rfl rfl fld26_0 ty23 rfl rfl) ?_
    refine To.pure rfl (Want.none rfl) rfl rfl (pe_load rfl rfl (.s .z) .pt rfl (.t .z) ty23 rfl (fun _ => rfl) rfl) ?_
    refine To.pure rfl (Want.none rfl) rfl rfl (pe_fld rfl rfl fld26_0 ty23 rfl rfl) ?_
    refine To.pure rfl (Want.none rfl) rfl rfl (pe_load rfl rfl .z .pt rfl (.t .z) ty23 rfl (fun _ => rfl) rfl) ?_
    refine To.pure rfl (Want.none rfl) rfl rfl (pe_int rfl rfl rfl bi_neq) ?_
    refine To.pure rfl (Want.none rfl) rfl rfl (pe_move rfl rfl) ?_
    refine To.split 11 rfl (fun hc => ?_) (fun hc => ?_)
    · replace hm := ifT hc hm
      refine To.skipped rfl (Want.of rfl rfl rfl rfl rfl rfl) rfl rfl ?_
      refine To.skipped rfl (Want.of rfl rfl rfl rfl rfl rfl) rfl rfl ?_
      refine To.skipped rfl (Want.of rfl rfl rfl rfl rfl rfl) rfl rfl ?_
      refine To.skipped rfl (Want.of rfl rfl rfl rfl rfl rfl) rfl rfl ?_
      refine To.skipped rfl (Want.of rfl rfl rfl rfl rfl rfl) rfl rfl ?_
      refine To.pure rfl (Want.none rfl) rfl rfl (pe_pick rfl rfl rfl) ?_
      refine To.pure rfl (Want.none rfl) rfl rfl (pe_move rfl rfl) ?_
      refine To.skipped rfl (Want.of rfl rfl rfl rfl rfl rfl) rfl rfl ?_
      refine To.skipped rfl (Want.of rfl rfl rfl rfl rfl rfl) rfl rfl ?_
      refine To.skipped rfl (Want.of rfl rfl rfl rfl rfl rfl) rfl rfl ?_
      refine To.skipped rfl (Want.of rfl rfl rfl rfl rfl rfl) rfl rfl ?_
      refine To.skipped rfl (Want.of rfl rfl rfl rfl rfl rfl) rfl rfl ?_
      refine To.pure rfl (Want.none rfl) rfl rfl (pe_pick rfl rfl rfl) ?_
      refine To.pure rfl (Want.none rfl) rfl rfl (pe_move rfl rfl) ?_
      refine To.skipped rfl (Want.of rfl rfl rfl rfl rfl rfl) rfl rfl ?_
      refine To.skipped rfl (Want.of rfl rfl rfl rfl rfl rfl) rfl rfl ?_
      refine To.skipped rfl (Want.of rfl rfl rfl rfl rfl rfl) rfl rfl ?_
      refine To.skipped rfl (Want.of rfl rfl rfl rfl rfl rfl) rfl rfl ?_
      refine To.skipped rfl (Want.of rfl rfl rfl rfl rfl rfl) rfl rfl ?_
      refine To.pure rfl (Want.none rfl) rfl rfl (pe_pick rfl rfl rfl) ?_
      refine To.pure rfl (Want.none rfl) rfl rfl (pe_move rfl rfl) ?_
      refine To.skipped rfl (Want.of rfl rfl rfl rfl rfl rfl) rfl rfl ?_
      refine To.skipped rfl (Want.of rfl rfl rfl rfl rfl rfl) rfl rfl ?_
      refine To.skipped rfl (Want.of rfl rfl rfl rfl rfl rfl) rfl rfl ?_
      refine To.skipped rfl (Want.of rfl rfl rfl rfl rfl rfl) rfl rfl ?_
      refine To.skipped rfl (Want.of rfl rfl rfl rfl rfl rfl) rfl rfl ?_
      refine To.pure rfl (Want.none rfl) rfl rfl (pe_pick rfl rfl rfl) ?_
      refine To.pure rfl (Want.none rfl) rfl rfl (pe_move rfl rfl) ?_
      refine To.skipped rfl (Want.of rfl rfl rfl rfl rfl rfl) rfl rfl ?_
      refine To.skipped rfl (Want.of rfl rfl rfl rfl rfl rfl) rfl rfl ?_
      refine To.skipped rfl (Want.of rfl rfl rfl rfl rfl rfl) rfl rfl ?_
      refine To.skipped rfl (Want.of rfl rfl rfl rfl rfl rfl) rfl rfl ?_
      refine To.skipped rfl (Want.of rfl rfl rfl rfl rfl rfl) rfl rfl ?_
      refine To.pure rfl (Want.none rfl) rfl rfl (pe_pick rfl rfl rfl) ?_
      refine To.pure rfl (Want.none rfl) rfl rfl (pe_move rfl rfl) ?_
      refine To.skipped rfl (Want.of rfl rfl rfl rfl rfl rfl) rfl rfl ?_
      refine To.skipped rfl (Want.of rfl rfl rfl rfl rfl rfl) rfl rfl ?_
      refine To.skipped rfl (Want.of rfl rfl rfl rfl rfl rfl) rfl rfl ?_
      refine To.skipped rfl (Want.of rfl rfl rfl rfl rfl rfl) rfl rfl ?_
      refine To.skipped rfl (Want.of rfl rfl rfl rfl rfl rfl) rfl rfl ?_
      refine To.pure rfl (Want.none rfl) rfl rfl (pe_pick rfl rfl rfl) ?_
      refine To.pure rfl (Want.none rfl) rfl rfl (pe_move rfl rfl) ?_
      refine To.skipped rfl (Want.of rfl rfl rfl rfl rfl rfl) rfl rfl ?_
      refine To.skipped rfl (Want.of rfl rfl rfl rfl rfl rfl) rfl rfl ?_
      refine To.skipped rfl (Want.of rfl rfl rfl rfl rfl rfl) rfl rfl ?_
      refine To.skipped rfl (Want.of rfl rfl rfl rfl rfl rfl) rfl rfl ?_
      refine To.skipped rfl (Want.of rfl rfl rfl rfl rfl rfl) rfl rfl ?_
      refine To.skipped rfl (Want.of rfl rfl rfl rfl rfl rfl) rfl rfl ?_
      refine To.skipped rfl (Want.of rfl rfl rfl rfl rfl rfl) rfl rfl ?_
      refine To.pure rfl (Want.none rfl) rfl rfl (pe_pick rfl rfl rfl) ?_
      refine To.done ?_
      refine To.keep (Keep.cons 61 rfl (Keep.cons 3 rfl (Keep.cons 2 rfl Keep.nil))) ?_
      exact fun a w ha hw => ⟨true, hm, ha.keep (Keep.cons 2 rfl (Keep.cons 3 rfl (Keep.cons 61 rfl Keep.nil))), (Sel.imp (.cons (.s .z) (.dup (.s .z) inferInstance (.cons .z (.dup (.s .z) inferInstance (.drop (.drop .all))))))) w hw⟩
    · replace hm := ifF hc hm
      refine To.pure rfl (Want.of rfl rfl rfl rfl rfl rfl) rfl rfl (pe_fld rfl rfl fld26_1 ty3 rfl rfl) ?_
      refine To.pure rfl (Want.of rfl rfl rfl rfl rfl rfl) rfl rfl (pe_load rfl rfl (.s .z) .pt rfl (.d (.t .z)) ty3 rfl (fun _ => rfl) rfl) ?_
      refine To.pure rfl (Want.of rfl rfl rfl rfl rfl rfl) rfl rfl (pe_fld rfl rfl fld26_1 ty3 rfl rfl) ?_
      refine To.pure rfl (Want.of rfl rfl rfl rfl rfl rfl) rfl rfl (pe_load rfl rfl .z .pt rfl (.d (.t .z)) ty3 rfl (fun _ => rfl) rfl) ?_
      refine To.pure rfl (Want.of rfl rfl rfl rfl rfl rfl) rfl rfl (pe_int rfl rfl rfl bi_neq) ?_
      refine To.pure rfl (Want.none rfl) rfl rfl (pe_pick rfl rfl rfl) ?_
      refine To.pure rfl (Want.none rfl) rfl rfl (pe_move rfl rfl) ?_
      refine To.split 18 rfl (fun hc => ?_) (fun hc => ?_)
      · replace hm := ifT hc hm
        refine To.skipped rfl (Want.of rfl rfl rfl rfl rfl rfl) rfl rfl ?_
        refine To.skipped rfl (Want.of rfl rfl rfl rfl rfl rfl) rfl rfl ?_
        refine To.skipped rfl (Want.of rfl rfl rfl rfl rfl rfl) rfl rfl ?_
        refine To.skipped rfl (Want.of rfl rfl rfl rfl rfl rfl) rfl rfl ?_
        refine To.skipped rfl (Want.of rfl rfl rfl rfl rfl rfl) rfl rfl ?_
        refine To.pure rfl (Want.none rfl) rfl rfl (pe_pick rfl rfl rfl) ?_
        refine To.pure rfl (Want.none rfl) rfl rfl (pe_move rfl rfl) ?_
        refine To.skipped rfl (Want.of rfl rfl rfl rfl rfl rfl) rfl rfl ?_
        refine To.skipped rfl (Want.of rfl rfl rfl rfl rfl rfl) rfl rfl ?_
        refine To.skipped rfl (Want.of rfl rfl rfl rfl rfl rfl) rfl rfl ?_
        refine To.skipped rfl (Want.of rfl rfl rfl rfl rfl rfl) rfl rfl ?_
        refine To.skipped rfl (Want.of rfl rfl rfl rfl rfl rfl) rfl rfl ?_
        refine To.pure rfl (Want.none rfl) rfl rfl (pe_pick rfl rfl rfl) ?_
        refine To.pure rfl (Want.none rfl) rfl rfl (pe_move rfl rfl) ?_
        refine To.skipped rfl (Want.of rfl rfl rfl rfl rfl rfl) rfl rfl ?_
        refine To.skipped rfl (Want.of rfl rfl rfl rfl rfl rfl) rfl rfl ?_
        refine To.skipped rfl (Want.of rfl rfl rfl rfl rfl rfl) rfl rfl ?_
        refine To.skipped rfl (Want.of rfl rfl rfl rfl rfl rfl) rfl rfl ?_
        refine To.skipped rfl (Want.of rfl rfl rfl rfl rfl rfl) rfl rfl ?_
        refine To.pure rfl (Want.none rfl) rfl rfl (pe_pick rfl rfl rfl) ?_
        refine To.pure rfl (Want.none rfl) rfl rfl (pe_move rfl rfl) ?_
        refine To.skipped rfl (Want.of rfl rfl rfl rfl rfl rfl) rfl rfl ?_
        refine To.skipped rfl (Want.of rfl rfl rfl rfl rfl rfl) rfl rfl ?_
        refine To.skipped rfl (Want.of rfl rfl rfl rfl rfl rfl) rfl rfl ?_
        refine To.skipped rfl (Want.of rfl rfl rfl rfl rfl rfl) rfl rfl ?_
        refine To.skipped rfl (Want.of rfl rfl rfl rfl rfl rfl) rfl rfl ?_
        refine To.pure rfl (Want.none rfl) rfl rfl (pe_pick rfl rfl rfl) ?_
        refine To.pure rfl (Want.none rfl) rfl rfl (pe_move rfl rfl) ?_
        refine To.skipped rfl (Want.of rfl rfl rfl rfl rfl rfl) rfl rfl ?_
        refine To.skipped rfl (Want.of rfl rfl rfl rfl rfl rfl) rfl rfl ?_
        refine To.skipped rfl (Want.of rfl rfl rfl rfl rfl rfl) rfl rfl ?_
        refine To.skipped rfl (Want.of rfl rfl rfl rfl rfl rfl) rfl rfl ?_
        refine To.skipped rfl (Want.of rfl rfl rfl rfl rfl rfl) rfl rfl ?_
        refine To.pure rfl (Want.none rfl) rfl rfl (pe_pick rfl rfl rfl) ?_
        refine To.pure rfl (Want.none rfl) rfl rfl (pe_move rfl rfl) ?_
        refine To.skipped rfl (Want.of rfl rfl rfl rfl rfl rfl) rfl rfl ?_
        refine To.skipped rfl (Want.of rfl rfl rfl rfl rfl rfl) rfl rfl ?_
        refine To.skipped rfl (Want.of rfl rfl rfl rfl rfl rfl) rfl rfl ?_
        refine To.skipped rfl (Want.of rfl rfl rfl rfl rfl rfl) rfl rfl ?_
        refine To.skipped rfl (Want.of rfl rfl rfl rfl rfl rfl) rfl rfl ?_
        refine To.skipped rfl (Want.of rfl rfl rfl rfl rfl rfl) rfl rfl ?_
        refine To.skipped rfl (Want.of rfl rfl rfl rfl rfl rfl) rfl rfl ?_
        refine To.pure rfl (Want.none rfl) rfl rfl (pe_pick rfl rfl rfl) ?_
        refine To.done ?_
        refine To.keep (Keep.cons 61 rfl (Keep.cons 3 rfl (Keep.cons 2 rfl Keep.nil))) ?_
        exact fun a w ha hw => ⟨true, hm, ha.keep (Keep.cons 2 rfl (Keep.cons 3 rfl (Keep.cons 61 rfl Keep.nil))), (Sel.imp (.cons (.s .z) (.dup (.s .z) inferInstance (.cons .z (.dup (.s .z) inferInstance (.drop (.drop .all))))))) w hw⟩
      · replace hm := ifF hc hm
        refine To.pure rfl (Want.of rfl rfl rfl rfl rfl rfl) rfl rfl (pe_fld rfl rfl fld26_2 ty3 rfl rfl) ?_
        refine To.pure rfl (Want.of rfl rfl rfl rfl rfl rfl) rfl rfl (pe_load rfl rfl (.s .z) .pt rfl (.d (.d (.t .z))) ty3 rfl (fun _ => rfl) rfl) ?_
        refine To.pure rfl (Want.of rfl rfl rfl rfl rfl rfl) rfl rfl (pe_fld rfl rfl fld26_2 ty3 rfl rfl) ?_
        refine To.pure rfl (Want.of rfl rfl rfl rfl rfl rfl) rfl rfl (pe_load rfl rfl .z .pt rfl (.d (.d (.t .z))) ty3 rfl (fun _ => rfl) rfl) ?_
        refine To.pure rfl (Want.of rfl rfl rfl rfl rfl rfl) rfl rfl (pe_int rfl rfl rfl bi_neq) ?_
        refine To.pure rfl (Want.none rfl) rfl rfl (pe_pick rfl rfl rfl) ?_
        refine To.pure rfl (Want.none rfl) rfl rfl (pe_move rfl rfl) ?_
        refine To.split 25 rfl (fun hc => ?_) (fun hc => ?_)
        · replace hm := ifT hc hm
          refine To.skipped rfl (Want.of rfl rfl rfl rfl rfl rfl) rfl rfl ?_
          refine To.skipped rfl (Want.of rfl rfl rfl rfl rfl rfl) rfl rfl ?_
          refine To.skipped rfl (Want.of rfl rfl rfl rfl rfl rfl) rfl rfl ?_
          refine To.skipped rfl (Want.of rfl rfl rfl rfl rfl rfl) rfl rfl ?_
          refine To.skipped rfl (Want.of rfl rfl rfl rfl rfl rfl) rfl rfl ?_
          refine To.pure rfl (Want.none rfl) rfl rfl (pe_pick rfl rfl rfl) ?_
          refine To.pure rfl (Want.none rfl) rfl rfl (pe_move rfl rfl) ?_
          refine To.skipped rfl (Want.of rfl rfl rfl rfl rfl rfl) rfl rfl ?_
          refine To.skipped rfl (Want.of rfl rfl rfl rfl rfl rfl) rfl rfl ?_
          refine To.skipped rfl (Want.of rfl rfl rfl rfl rfl rfl) rfl rfl ?_
          refine To.skipped rfl (Want.of rfl rfl rfl rfl rfl rfl) rfl rfl ?_
          refine To.skipped rfl (Want.of rfl rfl rfl rfl rfl rfl) rfl rfl ?_
          refine To.pure rfl (Want.none rfl) rfl rfl (pe_pick rfl rfl rfl) ?_
          refine To.pure rfl (Want.none rfl) rfl rfl (pe_move rfl rfl) ?_
          refine To.skipped rfl (Want.of rfl rfl rfl rfl rfl rfl) rfl rfl ?_
          refine To.skipped rfl (Want.of rfl rfl rfl rfl rfl rfl) rfl rfl ?_
          refine To.skipped rfl (Want.of rfl rfl rfl rfl rfl rfl) rfl rfl ?_
          refine To.skipped rfl (Want.of rfl rfl rfl rfl rfl rfl) rfl rfl ?_
          refine To.skipped rfl (Want.of rfl rfl rfl rfl rfl rfl) rfl rfl ?_
          refine To.pure rfl (Want.none rfl) rfl rfl (pe_pick rfl rfl rfl) ?_
          refine To.pure rfl (Want.none rfl) rfl rfl (pe_move rfl rfl) ?_
          refine To.skipped rfl (Want.of rfl rfl rfl rfl rfl rfl) rfl rfl ?_
          refine To.skipped rfl (Want.of rfl rfl rfl rfl rfl rfl) rfl rfl ?_
          refine To.skipped rfl (Want.of rfl rfl rfl rfl rfl rfl) rfl rfl ?_
          refine To.skipped rfl (Want.of rfl rfl rfl rfl rfl rfl) rfl rfl ?_
          refine To.skipped rfl (Want.of rfl rfl rfl rfl rfl rfl) rfl rfl ?_
          refine To.pure rfl (Want.none rfl) rfl rfl (pe_pick rfl rfl rfl) ?_
          refine To.pure rfl (Want.none rfl) rfl rfl (pe_move rfl rfl) ?_
          refine To.skipped rfl (Want.of rfl rfl rfl rfl rfl rfl) rfl rfl ?_
          refine To.skipped rfl (Want.of rfl rfl rfl rfl rfl rfl) rfl rfl ?_
          refine To.skipped rfl (Want.of rfl rfl rfl rfl rfl rfl) rfl rfl ?_
          refine To.skipped rfl (Want.of rfl rfl rfl rfl rfl rfl) rfl rfl ?_
          refine To.skipped rfl (Want.of rfl rfl rfl rfl rfl rfl) rfl rfl ?_
          refine To.skipped rfl (Want.of rfl rfl rfl rfl rfl rfl) rfl rfl ?_
          refine To.skipped rfl (Want.of rfl rfl rfl rfl rfl rfl) rfl rfl ?_
          refine To.pure rfl (Want.none rfl) rfl rfl (pe_pick rfl rfl rfl) ?_
          refine To.done ?_
          refine To.keep (Keep.cons 61 rfl (Keep.cons 3 rfl (Keep.cons 2 rfl Keep.nil))) ?_
          exact fun a w ha hw => ⟨true, hm, ha.keep (Keep.cons 2 rfl (Keep.cons 3 rfl (Keep.cons 61 rfl Keep.nil))), (Sel.imp (.cons (.s .z) (.dup (.s .z) inferInstance (.cons .z (.dup (.s .z) inferInstance (.drop (.drop .all))))))) w hw⟩
        · replace hm := ifF hc hm
          refine To.pure rfl (Want.of rfl rfl rfl rfl rfl rfl) rfl rfl (pe_fld rfl rfl fld26_3 ty3 rfl rfl) ?_
          refine To.pure rfl (Want.of rfl rfl rfl rfl rfl rfl) rfl rfl (pe_load rfl rfl (.s .z) .pt rfl (.d (.d (.d (.t .z)))) ty3 rfl (fun _ => rfl) rfl) ?_
          refine To.pure rfl (Want.of rfl rfl rfl rfl rfl rfl) rfl rfl (pe_fld rfl rfl fld26_3 ty3 rfl rfl) ?_
          refine To.pure rfl (Want.of rfl rfl rfl rfl rfl rfl) rfl rfl (pe_load rfl rfl .z .pt rfl (.d (.d (.d (.t .z)))) ty3 rfl (fun _ => rfl) rfl) ?_
          refine To.pure rfl (Want.of rfl rfl rfl rfl rfl rfl) rfl rfl (pe_int rfl rfl rfl bi_neq) ?_
          refine To.pure rfl (Want.none rfl) rfl rfl (pe_pick rfl rfl rfl) ?_
          refine To.pure rfl (Want.none rfl) rfl rfl (pe_move rfl rfl) ?_
          refine To.split 32 rfl (fun hc => ?_) (fun hc => ?_)
          · replace hm := ifT hc hm
            refine To.skipped rfl (Want.of rfl rfl rfl rfl rfl rfl) rfl rfl ?_
            refine To.skipped rfl (Want.of rfl rfl rfl rfl rfl rfl) rfl rfl ?_
            refine To.skipped rfl (Want.of rfl rfl rfl rfl rfl rfl) rfl rfl ?_
            refine To.skipped rfl (Want.of rfl rfl rfl rfl rfl rfl) rfl rfl ?_
            refine To.skipped rfl (Want.of rfl rfl rfl rfl rfl rfl) rfl rfl ?_
            refine To.pure rfl (Want.none rfl) rfl rfl (pe_pick rfl rfl rfl) ?_
            refine To.pure rfl (Want.none rfl) rfl rfl (pe_move rfl rfl) ?_
            refine To.skipped rfl (Want.of rfl rfl rfl rfl rfl rfl) rfl rfl ?_
            refine To.skipped rfl (Want.of rfl rfl rfl rfl rfl rfl) rfl rfl ?_
            refine To.skipped rfl (Want.of rfl rfl rfl rfl rfl rfl) rfl rfl ?_
            refine To.skipped rfl (Want.of rfl rfl rfl rfl rfl rfl) rfl rfl ?_
            refine To.skipped rfl (Want.of rfl rfl rfl rfl rfl rfl) rfl rfl ?_
            refine To.pure rfl (Want.none rfl) rfl rfl (pe_pick rfl rfl rfl) ?_
            refine To.pure rfl (Want.none rfl) rfl rfl (pe_move rfl rfl) ?_
            refine To.skipped rfl (Want.of rfl rfl rfl rfl rfl rfl) rfl rfl ?_
            refine To.skipped rfl (Want.of rfl rfl rfl rfl rfl rfl) rfl rfl ?_
            refine To.skipped rfl (Want.of rfl rfl rfl rfl rfl rfl) rfl rfl ?_
            refine To.skipped rfl (Want.of rfl rfl rfl rfl rfl rfl) rfl rfl ?_
            refine To.skipped rfl (Want.of rfl rfl rfl rfl rfl rfl) rfl rfl ?_
            refine To.pure rfl (Want.none rfl) rfl rfl (pe_pick rfl rfl rfl) ?_
            refine To.pure rfl (Want.none rfl) rfl rfl (pe_move rfl rfl) ?_
            refine To.skipped rfl (Want.of rfl rfl rfl rfl rfl rfl) rfl rfl ?_
            refine To.skipped rfl (Want.of rfl rfl rfl rfl rfl rfl) rfl rfl ?_
            refine To.skipped rfl (Want.of rfl rfl rfl rfl rfl rfl) rfl rfl ?_
            refine To.skipped rfl (Want.of rfl rfl rfl rfl rfl rfl) rfl rfl ?_
            refine To.skipped rfl (Want.of rfl rfl rfl rfl rfl rfl) rfl rfl ?_
            refine To.skipped rfl (Want.of rfl rfl rfl rfl rfl rfl) rfl rfl ?_
            refine To.skipped rfl (Want.of rfl rfl rfl rfl rfl rfl) rfl rfl ?_
            refine To.pure rfl (Want.none rfl) rfl rfl (pe_pick rfl rfl rfl) ?_
            refine To.done ?_
            refine To.keep (Keep.cons 61 rfl (Keep.cons 3 rfl (Keep.cons 2 rfl Keep.nil))) ?_
            exact fun a w ha hw => ⟨true, hm, ha.keep (Keep.cons 2 rfl (Keep.cons 3 rfl (Keep.cons 61 rfl Keep.nil))), (Sel.imp (.cons (.s .z) (.dup (.s .z) inferInstance (.cons .z (.dup (.s .z) inferInstance (.drop (.drop .all))))))) w hw⟩
          · replace hm := ifF hc hm
            refine To.pure rfl (Want.of rfl rfl rfl rfl rfl rfl) rfl rfl (pe_fld rfl rfl fld26_4 ty3 rfl rfl) ?_
            refine To.pure rfl (Want.of rfl rfl rfl rfl rfl rfl) rfl rfl (pe_load rfl rfl (.s .z) .pt rfl (.d (.d (.d (.d (.t .z))))) ty3 rfl (fun _ => rfl) rfl) ?_
            refine To.pure rfl (Want.of rfl rfl rfl rfl rfl rfl) rfl rfl (pe_fld rfl rfl fld26_4 ty3 rfl rfl) ?_
            refine To.pure rfl (Want.of rfl rfl rfl rfl rfl rfl) rfl rfl (pe_load rfl rfl .z .pt rfl (.d (.d (.d (.d (.t .z))))) ty3 rfl (fun _ => rfl) rfl) ?_
            refine To.pure rfl (Want.of rfl rfl rfl rfl rfl rfl) rfl rfl (pe_int rfl rfl rfl bi_neq) ?_
            refine To.pure rfl (Want.none rfl) rfl rfl (pe_pick rfl rfl rfl) ?_
            refine To.pure rfl (Want.none rfl) rfl rfl (pe_move rfl rfl) ?_
            refine To.split 39 rfl (fun hc => ?_) (fun hc => ?_)
            · replace hm := ifT hc hm
              refine To.skipped rfl (Want.of rfl rfl rfl rfl rfl rfl) rfl rfl ?_
              refine To.skipped rfl (Want.of rfl rfl rfl rfl rfl rfl) rfl rfl ?_
              refine To.skipped rfl (Want.of rfl rfl rfl rfl rfl rfl) rfl rfl ?_
              refine To.skipped rfl (Want.of rfl rfl rfl rfl rfl rfl) rfl rfl ?_
              refine To.skipped rfl (Want.of rfl rfl rfl rfl rfl rfl) rfl rfl ?_
              refine To.pure rfl (Want.none rfl) rfl rfl (pe_pick rfl rfl rfl) ?_
              refine To.pure rfl (Want.none rfl) rfl rfl (pe_move rfl rfl) ?_
              refine To.skipped rfl (Want.of rfl rfl rfl rfl rfl rfl) rfl rfl ?_
              refine To.skipped rfl (Want.of rfl rfl rfl rfl rfl rfl) rfl rfl ?_
              refine To.skipped rfl (Want.of rfl rfl rfl rfl rfl rfl) rfl rfl ?_
              refine To.skipped rfl (Want.of rfl rfl rfl rfl rfl rfl) rfl rfl ?_
              refine To.skipped rfl (Want.of rfl rfl rfl rfl rfl rfl) rfl rfl ?_
              refine To.pure rfl (Want.none rfl) rfl rfl (pe_pick rfl rfl rfl) ?_
              refine To.pure rfl (Want.none rfl) rfl rfl (pe_move rfl rfl) ?_
              refine To.skipped rfl (Want.of rfl rfl rfl rfl rfl rfl) rfl rfl ?_
              refine To.skipped rfl (Want.of rfl rfl rfl rfl rfl rfl) rfl rfl ?_
              refine To.skipped rfl (Want.of rfl rfl rfl rfl rfl rfl) rfl rfl ?_
              refine To.skipped rfl (Want.of rfl rfl rfl rfl rfl rfl) rfl rfl ?_
              refine To.skipped rfl (Want.of rfl rfl rfl rfl rfl rfl) rfl rfl ?_
              refine To.skipped rfl (Want.of rfl rfl rfl rfl rfl rfl) rfl rfl ?_
              refine To.skipped rfl (Want.of rfl rfl rfl rfl rfl rfl) rfl rfl ?_
              refine To.pure rfl (Want.none rfl) rfl rfl (pe_pick rfl rfl rfl) ?_
              refine To.done ?_
              refine To.keep (Keep.cons 61 rfl (Keep.cons 3 rfl (Keep.cons 2 rfl Keep.nil))) ?_
              exact fun a w ha hw => ⟨true, hm, ha.keep (Keep.cons 2 rfl (Keep.cons 3 rfl (Keep.cons 61 rfl Keep.nil))), (Sel.imp (.cons (.s .z) (.dup (.s .z) inferInstance (.cons .z (.dup (.s .z) inferInstance (.drop (.drop .all))))))) w hw⟩
            · replace hm := ifF hc hm
              refine To.pure rfl (Want.of rfl rfl rfl rfl rfl rfl) rfl rfl (pe_fld rfl rfl fld26_5 ty9 rfl rfl) ?_
              refine To.pure rfl (Want.of rfl rfl rfl rfl rfl rfl) rfl rfl (pe_load rfl rfl (.s .z) .pt rfl (.d (.d (.d (.d (.d (.t .z)))))) ty9 rfl (fun _ => rfl) rfl) ?_
              refine To.pure rfl (Want.of rfl rfl rfl rfl rfl rfl) rfl rfl (pe_fld rfl rfl fld26_5 ty9 rfl rfl) ?_
              refine To.pure rfl (Want.of rfl rfl rfl rfl rfl rfl) rfl rfl (pe_load rfl rfl .z .pt rfl (.d (.d (.d (.d (.d (.t .z)))))) ty9 rfl (fun _ => rfl) rfl) ?_
              refine To.pure rfl (Want.of rfl rfl rfl rfl rfl rfl) rfl rfl (pe_str rfl rfl rfl bs_neq) ?_
              refine To.pure rfl (Want.none rfl) rfl rfl (pe_pick rfl rfl rfl) ?_
              refine To.pure rfl (Want.none rfl) rfl rfl (pe_move rfl rfl) ?_
              refine To.split 46 rfl (fun hc => ?_) (fun hc => ?_)
              · replace hm := ifT hc hm
                refine To.skipped rfl (Want.of rfl rfl rfl rfl rfl rfl) rfl rfl ?_
                refine To.skipped rfl (Want.of rfl rfl rfl rfl rfl rfl) rfl rfl ?_
                refine To.skipped rfl (Want.of rfl rfl rfl rfl rfl rfl) rfl rfl ?_
                refine To.skipped rfl (Want.of rfl rfl rfl rfl rfl rfl) rfl rfl ?_
                refine To.skipped rfl (Want.of rfl rfl rfl rfl rfl rfl) rfl rfl ?_
                refine To.pure rfl (Want.none rfl) rfl rfl (pe_pick rfl rfl rfl) ?_
                refine To.pure rfl (Want.none rfl) rfl rfl (pe_move rfl rfl) ?_
                refine To.skipped rfl (Want.of rfl rfl rfl rfl rfl rfl) rfl rfl ?_
                refine To.skipped rfl (Want.of rfl rfl rfl rfl rfl rfl) rfl rfl ?_
                refine To.skipped rfl (Want.of rfl rfl rfl rfl rfl rfl) rfl rfl ?_
                refine To.skipped rfl (Want.of rfl rfl rfl rfl rfl rfl) rfl rfl ?_
                refine To.skipped rfl (Want.of rfl rfl rfl rfl rfl rfl) rfl rfl ?_
                refine To.skipped rfl (Want.of rfl rfl rfl rfl rfl rfl) rfl rfl ?_
                refine To.skipped rfl (Want.of rfl rfl rfl rfl rfl rfl) rfl rfl ?_
                refine To.pure rfl (Want.none rfl) rfl rfl (pe_pick rfl rfl rfl) ?_
                refine To.done ?_
                refine To.keep (Keep.cons 61 rfl (Keep.cons 3 rfl (Keep.cons 2 rfl Keep.nil))) ?_
                exact fun a w ha hw => ⟨true, hm, ha.keep (Keep.cons 2 rfl (Keep.cons 3 rfl (Keep.cons 61 rfl Keep.nil))), (Sel.imp (.cons (.s .z) (.dup (.s .z) inferInstance (.cons .z (.dup (.s .z) inferInstance (.drop (.drop .all))))))) w hw⟩
              · replace hm := ifF hc hm
                refine To.pure rfl (Want.of rfl rfl rfl rfl rfl rfl) rfl rfl (pe_fld rfl rfl fld26_7 ty4 rfl rfl) ?_
                refine To.pure rfl (Want.of rfl rfl rfl rfl rfl rfl) rfl rfl (pe_load rfl rfl (.s .z) .pt rfl (.d (.d (.d (.d (.d (.d (.d (.t .z)))))))) ty4 rfl (fun _ => rfl) rfl) ?_
                refine To.pure rfl (Want.of rfl rfl rfl rfl rfl rfl) rfl rfl (pe_fld rfl rfl fld26_7 ty4 rfl rfl) ?_
                refine To.pure rfl (Want.of rfl rfl rfl rfl rfl rfl) rfl rfl (pe_load rfl rfl .z .pt rfl (.d (.d (.d (.d (.d (.d (.d (.t .z)))))))) ty4 rfl (fun _ => rfl) rfl) ?_
                refine To.pure rfl (Want.of rfl rfl rfl rfl rfl rfl) rfl rfl (pe_bneq rfl rfl rfl Tryz.underlying4) ?_
                refine To.pure rfl (Want.none rfl) rfl rfl (pe_pick rfl rfl rfl) ?_
                refine To.pure rfl (Want.none rfl) rfl rfl (pe_move rfl rfl) ?_
                refine To.split 53 rfl (fun hc => ?_) (fun hc => ?_)
                · replace hm := ifT hc hm
                  refine To.skipped rfl (Want.of rfl rfl rfl rfl rfl rfl) rfl rfl ?_
                  refine To.skipped rfl (Want.of rfl rfl rfl rfl rfl rfl) rfl rfl ?_
                  refine To.skipped rfl (Want.of rfl rfl rfl rfl rfl rfl) rfl rfl ?_
                  refine To.skipped rfl (Want.of rfl rfl rfl rfl rfl rfl) rfl rfl ?_
                  refine To.skipped rfl (Want.of rfl rfl rfl rfl rfl rfl) rfl rfl ?_
                  refine To.skipped rfl (Want.of rfl rfl rfl rfl rfl rfl) rfl rfl ?_
                  refine To.skipped rfl (Want.of rfl rfl rfl rfl rfl rfl) rfl rfl ?_
                  refine To.pure rfl (Want.none rfl) rfl rfl (pe_pick rfl rfl rfl) ?_
                  refine To.done ?_
                  refine To.keep (Keep.cons 61 rfl (Keep.cons 3 rfl (Keep.cons 2 rfl Keep.nil))) ?_
                  exact fun a w ha hw => ⟨true, hm, ha.keep (Keep.cons 2 rfl (Keep.cons 3 rfl (Keep.cons 61 rfl Keep.nil))), (Sel.imp (.cons (.s .z) (.dup (.s .z) inferInstance (.cons .z (.dup (.s .z) inferInstance (.drop (.drop .all))))))) w hw⟩
                · replace hm := ifF hc hm
                  refine To.pure rfl (Want.of rfl rfl rfl rfl rfl rfl) rfl rfl (pe_fld rfl rfl fld26_6 ty24 rfl rfl) ?_
                  refine To.pure rfl (Want.of rfl rfl rfl rfl rfl rfl) rfl rfl (pe_load rfl rfl (.s .z) .pt rfl (.d (.d (.d (.d (.d (.d (.t .z))))))) ty24 rfl (fun _ => rfl) rfl) ?_
                  refine To.pure rfl (Want.of rfl rfl rfl rfl rfl rfl) rfl rfl (pe_len rfl rfl Tryz.underlying24) ?_
                  refine To.pure rfl (Want.of rfl rfl rfl rfl rfl rfl) rfl rfl (pe_fld rfl rfl fld26_6 ty24 rfl rfl) ?_
                  refine To.pure rfl (Want.of rfl rfl rfl rfl rfl rfl) rfl rfl (pe_load rfl rfl .z .pt rfl (.d (.d (.d (.d (.d (.d (.t .z))))))) ty24 rfl (fun _ => rfl) rfl) ?_
                  refine To.pure rfl (Want.of rfl rfl rfl rfl rfl rfl) rfl rfl (pe_len rfl rfl Tryz.underlying24) ?_
                  refine To.pure rfl (Want.of rfl rfl rfl rfl rfl rfl) rfl rfl (pe_int rfl rfl rfl bi_neq) ?_
                  refine To.pure rfl (Want.none rfl) rfl rfl (pe_pick rfl rfl rfl) ?_
                  refine To.done ?_
                  refine To.keep (Keep.cons 61 rfl (Keep.cons 3 rfl (Keep.cons 2 rfl Keep.nil))) ?_
                  exact fun a w ha hw => ⟨((p1.Names.length : Int) != (p4.Names.length : Int)), hm, ha.keep (Keep.cons 2 rfl (Keep.cons 3 rfl (Keep.cons 61 rfl Keep.nil))), (Sel.imp (.cons (.s .z) (.dup (.s .z) inferInstance (.cons .z (.dup (.s .z) inferInstance (.drop (.drop .all))))))) w hw⟩
end Go.Proofs.M
