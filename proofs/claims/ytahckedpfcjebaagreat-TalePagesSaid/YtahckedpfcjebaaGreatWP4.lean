/- The fourth text under the proof of TalePages: of any records and any number of a cursor the statement TalePages returns true, and what came in reads as it did; no condition. -/
import Derived.Test.YtahckedpfcjebaaGreatWP3
import Derived.KernelRfl
set_option linter.unusedVariables false
set_option maxRecDepth 10000
namespace Go.Proofs.M
open Go Go.WG
/-- socage/socagelaw24.TaleRows -/
def law24_TaleRows.j4 (rec1494 : Bool → Int → Option Bool) (x1474 : Int) (x1505 : Bool) : Option Bool := (rec1494 x1505 (IntKind.i64.wrap (x1474 + 1)))
def law24_TaleRows.l3 (p1 : List T_sched_Record) (e1451 : T_sched_Record) (x1361 : Int) (rec1450 : Bool → Int → Option Bool) : Nat → Bool → Int → Option Bool
  | 0, _, _ => none
  | k1493 + 1, x1473, x1474 => (if (decide (x1474 < (p1.length : Int))) = true then ((ix p1 x1474).bind fun e1506 => ((tale_Before.f k1493 e1451 e1506).bind fun y1510 => (if (!(y1510 == (decide (e1451.Return < e1506.Call)))) = true then (some false) else (if x1473 = true then (if (decide (x1474 ≥ x1361)) = true then (law24_TaleRows.j4 (law24_TaleRows.l3 p1 e1451 x1361 rec1450 k1493) x1474 true) else (law24_TaleRows.j4 (law24_TaleRows.l3 p1 e1451 x1361 rec1450 k1493) x1474 (decide (e1451.Return ≥ e1506.Call)))) else (law24_TaleRows.j4 (law24_TaleRows.l3 p1 e1451 x1361 rec1450 k1493) x1474 false))))) else (rec1450 x1473 (IntKind.i64.wrap (x1361 + 1))))
def law24_TaleRows.j5 (x1527 : Bool) : Option Bool := (some x1527)
def law24_TaleRows.l2 (p1 : List T_sched_Record) (p4 : T_api_Result) (p7 : T_api_Result) : Nat → Bool → Int → Option Bool
  | 0, _, _ => none
  | k1449 + 1, x1360, x1361 => (if (decide (x1361 < (p1.length : Int))) = true then ((ix p1 x1361).bind fun e1451 => (law24_TaleRows.l3 p1 e1451 x1361 (law24_TaleRows.l2 p1 p4 p7 k1449) k1449 x1360 0)) else ((tale_Kept.f k1449 p1).bind fun y1528 => (if (y1528 == x1360) = true then ((tale_Same.f k1449 p4 p7).bind fun y1530 => ((ref12_Same.f k1449 p4 p7).bind fun y1531 => (if (y1530 == y1531) = true then ((tale_Same.f k1449 p4 p4).bind fun y1533 => (law24_TaleRows.j5 y1533)) else (law24_TaleRows.j5 false)))) else (law24_TaleRows.j5 false))))
def law24_TaleRows.j1 (p1 : List T_sched_Record) (p4 : T_api_Result) (p7 : T_api_Result) (k : Nat) (x1274 : Bool) : Option Bool := (if x1274 = true then (some true) else (law24_TaleRows.l2 p1 p4 p7 k true 0))
def law24_TaleRows.f (k : Nat) (p1 : List T_sched_Record) (p4 : T_api_Result) (p7 : T_api_Result) : Option Bool := ((law24_speaks.f 64).bind fun y1271 => (if (!y1271) = true then (some false) else ((law24_may.f k p1).bind fun y1536 => (if (!y1536) = true then (law24_TaleRows.j1 p1 p4 p7 k true) else (if (decide ((p4.Names.length : Int) > 100)) = true then (law24_TaleRows.j1 p1 p4 p7 k true) else (law24_TaleRows.j1 p1 p4 p7 k (decide ((p7.Names.length : Int) > 100))))))))
theorem law24_TaleRows.tri (k : Nat) {r : Bool} {p1 : List T_sched_Record} {p4 : T_api_Result} {p7 : T_api_Result} (hm : law24_TaleRows.f k p1 p4 p7 = some r) (a2 : Option Addr) (c3 : Nat) (a5 : Option Addr) (c6 : Nat) (a8 : Option Addr) (c9 : Nat) :
    Tri Tryz.prog 3 [.slice a2 p1.length c3, .agg ⟨[.int .i64 p4.Err, .int .i64 p4.Kind, .int .i64 p4.Size, .int .i64 p4.Where, .int .i64 p4.ID, .string (S p4.Text), .slice a5 p4.Names.length c6, .bool p4.End]⟩, .agg ⟨[.int .i64 p7.Err, .int .i64 p7.Kind, .int .i64 p7.Size, .int .i64 p7.Where, .int .i64 p7.ID, .string (S p7.Text), .slice a8 p7.Names.length c9, .bool p7.End]⟩] [imm k_sched_Record a2 c3 p1, imm kStr a5 c6 p4.Names, imm kStr a8 c9 p7.Names] (fun v H' => v = .bool r ∧ H' = []) := by
  refine Tri.intro3 Tryz.func3 rfl rfl rfl (fun F => ?_)
  unfold law24_TaleRows.f at hm
  refine To.seq ?_
  refine To.region (l := [0, 1, 2]) rfl ?_
  refine To.step rfl (Want.none rfl) rfl rfl (st_box rfl rfl rfl) ?_
  rintro _ _ ⟨b1269, rfl, rfl⟩
  refine To.step rfl (Want.none rfl) rfl rfl (st_box rfl rfl rfl) ?_
  rintro _ _ ⟨b1270, rfl, rfl⟩
  refine To.pure rfl (Want.none rfl) rfl rfl (pe_assign rfl rfl) ?_
  refine To.done ?_
  refine To.keep (Keep.cons 5 rfl (Keep.cons 4 rfl (Keep.cons 0 rfl Keep.nil))) ?_
  refine To.nx ?_
  refine To.seq ?_
  refine To.seq ?_
  refine To.region (l := [0, 1]) rfl ?_
  obtain ⟨y1271, h_y1271, hm⟩ := bindE hm
  refine To.step rfl (Want.none rfl) rfl rfl (st_call (law24_speaks.tri 64 h_y1271) rfl rfl fun5 .all) ?_
  rintro _ _ ⟨_, ⟨rfl, rfl⟩, rfl⟩
  refine To.app0 ?_
  refine To.pure rfl (Want.none rfl) rfl rfl (pe_not rfl rfl) ?_
  refine To.done ?_
  refine To.keep (Keep.cons 13 rfl (Keep.cons 5 rfl (Keep.cons 4 rfl (Keep.cons 0 rfl Keep.nil)))) ?_
  refine To.nx ?_
  refine To.cond rfl (fun hc => ?_) (fun hc => ?_)
  · replace hm := ifT hc hm
    refine To.seq ?_
    refine To.region (l := [0]) rfl ?_
    refine To.pure rfl (Want.none rfl) rfl rfl (pe_assign rfl rfl) ?_
    refine To.done ?_
    refine To.keep (Keep.cons 6 rfl Keep.nil) ?_
    refine To.sel (.drop (.drop (.drop (.drop (.drop .all))))) ?_
    refine To.nx ?_
    refine To.ret ?_
    refine To.tr ?_
    cases hm
    exact To.back rfl (.tmp rfl .nil) rfl ⟨rfl, rfl⟩ .all
  · replace hm := ifF hc hm
    refine To.skip ?_
    refine To.nx ?_
    refine To.seq ?_
    refine To.cut (fun a w => ∃ (x1274 : Bool), law24_TaleRows.j1 p1 p4 p7 k x1274 = some r ∧ Knows 85 a [(0, .slice a2 p1.length c3), (4, .pointer (some ⟨b1269, 0, none⟩)), (5, .pointer (some ⟨b1270, 0, none⟩)), (28, .bool x1274)] ∧ Holds w (imm k_sched_Record a2 c3 p1 :: pt b1269 0 [.int .i64 p4.Err, .int .i64 p4.Kind, .int .i64 p4.Size, .int .i64 p4.Where, .int .i64 p4.ID, .string (S p4.Text), .slice a5 p4.Names.length c6, .bool p4.End] :: imm kStr a5 c6 p4.Names :: pt b1270 0 [.int .i64 p7.Err, .int .i64 p7.Kind, .int .i64 p7.Size, .int .i64 p7.Where, .int .i64 p7.ID, .string (S p7.Text), .slice a8 p7.Names.length c9, .bool p7.End] :: imm kStr a8 c9 p7.Names :: F)) ?_ ?_
    · rintro a w ⟨x1274, hm, ha, hw⟩
      refine To.at ha hw ?_
      clear ha hw a w
      unfold law24_TaleRows.j1 at hm
      refine To.cond rfl (fun hc => ?_) (fun hc => ?_)
      · replace hm := ifT hc hm
        refine To.seq ?_
        refine To.region (l := [0]) rfl ?_
        refine To.pure rfl (Want.none rfl) rfl rfl (pe_assign rfl rfl) ?_
        refine To.done ?_
        refine To.keep (Keep.cons 6 rfl Keep.nil) ?_
        refine To.sel (.drop (.drop (.drop (.drop (.drop .all))))) ?_
        refine To.nx ?_
        refine To.ret ?_
        refine To.tr ?_
        cases hm
        exact To.back rfl (.tmp rfl .nil) rfl ⟨rfl, rfl⟩ .all
      · replace hm := ifF hc hm
        refine To.skip ?_
        refine To.nx ?_
        refine To.seq ?_
        refine To.region (l := [0]) rfl ?_
        refine To.pure rfl (Want.none rfl) rfl rfl (pe_assign rfl rfl) ?_
        refine To.done ?_
        refine To.keep (Keep.cons 7 rfl (Keep.cons 0 rfl (Keep.cons 4 rfl (Keep.cons 5 rfl Keep.nil)))) ?_
        refine To.nx ?_
        refine To.seq ?_
        refine To.seq ?_
        refine To.region (l := [0, 1, 2]) rfl ?_
        refine To.pure rfl (Want.none rfl) rfl rfl (pe_move rfl rfl) ?_
        refine To.pure rfl (Want.none rfl) rfl rfl (pe_len rfl rfl Tryz.underlying22) ?_
        refine To.pure rfl (Want.none rfl) rfl rfl (pe_move rfl rfl) ?_
        refine To.done ?_
        refine To.keep (Keep.cons 31 rfl (Keep.cons 30 rfl (Keep.cons 29 rfl (Keep.cons 7 rfl (Keep.cons 0 rfl (Keep.cons 4 rfl (Keep.cons 5 rfl Keep.nil))))))) ?_
        refine To.nx ?_
        refine To.block ?_
        refine To.loop (fun kk a w => ∃ (x1360 : Bool), ∃ (x1361 : Int), law24_TaleRows.l2 p1 p4 p7 kk x1360 x1361 = some r ∧ Knows 85 a [(0, .slice a2 p1.length c3), (4, .pointer (some ⟨b1269, 0, none⟩)), (5, .pointer (some ⟨b1270, 0, none⟩)), (7, .bool x1360), (29, .slice a2 p1.length c3), (30, .int .i64 (p1.length : Int)), (31, .int .i64 x1361)] ∧ Holds w (imm k_sched_Record a2 c3 p1 :: pt b1269 0 [.int .i64 p4.Err, .int .i64 p4.Kind, .int .i64 p4.Size, .int .i64 p4.Where, .int .i64 p4.ID, .string (S p4.Text), .slice a5 p4.Names.length c6, .bool p4.End] :: imm kStr a5 c6 p4.Names :: pt b1270 0 [.int .i64 p7.Err, .int .i64 p7.Kind, .int .i64 p7.Size, .int .i64 p7.Where, .int .i64 p7.ID, .string (S p7.Text), .slice a8 p7.Names.length c9, .bool p7.End] :: imm kStr a8 c9 p7.Names :: F)) ?_ ?_ k ?_
        · rintro a w ⟨_, _, hm, _, _⟩; rw [law24_TaleRows.l2] at hm; cases hm
        · rintro k1449 a w ⟨x1360, x1361, hm, ha, hw⟩
          refine To.at ha hw ?_
          clear ha hw a w
          rw [law24_TaleRows.l2] at hm
          refine To.seq ?_
          refine To.region (l := [0]) rfl ?_
          refine To.pure rfl (Want.none rfl) rfl rfl (pe_int rfl rfl rfl bi_lss) ?_
          refine To.done ?_
          refine To.keep (Keep.cons 32 rfl (Keep.cons 0 rfl (Keep.cons 4 rfl (Keep.cons 5 rfl (Keep.cons 7 rfl (Keep.cons 29 rfl (Keep.cons 30 rfl (Keep.cons 31 rfl Keep.nil)))))))) ?_
          refine To.nx ?_
          refine To.seq ?_
          refine To.cond rfl (fun hc => ?_) (fun hc => ?_)
          · replace hm := ifT hc hm
            refine To.skip ?_
            refine To.nx ?_
            refine To.seq ?_
            refine To.block ?_
            refine To.seq ?_
            refine To.region (l := [0, 1, 2, 3, 4, 5]) rfl ?_
            refine To.pure rfl (Want.none rfl) rfl rfl (pe_move rfl rfl) ?_
            obtain ⟨e1451, h_e1451, hm⟩ := bindE hm
            obtain ⟨h0_e1451, hl_e1451, hx_e1451⟩ := ixE h_e1451
            refine To.el_sched_Record (i := (x1361 : Int).toNat) .z hx_e1451 ?_
            rintro b1454 r1455 a1452 c1453 e; cases e
            refine To.pure rfl (Want.none rfl) rfl rfl (pe_idx rfl rfl rfl Tryz.underlying22 ty32 h0_e1451 hl_e1451 rfl) ?_
            refine To.pure rfl (Want.none rfl) rfl rfl (pe_load rfl rfl (.s .z) .ro rfl (.t (.t (.t (.t (.t (.t (.t (.t (.t (.t (.t (.t (.t (.t (.t (.t (.t (.t (.t .z))))))))))))))))))) ty32 rfl nofun rfl) ?_
            refine To.step rfl (Want.none rfl) rfl rfl (st_alloc rfl zero32) ?_
            rintro _ _ ⟨b1456, rfl, rfl⟩
            refine To.pure rfl (Want.none rfl) rfl rfl (pe_assign rfl rfl) ?_
            refine To.step0 rfl (Want.none rfl) rfl (st_store rfl rfl rfl rfl .z rfl (.t (.t (.t (.t (.t (.t (.t (.t (.t (.t (.t (.t (.t (.t (.t (.t (.t (.t (.t .z))))))))))))))))))) ty32 rfl rfl) ?_
            rintro _ _ rfl
            refine To.done ?_
            refine To.keep (Keep.cons 8 rfl (Keep.cons 9 rfl (Keep.cons 0 rfl (Keep.cons 4 rfl (Keep.cons 5 rfl (Keep.cons 7 rfl (Keep.cons 29 rfl (Keep.cons 30 rfl (Keep.cons 31 rfl Keep.nil))))))))) ?_
            refine To.sel (.cons .z (.cons .z (.drop .all))) ?_
            refine To.nx ?_
            refine To.seq ?_
            refine To.region (l := [0, 1, 2]) rfl ?_
            refine To.pure rfl (Want.none rfl) rfl rfl (pe_move rfl rfl) ?_
            refine To.pure rfl (Want.none rfl) rfl rfl (pe_len rfl rfl Tryz.underlying22) ?_
            refine To.pure rfl (Want.none rfl) rfl rfl (pe_move rfl rfl) ?_
            refine To.done ?_
            refine To.keep (Keep.cons 38 rfl (Keep.cons 37 rfl (Keep.cons 36 rfl (Keep.cons 8 rfl (Keep.cons 9 rfl (Keep.cons 0 rfl (Keep.cons 4 rfl (Keep.cons 5 rfl (Keep.cons 7 rfl (Keep.cons 29 rfl (Keep.cons 30 rfl (Keep.cons 31 rfl Keep.nil)))))))))))) ?_
            refine To.nx ?_
            refine To.block ?_
            refine To.loop (fun kk a w => ∃ (x1473 : Bool), ∃ (x1474 : Int), law24_TaleRows.l3 p1 e1451 x1361 (law24_TaleRows.l2 p1 p4 p7 k1449) kk x1473 x1474 = some r ∧ Knows 85 a [(0, .slice (some ⟨b1454, r1455, none⟩) p1.length c3), (4, .pointer (some ⟨b1269, 0, none⟩)), (5, .pointer (some ⟨b1270, 0, none⟩)), (7, .bool x1473), (8, .int .i64 x1361), (9, .pointer (some ⟨b1456, 0, none⟩)), (29, .slice (some ⟨b1454, r1455, none⟩) p1.length c3), (30, .int .i64 (p1.length : Int)), (31, .int .i64 x1361), (36, .slice (some ⟨b1454, r1455, none⟩) p1.length c3), (37, .int .i64 (p1.length : Int)), (38, .int .i64 x1474)] ∧ Holds w (imm k_sched_Record (some ⟨b1454, r1455, none⟩) c3 p1 :: pt b1269 0 [.int .i64 p4.Err, .int .i64 p4.Kind, .int .i64 p4.Size, .int .i64 p4.Where, .int .i64 p4.ID, .string (S p4.Text), .slice a5 p4.Names.length c6, .bool p4.End] :: imm kStr a5 c6 p4.Names :: pt b1270 0 [.int .i64 p7.Err, .int .i64 p7.Kind, .int .i64 p7.Size, .int .i64 p7.Where, .int .i64 p7.ID, .string (S p7.Text), .slice a8 p7.Names.length c9, .bool p7.End] :: imm kStr a8 c9 p7.Names :: pt b1456 0 [.int .i64 e1451.Client, .int .i64 e1451.Index, .int .i64 e1451.Op.Kind, .string (S e1451.Op.Path), .int .i64 e1451.Op.Off, .int .i64 e1451.Op.N, .int .i64 e1451.Op.ID, .string (S e1451.Op.Image), .int .i64 e1451.Result.Err, .int .i64 e1451.Result.Kind, .int .i64 e1451.Result.Size, .int .i64 e1451.Result.Where, .int .i64 e1451.Result.ID, .string (S e1451.Result.Text), .slice a1452 e1451.Result.Names.length c1453, .bool e1451.Result.End, .int .i64 e1451.Call, .int .i64 e1451.Mark, .int .i64 e1451.Return] :: imm kStr a1452 c1453 e1451.Result.Names :: F)) ?_ ?_ k1449 ?_
            · rintro a w ⟨_, _, hm, _, _⟩; rw [law24_TaleRows.l3] at hm; cases hm
            · rintro k1493 a w ⟨x1473, x1474, hm, ha, hw⟩
              refine To.at ha hw ?_
              clear ha hw a w
              rw [law24_TaleRows.l3] at hm
              refine To.seq ?_
              refine To.region (l := [0]) rfl ?_
              refine To.pure rfl (Want.none rfl) rfl rfl (pe_int rfl rfl rfl bi_lss) ?_
              refine To.done ?_
              refine To.keep (Keep.cons 39 rfl (Keep.cons 0 rfl (Keep.cons 4 rfl (Keep.cons 5 rfl (Keep.cons 7 rfl (Keep.cons 8 rfl (Keep.cons 9 rfl (Keep.cons 29 rfl (Keep.cons 30 rfl (Keep.cons 31 rfl (Keep.cons 36 rfl (Keep.cons 37 rfl (Keep.cons 38 rfl Keep.nil))))))))))))) ?_
              refine To.nx ?_
              refine To.seq ?_
              refine To.cond rfl (fun hc => ?_) (fun hc => ?_)
              · replace hm := ifT hc hm
                refine To.skip ?_
                refine To.nx ?_
                refine To.cut (fun a w => ∃ (x1505 : Bool), law24_TaleRows.j4 (law24_TaleRows.l3 p1 e1451 x1361 (law24_TaleRows.l2 p1 p4 p7 k1449) k1493) x1474 x1505 = some r ∧ Knows 85 a [(0, .slice (some ⟨b1454, r1455, none⟩) p1.length c3), (4, .pointer (some ⟨b1269, 0, none⟩)), (5, .pointer (some ⟨b1270, 0, none⟩)), (7, .bool x1505), (8, .int .i64 x1361), (9, .pointer (some ⟨b1456, 0, none⟩)), (29, .slice (some ⟨b1454, r1455, none⟩) p1.length c3), (30, .int .i64 (p1.length : Int)), (31, .int .i64 x1361), (36, .slice (some ⟨b1454, r1455, none⟩) p1.length c3), (37, .int .i64 (p1.length : Int)), (38, .int .i64 x1474)] ∧ Holds w (imm k_sched_Record (some ⟨b1454, r1455, none⟩) c3 p1 :: pt b1269 0 [.int .i64 p4.Err, .int .i64 p4.Kind, .int .i64 p4.Size, .int .i64 p4.Where, .int .i64 p4.ID, .string (S p4.Text), .slice a5 p4.Names.length c6, .bool p4.End] :: imm kStr a5 c6 p4.Names :: pt b1270 0 [.int .i64 p7.Err, .int .i64 p7.Kind, .int .i64 p7.Size, .int .i64 p7.Where, .int .i64 p7.ID, .string (S p7.Text), .slice a8 p7.Names.length c9, .bool p7.End] :: imm kStr a8 c9 p7.Names :: pt b1456 0 [.int .i64 e1451.Client, .int .i64 e1451.Index, .int .i64 e1451.Op.Kind, .string (S e1451.Op.Path), .int .i64 e1451.Op.Off, .int .i64 e1451.Op.N, .int .i64 e1451.Op.ID, .string (S e1451.Op.Image), .int .i64 e1451.Result.Err, .int .i64 e1451.Result.Kind, .int .i64 e1451.Result.Size, .int .i64 e1451.Result.Where, .int .i64 e1451.Result.ID, .string (S e1451.Result.Text), .slice a1452 e1451.Result.Names.length c1453, .bool e1451.Result.End, .int .i64 e1451.Call, .int .i64 e1451.Mark, .int .i64 e1451.Return] :: imm kStr a1452 c1453 e1451.Result.Names :: F)) ?_ ?_
                · rintro a w ⟨x1505, hm, ha, hw⟩
                  refine To.at ha hw ?_
                  clear ha hw a w
                  unfold law24_TaleRows.j4 at hm
                  refine To.region (l := [0, 1]) rfl ?_
                  refine To.pure rfl (Want.none rfl) rfl rfl (pe_int rfl rfl rfl bi_add) ?_
                  refine To.pure rfl (Want.none rfl) rfl rfl (pe_move rfl rfl) ?_
                  refine To.done ?_
                  refine To.keep (Keep.cons 38 rfl (Keep.cons 0 rfl (Keep.cons 4 rfl (Keep.cons 5 rfl (Keep.cons 7 rfl (Keep.cons 8 rfl (Keep.cons 9 rfl (Keep.cons 29 rfl (Keep.cons 30 rfl (Keep.cons 31 rfl (Keep.cons 36 rfl (Keep.cons 37 rfl Keep.nil)))))))))))) ?_
                  exact fun a w ha hw => ⟨x1505, IntKind.i64.wrap (x1474 + 1), hm, ha.keep (Keep.cons 0 rfl (Keep.cons 4 rfl (Keep.cons 5 rfl (Keep.cons 7 rfl (Keep.cons 8 rfl (Keep.cons 9 rfl (Keep.cons 29 rfl (Keep.cons 30 rfl (Keep.cons 31 rfl (Keep.cons 36 rfl (Keep.cons 37 rfl (Keep.cons 38 rfl Keep.nil)))))))))))), (Sel.imp (.dup .z inferInstance (.cons (.s .z) (.dup (.s .z) inferInstance (.cons (.s (.s .z)) (.dup (.s (.s .z)) inferInstance (.cons (.s (.s (.s .z))) (.dup (.s (.s (.s .z))) inferInstance (.drop (.drop (.drop (.drop .all)))))))))))) w hw⟩
                · skip
                  refine To.block ?_
                  refine To.seq ?_
                  refine To.region (l := [0, 1, 2, 3, 4, 5]) rfl ?_
                  refine To.pure rfl (Want.none rfl) rfl rfl (pe_move rfl rfl) ?_
                  obtain ⟨e1506, h_e1506, hm⟩ := bindE hm
                  obtain ⟨h0_e1506, hl_e1506, hx_e1506⟩ := ixE h_e1506
                  refine To.el_sched_Record (i := (x1474 : Int).toNat) .z hx_e1506 ?_
                  rintro _ _ a1507 c1508 e; cases e
                  refine To.pure rfl (Want.none rfl) rfl rfl (pe_idx rfl rfl rfl Tryz.underlying22 ty32 h0_e1506 hl_e1506 rfl) ?_
                  refine To.pure rfl (Want.none rfl) rfl rfl (pe_load rfl rfl (.s .z) .ro rfl (.t (.t (.t (.t (.t (.t (.t (.t (.t (.t (.t (.t (.t (.t (.t (.t (.t (.t (.t .z))))))))))))))))))) ty32 rfl nofun rfl) ?_
                  refine To.step rfl (Want.none rfl) rfl rfl (st_alloc rfl zero32) ?_
                  rintro _ _ ⟨b1509, rfl, rfl⟩
                  refine To.pure rfl (Want.none rfl) rfl rfl (pe_assign rfl rfl) ?_
                  refine To.step0 rfl (Want.none rfl) rfl (st_store rfl rfl rfl rfl .z rfl (.t (.t (.t (.t (.t (.t (.t (.t (.t (.t (.t (.t (.t (.t (.t (.t (.t (.t (.t .z))))))))))))))))))) ty32 rfl rfl) ?_
                  rintro _ _ rfl
                  refine To.done ?_
                  refine To.keep (Keep.cons 10 rfl (Keep.cons 11 rfl (Keep.cons 0 rfl (Keep.cons 4 rfl (Keep.cons 5 rfl (Keep.cons 7 rfl (Keep.cons 8 rfl (Keep.cons 9 rfl (Keep.cons 29 rfl (Keep.cons 30 rfl (Keep.cons 31 rfl (Keep.cons 36 rfl (Keep.cons 37 rfl (Keep.cons 38 rfl Keep.nil)))))))))))))) ?_
                  refine To.sel (.cons .z (.cons .z (.drop .all))) ?_
                  refine To.nx ?_
                  refine To.seq ?_
                  refine To.seq ?_
                  refine To.draws [0, 0, 3, 0, 8, 0, 32, 120, 255] mixed (by kernel_rfl) (by kernel_rfl) ?_
                  refine Dr.pure 0 43 _ _ rfl rfl rfl rfl rfl rfl (by kernel_rfl) (PureG.of (Want.none rfl) (pe_load rfl rfl (.s (.s (.s (.s (.s (.s (.s .z))))))) .pt rfl (.t (.t (.t (.t (.t (.t (.t (.t (.t (.t (.t (.t (.t (.t (.t (.t (.t (.t (.t .z))))))))))))))))))) ty32 rfl nofun rfl)) ?_
                  refine Dr.pure 1 44 _ _ rfl rfl rfl rfl rfl rfl (by kernel_rfl) (PureG.of (Want.none rfl) (pe_load rfl rfl .z .pt rfl (.t (.t (.t (.t (.t (.t (.t (.t (.t (.t (.t (.t (.t (.t (.t (.t (.t (.t (.t .z))))))))))))))))))) ty32 rfl nofun rfl)) ?_
                  refine Dr.pure 3 46 _ _ rfl rfl rfl rfl rfl rfl (by kernel_rfl) (PureG.of (Want.none rfl) (pe_fld rfl rfl fld32_6 ty3 rfl rfl)) ?_
                  refine Dr.pure 4 47 _ _ rfl rfl rfl rfl rfl rfl (by kernel_rfl) (PureG.of (Want.none rfl) (pe_load rfl rfl (.s (.s (.s (.s (.s (.s (.s .z))))))) .pt rfl (.d (.d (.d (.d (.d (.d (.d (.d (.d (.d (.d (.d (.d (.d (.d (.d (.d (.d (.t .z))))))))))))))))))) ty3 rfl (fun _ => rfl) rfl)) ?_
                  refine Dr.pure 5 48 _ _ rfl rfl rfl rfl rfl rfl (by kernel_rfl) (PureG.of (Want.none rfl) (pe_fld rfl rfl fld32_4 ty3 rfl rfl)) ?_
                  refine Dr.pure 6 49 _ _ rfl rfl rfl rfl rfl rfl (by kernel_rfl) (PureG.of (Want.none rfl) (pe_load rfl rfl .z .pt rfl (.d (.d (.d (.d (.d (.d (.d (.d (.d (.d (.d (.d (.d (.d (.d (.d (.t .z))))))))))))))))) ty3 rfl (fun _ => rfl) rfl)) ?_
                  refine Dr.pure 7 50 _ _ rfl rfl rfl rfl rfl rfl (by kernel_rfl) (PureG.of (Want.none rfl) (pe_int rfl rfl rfl bi_lss)) ?_
                  obtain ⟨y1510, h_y1510, hm⟩ := bindE hm
                  refine Dr.step1 2 _ _ (by kernel_rfl) rfl rfl (by kernel_rfl) (Want.none rfl) (st_call (tale_Before.tri k1493 h_y1510 a1452 c1453 a1507 c1508) rfl rfl fun7 (.dup (.s (.s (.s (.s (.s (.s (.s (.s .z)))))))) inferInstance (.dup (.s .z) inferInstance .all))) ?_ ?_
                  · rintro _ _ ⟨_, ⟨rfl, rfl⟩, rfl⟩
                    exact (Again.new rfl (PureG.of (Want.none rfl) (pe_int rfl rfl rfl bi_lss)) (Again.new rfl (PureG.of (Want.none rfl) (pe_load rfl rfl .z .pt rfl (.d (.d (.d (.d (.d (.d (.d (.d (.d (.d (.d (.d (.d (.d (.d (.d (.t .z))))))))))))))))) ty3 rfl (fun _ => rfl) rfl)) (Again.new rfl (PureG.of (Want.none rfl) (pe_fld rfl rfl fld32_4 ty3 rfl rfl)) (Again.new rfl (PureG.of (Want.none rfl) (pe_load rfl rfl (.s (.s (.s (.s (.s (.s (.s .z))))))) .pt rfl (.d (.d (.d (.d (.d (.d (.d (.d (.d (.d (.d (.d (.d (.d (.d (.d (.d (.d (.t .z))))))))))))))))))) ty3 rfl (fun _ => rfl) rfl)) (Again.new rfl (PureG.of (Want.none rfl) (pe_fld rfl rfl fld32_6 ty3 rfl rfl)) (Again.anc (by kernel_rfl) (Again.anc (by kernel_rfl) Again.nil)))))))
                  rintro _ _ ⟨_, ⟨rfl, rfl⟩, rfl⟩
                  refine Dr.app0 ?_
                  refine Dr.pure 8 51 _ _ rfl rfl rfl rfl rfl rfl (by kernel_rfl) (PureG.of (Want.none rfl) (pe_bneq rfl rfl rfl Tryz.underlying4)) ?_
                  refine Dr.done (by kernel_rfl) ?_
                  refine To.keep (Keep.cons 51 rfl (Keep.cons 10 rfl (Keep.cons 11 rfl (Keep.cons 0 rfl (Keep.cons 4 rfl (Keep.cons 5 rfl (Keep.cons 7 rfl (Keep.cons 8 rfl (Keep.cons 9 rfl (Keep.cons 29 rfl (Keep.cons 30 rfl (Keep.cons 31 rfl (Keep.cons 36 rfl (Keep.cons 37 rfl (Keep.cons 38 rfl Keep.nil))))))))))))))) ?_
                  refine To.nx ?_
                  refine To.cond rfl (fun hc => ?_) (fun hc => ?_)
                  · replace hm := ifT hc hm
                    refine To.seq ?_
                    refine To.region (l := [0]) rfl ?_
                    refine To.pure rfl (Want.none rfl) rfl rfl (pe_assign rfl rfl) ?_
                    refine To.done ?_
                    refine To.keep (Keep.cons 6 rfl Keep.nil) ?_
                    refine To.sel (.drop (.drop (.drop (.drop (.drop (.drop (.drop (.drop (.drop .all))))))))) ?_
                    refine To.nx ?_
                    refine To.ret ?_
                    refine To.tr ?_
                    refine To.br ?_
                    refine To.tr ?_
                    refine To.tr ?_
                    refine To.br ?_
                    refine To.br ?_
                    refine To.tr ?_
                    refine To.tr ?_
                    refine To.br ?_
                    refine To.tr ?_
                    cases hm
                    exact To.back rfl (.tmp rfl .nil) rfl ⟨rfl, rfl⟩ .all
                  · replace hm := ifF hc hm
                    refine To.skip ?_
                    refine To.nx ?_
                    refine To.region (l := [0, 1, 2, 3, 4, 5, 6, 7, 8, 9, 10, 11, 12, 13]) rfl ?_
                    refine To.pure rfl (Want.none rfl) rfl rfl (pe_move rfl rfl) ?_
                    refine To.pure rfl (Want.none rfl) rfl rfl (pe_move rfl rfl) ?_
                    refine To.split 53 rfl (fun hc => ?_) (fun hc => ?_)
                    · replace hm := ifT hc hm
                      refine To.pure rfl (Want.of rfl rfl rfl rfl rfl rfl) rfl rfl (pe_move rfl rfl) ?_
                      refine To.pure rfl (Want.of rfl rfl rfl rfl rfl rfl) rfl rfl (pe_move rfl rfl) ?_
                      refine To.pure rfl (Want.of rfl rfl rfl rfl rfl rfl) rfl rfl (pe_int rfl rfl rfl bi_geq) ?_
                      refine To.pure rfl (Want.of rfl rfl rfl rfl rfl rfl) rfl rfl (pe_move rfl rfl) ?_
                      refine To.split 57 rfl (fun hc => ?_) (fun hc => ?_)
                      · replace hm := ifT hc hm
                        refine To.skipped rfl (Want.of rfl rfl rfl rfl rfl rfl) rfl rfl ?_
                        refine To.skipped rfl (Want.of rfl rfl rfl rfl rfl rfl) rfl rfl ?_
                        refine To.skipped rfl (Want.of rfl rfl rfl rfl rfl rfl) rfl rfl ?_
                        refine To.skipped rfl (Want.of rfl rfl rfl rfl rfl rfl) rfl rfl ?_
                        refine To.skipped rfl (Want.of rfl rfl rfl rfl rfl rfl) rfl rfl ?_
                        refine To.pure rfl (Want.of rfl rfl rfl rfl rfl rfl) rfl rfl (pe_pick rfl rfl rfl) ?_
                        refine To.pure rfl (Want.none rfl) rfl rfl (pe_pick rfl rfl rfl) ?_
                        refine To.pure rfl (Want.none rfl) rfl rfl (pe_assign rfl rfl) ?_
                        refine To.done ?_
                        refine To.keep (Keep.cons 7 rfl (Keep.cons 0 rfl (Keep.cons 4 rfl (Keep.cons 5 rfl (Keep.cons 8 rfl (Keep.cons 9 rfl (Keep.cons 29 rfl (Keep.cons 30 rfl (Keep.cons 31 rfl (Keep.cons 36 rfl (Keep.cons 37 rfl (Keep.cons 38 rfl Keep.nil)))))))))))) ?_
                        refine To.sel (.drop (.drop .all)) ?_
                        refine To.bn ?_
                        exact fun a w ha hw => ⟨true, hm, ha.keep (Keep.cons 0 rfl (Keep.cons 4 rfl (Keep.cons 5 rfl (Keep.cons 7 rfl (Keep.cons 8 rfl (Keep.cons 9 rfl (Keep.cons 29 rfl (Keep.cons 30 rfl (Keep.cons 31 rfl (Keep.cons 36 rfl (Keep.cons 37 rfl (Keep.cons 38 rfl Keep.nil)))))))))))), (Sel.imp (.dup .z inferInstance (.cons (.s .z) (.dup (.s .z) inferInstance (.cons (.s (.s .z)) (.dup (.s (.s .z)) inferInstance (.cons (.s (.s (.s .z))) (.dup (.s (.s (.s .z))) inferInstance (.drop (.drop (.drop (.drop .all)))))))))))) w hw⟩
                      · replace hm := ifF hc hm
                        refine To.pure rfl (Want.of rfl rfl rfl rfl rfl rfl) rfl rfl (pe_fld rfl rfl fld32_6 ty3 rfl rfl) ?_
                        refine To.pure rfl (Want.of rfl rfl rfl rfl rfl rfl) rfl rfl (pe_load rfl rfl (.s (.s (.s (.s (.s (.s (.s .z))))))) .pt rfl (.d (.d (.d (.d (.d (.d (.d (.d (.d (.d (.d (.d (.d (.d (.d (.d (.d (.d (.t .z))))))))))))))))))) ty3 rfl (fun _ => rfl) rfl) ?_
                        refine To.pure rfl (Want.of rfl rfl rfl rfl rfl rfl) rfl rfl (pe_fld rfl rfl fld32_4 ty3 rfl rfl) ?_
                        refine To.pure rfl (Want.of rfl rfl rfl rfl rfl rfl) rfl rfl (pe_load rfl rfl .z .pt rfl (.d (.d (.d (.d (.d (.d (.d (.d (.d (.d (.d (.d (.d (.d (.d (.d (.t .z))))))))))))))))) ty3 rfl (fun _ => rfl) rfl) ?_
                        refine To.pure rfl (Want.of rfl rfl rfl rfl rfl rfl) rfl rfl (pe_int rfl rfl rfl bi_geq) ?_
                        refine To.pure rfl (Want.of rfl rfl rfl rfl rfl rfl) rfl rfl (pe_pick rfl rfl rfl) ?_
                        refine To.pure rfl (Want.none rfl) rfl rfl (pe_pick rfl rfl rfl) ?_
                        refine To.pure rfl (Want.none rfl) rfl rfl (pe_assign rfl rfl) ?_
                        refine To.done ?_
                        refine To.keep (Keep.cons 7 rfl (Keep.cons 0 rfl (Keep.cons 4 rfl (Keep.cons 5 rfl (Keep.cons 8 rfl (Keep.cons 9 rfl (Keep.cons 29 rfl (Keep.cons 30 rfl (Keep.cons 31 rfl (Keep.cons 36 rfl (Keep.cons 37 rfl (Keep.cons 38 rfl Keep.nil)))))))))))) ?_
                        refine To.sel (.drop (.drop .all)) ?_
                        refine To.bn ?_
                        exact fun a w ha hw => ⟨decide (e1451.Return ≥ e1506.Call), hm, ha.keep (Keep.cons 0 rfl (Keep.cons 4 rfl (Keep.cons 5 rfl (Keep.cons 7 rfl (Keep.cons 8 rfl (Keep.cons 9 rfl (Keep.cons 29 rfl (Keep.cons 30 rfl (Keep.cons 31 rfl (Keep.cons 36 rfl (Keep.cons 37 rfl (Keep.cons 38 rfl Keep.nil)))))))))))), (Sel.imp (.dup .z inferInstance (.cons (.s .z) (.dup (.s .z) inferInstance (.cons (.s (.s .z)) (.dup (.s (.s .z)) inferInstance (.cons (.s (.s (.s .z))) (.dup (.s (.s (.s .z))) inferInstance (.drop (.drop (.drop (.drop .all)))))))))))) w hw⟩
                    · replace hm := ifF hc hm
                      refine To.skipped rfl (Want.of rfl rfl rfl rfl rfl rfl) rfl rfl ?_
                      refine To.skipped rfl (Want.of rfl rfl rfl rfl rfl rfl) rfl rfl ?_
                      refine To.skipped rfl (Want.of rfl rfl rfl rfl rfl rfl) rfl rfl ?_
                      refine To.skipped rfl (Want.of rfl rfl rfl rfl rfl rfl) rfl rfl ?_
                      refine To.skipped rfl (Want.undefd rfl rfl rfl rfl rfl) rfl rfl ?_
                      refine To.skipped rfl (Want.undefd rfl rfl rfl rfl rfl) rfl rfl ?_
                      refine To.skipped rfl (Want.undefd rfl rfl rfl rfl rfl) rfl rfl ?_
                      refine To.skipped rfl (Want.undefd rfl rfl rfl rfl rfl) rfl rfl ?_
                      refine To.skipped rfl (Want.undefd rfl rfl rfl rfl rfl) rfl rfl ?_
                      refine To.skipped rfl (Want.of rfl rfl rfl rfl rfl rfl) rfl rfl ?_
                      refine To.pure rfl (Want.none rfl) rfl rfl (pe_pick rfl rfl rfl) ?_
                      refine To.pure rfl (Want.none rfl) rfl rfl (pe_assign rfl rfl) ?_
                      refine To.done ?_
                      refine To.keep (Keep.cons 7 rfl (Keep.cons 0 rfl (Keep.cons 4 rfl (Keep.cons 5 rfl (Keep.cons 8 rfl (Keep.cons 9 rfl (Keep.cons 29 rfl (Keep.cons 30 rfl (Keep.cons 31 rfl (Keep.cons 36 rfl (Keep.cons 37 rfl (Keep.cons 38 rfl Keep.nil)))))))))))) ?_
                      refine To.sel (.drop (.drop .all)) ?_
                      refine To.bn ?_
                      exact fun a w ha hw => ⟨false, hm, ha.keep (Keep.cons 0 rfl (Keep.cons 4 rfl (Keep.cons 5 rfl (Keep.cons 7 rfl (Keep.cons 8 rfl (Keep.cons 9 rfl (Keep.cons 29 rfl (Keep.cons 30 rfl (Keep.cons 31 rfl (Keep.cons 36 rfl (Keep.cons 37 rfl (Keep.cons 38 rfl Keep.nil)))))))))))), (Sel.imp (.dup .z inferInstance (.cons (.s .z) (.dup (.s .z) inferInstance (.cons (.s (.s .z)) (.dup (.s (.s .z)) inferInstance (.cons (.s (.s (.s .z))) (.dup (.s (.s (.s .z))) inferInstance (.drop (.drop (.drop (.drop .all)))))))))))) w hw⟩
              · replace hm := ifF hc hm
                refine To.exit ?_
                refine To.tx ?_
                refine To.tx ?_
                refine To.bx ?_
                refine To.bn ?_
                refine To.nx ?_
                refine To.region (l := [0, 1]) rfl ?_
                refine To.pure rfl (Want.none rfl) rfl rfl (pe_int rfl rfl rfl bi_add) ?_
                refine To.pure rfl (Want.none rfl) rfl rfl (pe_move rfl rfl) ?_
                refine To.done ?_
                refine To.keep (Keep.cons 31 rfl (Keep.cons 0 rfl (Keep.cons 4 rfl (Keep.cons 5 rfl (Keep.cons 7 rfl (Keep.cons 29 rfl (Keep.cons 30 rfl Keep.nil))))))) ?_
                refine To.sel (.cons .z (.cons .z (.cons .z (.cons .z (.cons .z (.drop (.drop .all))))))) ?_
                exact fun a w ha hw => ⟨x1473, IntKind.i64.wrap (x1361 + 1), hm, ha.keep (Keep.cons 0 rfl (Keep.cons 4 rfl (Keep.cons 5 rfl (Keep.cons 7 rfl (Keep.cons 29 rfl (Keep.cons 30 rfl (Keep.cons 31 rfl Keep.nil))))))), (Sel.imp (.dup .z inferInstance (.cons (.s .z) (.dup (.s .z) inferInstance (.cons (.s (.s .z)) (.dup (.s (.s .z)) inferInstance (.drop (.drop (.drop .all))))))))) w hw⟩
            · skip
              exact fun a w ha hw => ⟨x1360, 0, hm, ha.keep (Keep.cons 0 rfl (Keep.cons 4 rfl (Keep.cons 5 rfl (Keep.cons 7 rfl (Keep.cons 8 rfl (Keep.cons 9 rfl (Keep.cons 29 rfl (Keep.cons 30 rfl (Keep.cons 31 rfl (Keep.cons 36 rfl (Keep.cons 37 rfl (Keep.cons 38 rfl Keep.nil)))))))))))), (Sel.imp (.dup (.s (.s .z)) inferInstance (.cons (.s (.s (.s .z))) (.dup (.s (.s (.s .z))) inferInstance (.cons (.s (.s (.s (.s .z)))) (.dup (.s (.s (.s (.s .z)))) inferInstance (.cons .z (.dup .z inferInstance (.drop (.drop (.drop (.drop .all)))))))))))) w hw⟩
          · replace hm := ifF hc hm
            refine To.exit ?_
            refine To.tx ?_
            refine To.tx ?_
            refine To.bx ?_
            refine To.nx ?_
            refine To.cut (fun a w => ∃ (x1527 : Bool), law24_TaleRows.j5 x1527 = some r ∧ Knows 85 a [(6, .bool x1527)] ∧ Holds w (F)) ?_ ?_
            · rintro a w ⟨x1527, hm, ha, hw⟩
              refine To.at ha hw ?_
              clear ha hw a w
              unfold law24_TaleRows.j5 at hm
              refine To.ret ?_
              cases hm
              exact To.back rfl (.tmp rfl .nil) rfl ⟨rfl, rfl⟩ .all
            · skip
              refine To.draws [0, 1, 0, 7, 15, 31, 31, 127, 31, 31, 1023, 2047, 4095, 8191, 16383, 16383, 65535, 131071, 262143] mixed (by kernel_rfl) (by kernel_rfl) ?_
              refine Dr.pure 0 67 _ _ rfl rfl rfl rfl rfl rfl (by kernel_rfl) (PureG.of (Want.none rfl) (pe_move rfl rfl)) ?_
              refine Dr.pure 2 69 _ _ rfl rfl rfl rfl rfl rfl (by kernel_rfl) (PureG.of (Want.none rfl) (pe_move rfl rfl)) ?_
              obtain ⟨y1528, h_y1528, hm⟩ := bindE hm
              refine Dr.step1 1 _ _ (by kernel_rfl) rfl rfl (by kernel_rfl) (Want.none rfl) (st_call (tale_Kept.tri k1449 h_y1528 a2 c3) rfl rfl fun8 (.dup .z inferInstance .all)) ?_ ?_
              · rintro _ _ ⟨_, ⟨rfl, rfl⟩, rfl⟩
                exact (Again.new rfl (PureG.of (Want.none rfl) (pe_move rfl rfl)) (Again.anc (by kernel_rfl) Again.nil))
              rintro _ _ ⟨_, ⟨rfl, rfl⟩, rfl⟩
              refine Dr.app0 ?_
              refine Dr.pure 3 70 _ _ rfl rfl rfl rfl rfl rfl (by kernel_rfl) (PureG.of (Want.none rfl) (pe_beql rfl rfl rfl Tryz.underlying4)) ?_
              refine Dr.pure 4 71 _ _ rfl rfl rfl rfl rfl rfl (by kernel_rfl) (PureG.of (Want.none rfl) (pe_move rfl rfl)) ?_
              refine Dr.bool (y1528 == x1360) (fun hc => ?_) (fun hc => ?_)
              · replace hm := ifT hc hm; have hd1529 := hc
                refine Dr.pure 5 72 _ _ rfl rfl rfl rfl rfl rfl (by kernel_rfl) (PureG.of (Want.of rfl rfl rfl rfl rfl (by rw [hd1529]; rfl)) (pe_load rfl rfl (.s .z) .pt rfl (.t (.t (.t (.t (.t (.t (.t (.t .z)))))))) ty26 rfl nofun rfl)) ?_
                refine Dr.pure 6 73 _ _ rfl rfl rfl rfl rfl rfl (by kernel_rfl) (PureG.of (Want.of rfl rfl rfl rfl rfl (by rw [hd1529]; rfl)) (pe_load rfl rfl (.s (.s (.s .z))) .pt rfl (.t (.t (.t (.t (.t (.t (.t (.t .z)))))))) ty26 rfl nofun rfl)) ?_
                refine Dr.pure 8 75 _ _ rfl rfl rfl rfl rfl rfl (by kernel_rfl) (PureG.of (Want.of rfl rfl rfl rfl rfl (by rw [hd1529]; rfl)) (pe_load rfl rfl (.s .z) .pt rfl (.t (.t (.t (.t (.t (.t (.t (.t .z)))))))) ty26 rfl nofun rfl)) ?_
                refine Dr.pure 9 76 _ _ rfl rfl rfl rfl rfl rfl (by kernel_rfl) (PureG.of (Want.of rfl rfl rfl rfl rfl (by rw [hd1529]; rfl)) (pe_load rfl rfl (.s (.s (.s .z))) .pt rfl (.t (.t (.t (.t (.t (.t (.t (.t .z)))))))) ty26 rfl nofun rfl)) ?_
                obtain ⟨y1530, h_y1530, hm⟩ := bindE hm
                refine Dr.step1 7 _ _ (by kernel_rfl) rfl rfl (by kernel_rfl) (Want.of rfl rfl rfl rfl rfl (by rw [hd1529]; rfl)) (st_call (tale_Same.tri k1449 h_y1530 a5 c6 a8 c9) rfl rfl fun9 (.dup (.s (.s .z)) inferInstance (.dup (.s (.s (.s (.s .z)))) inferInstance .all))) ?_ ?_
                · rintro _ _ ⟨_, ⟨rfl, rfl⟩, rfl⟩
                  exact (Again.new rfl (PureG.of (Want.of rfl rfl rfl rfl rfl (by rw [hd1529]; rfl)) (pe_load rfl rfl (.s (.s (.s .z))) .pt rfl (.t (.t (.t (.t (.t (.t (.t (.t .z)))))))) ty26 rfl nofun rfl)) (Again.new rfl (PureG.of (Want.of rfl rfl rfl rfl rfl (by rw [hd1529]; rfl)) (pe_load rfl rfl (.s .z) .pt rfl (.t (.t (.t (.t (.t (.t (.t (.t .z)))))))) ty26 rfl nofun rfl)) (Again.anc (by kernel_rfl) (Again.anc (by kernel_rfl) (Again.anc (by kernel_rfl) (Again.anc (by kernel_rfl) (Again.anc (by kernel_rfl) (Again.anc (by kernel_rfl) Again.nil))))))))
                rintro _ _ ⟨_, ⟨rfl, rfl⟩, rfl⟩
                refine Dr.app0 ?_
                obtain ⟨y1531, h_y1531, hm⟩ := bindE hm
                refine Dr.step1 10 _ _ (by kernel_rfl) rfl rfl (by kernel_rfl) (Want.of rfl rfl rfl rfl rfl (by rw [hd1529]; rfl)) (st_call (ref12_Same.tri k1449 h_y1531 a5 c6 a8 c9) rfl rfl fun10 (.dup (.s (.s .z)) inferInstance (.dup (.s (.s (.s (.s .z)))) inferInstance .all))) ?_ ?_
                · rintro _ _ ⟨_, ⟨rfl, rfl⟩, rfl⟩
                  exact (Again.anc (by kernel_rfl) (Again.anc (by kernel_rfl) (Again.anc (by kernel_rfl) (Again.anc (by kernel_rfl) (Again.anc (by kernel_rfl) (Again.anc (by kernel_rfl) (Again.anc (by kernel_rfl) (Again.anc (by kernel_rfl) Again.nil))))))))
                rintro _ _ ⟨_, ⟨rfl, rfl⟩, rfl⟩
                refine Dr.app0 ?_
                refine Dr.pure 11 78 _ _ rfl rfl rfl rfl rfl rfl (by kernel_rfl) (PureG.of (Want.of rfl rfl rfl rfl rfl (by rw [hd1529]; rfl)) (pe_beql rfl rfl rfl Tryz.underlying4)) ?_
                refine Dr.pure 12 79 _ _ rfl rfl rfl rfl rfl rfl (by kernel_rfl) (PureG.of (Want.none rfl) (pe_pick rfl rfl (by rw [hd1529]; rfl))) ?_
                refine Dr.pure 13 80 _ _ rfl rfl rfl rfl rfl rfl (by kernel_rfl) (PureG.of (Want.none rfl) (pe_move rfl rfl)) ?_
                refine Dr.bool (y1530 == y1531) (fun hc => ?_) (fun hc => ?_)
                · replace hm := ifT hc hm; have hd1532 := hc
                  refine Dr.pure 14 81 _ _ rfl rfl rfl rfl rfl rfl (by kernel_rfl) (PureG.of (Want.of rfl rfl rfl rfl rfl (by rw [hd1532]; rfl)) (pe_load rfl rfl (.s .z) .pt rfl (.t (.t (.t (.t (.t (.t (.t (.t .z)))))))) ty26 rfl nofun rfl)) ?_
                  refine Dr.pure 15 82 _ _ rfl rfl rfl rfl rfl rfl (by kernel_rfl) (PureG.of (Want.of rfl rfl rfl rfl rfl (by rw [hd1532]; rfl)) (pe_load rfl rfl (.s .z) .pt rfl (.t (.t (.t (.t (.t (.t (.t (.t .z)))))))) ty26 rfl nofun rfl)) ?_
                  obtain ⟨y1533, h_y1533, hm⟩ := bindE hm
                  refine Dr.step1 16 _ _ (by kernel_rfl) rfl rfl (by kernel_rfl) (Want.of rfl rfl rfl rfl rfl (by rw [hd1532]; rfl)) (st_call (tale_Same.tri k1449 h_y1533 a5 c6 a5 c6) rfl rfl fun9 (.dup (.s (.s .z)) inferInstance (.dup (.s (.s .z)) inferInstance .all))) ?_ ?_
                  · rintro _ _ ⟨_, ⟨rfl, rfl⟩, rfl⟩
                    exact (Again.anc (by kernel_rfl) (Again.anc (by kernel_rfl) (Again.anc (by kernel_rfl) (Again.anc (by kernel_rfl) (Again.anc (by kernel_rfl) (Again.anc (by kernel_rfl) (Again.anc (by kernel_rfl) (Again.anc (by kernel_rfl) (Again.anc (by kernel_rfl) (Again.anc (by kernel_rfl) (Again.anc (by kernel_rfl) (Again.anc (by kernel_rfl) (Again.anc (by kernel_rfl) Again.nil)))))))))))))
                  rintro _ _ ⟨_, ⟨rfl, rfl⟩, rfl⟩
                  refine Dr.app0 ?_
                  refine Dr.pure 17 84 _ _ rfl rfl rfl rfl rfl rfl (by kernel_rfl) (PureG.of (Want.none rfl) (pe_pick rfl rfl (by rw [hd1532]; rfl))) ?_
                  refine Dr.step1 18 _ _ (by kernel_rfl) rfl rfl (by kernel_rfl) (Want.none rfl) ((pe_assign rfl rfl).step) ?_ ?_
                  · rintro _ _ ⟨rfl, rfl⟩
                    exact (Again.anc (by kernel_rfl) (Again.anc (by kernel_rfl) (Again.anc (by kernel_rfl) (Again.anc (by kernel_rfl) (Again.anc (by kernel_rfl) (Again.anc (by kernel_rfl) (Again.anc (by kernel_rfl) (Again.anc (by kernel_rfl) (Again.anc (by kernel_rfl) (Again.anc (by kernel_rfl) (Again.anc (by kernel_rfl) (Again.anc (by kernel_rfl) (Again.anc (by kernel_rfl) (Again.anc (by kernel_rfl) Again.nil))))))))))))))
                  rintro _ _ ⟨rfl, rfl⟩
                  refine Dr.done (by kernel_rfl) ?_
                  refine To.keep (Keep.cons 6 rfl Keep.nil) ?_
                  refine To.sel (.drop (.drop (.drop (.drop (.drop .all))))) ?_
                  exact fun a w ha hw => ⟨y1533, hm, ha.keep (Keep.cons 6 rfl Keep.nil), (Sel.imp .all) w hw⟩
                · replace hm := ifF hc hm; have hd1534 := hc
                  refine Dr.pure 14 81 _ _ rfl rfl rfl rfl rfl rfl (by kernel_rfl) (PureG.skip (Want.of rfl rfl rfl rfl rfl (by rw [hd1534]; rfl))) ?_
                  refine Dr.pure 15 82 _ _ rfl rfl rfl rfl rfl rfl (by kernel_rfl) (PureG.skip (Want.of rfl rfl rfl rfl rfl (by rw [hd1534]; rfl))) ?_
                  refine Dr.pure 16 83 _ _ rfl rfl rfl rfl rfl rfl (by kernel_rfl) (PureG.skip (Want.of rfl rfl rfl rfl rfl (by rw [hd1534]; rfl))) ?_
                  refine Dr.pure 17 84 _ _ rfl rfl rfl rfl rfl rfl (by kernel_rfl) (PureG.of (Want.none rfl) (pe_pick rfl rfl (by rw [hd1534]; rfl))) ?_
                  refine Dr.step1 18 _ _ (by kernel_rfl) rfl rfl (by kernel_rfl) (Want.none rfl) ((pe_assign rfl rfl).step) ?_ ?_
                  · rintro _ _ ⟨rfl, rfl⟩
                    exact (Again.anc (by kernel_rfl) (Again.anc (by kernel_rfl) (Again.anc (by kernel_rfl) (Again.anc (by kernel_rfl) (Again.anc (by kernel_rfl) (Again.anc (by kernel_rfl) (Again.anc (by kernel_rfl) (Again.anc (by kernel_rfl) (Again.anc (by kernel_rfl) (Again.anc (by kernel_rfl) (Again.anc (by kernel_rfl) (Again.anc (by kernel_rfl) (Again.anc (by kernel_rfl) (Again.anc (by kernel_rfl) (Again.anc (by kernel_rfl) Again.nil)))))))))))))))
                  rintro _ _ ⟨rfl, rfl⟩
                  refine Dr.done (by kernel_rfl) ?_
                  refine To.keep (Keep.cons 6 rfl Keep.nil) ?_
                  refine To.sel (.drop (.drop (.drop (.drop (.drop .all))))) ?_
                  exact fun a w ha hw => ⟨false, hm, ha.keep (Keep.cons 6 rfl Keep.nil), (Sel.imp .all) w hw⟩
              · replace hm := ifF hc hm; have hd1535 := hc
                refine Dr.pure 5 72 _ _ rfl rfl rfl rfl rfl rfl (by kernel_rfl) (PureG.skip (Want.of rfl rfl rfl rfl rfl (by rw [hd1535]; rfl))) ?_
                refine Dr.pure 6 73 _ _ rfl rfl rfl rfl rfl rfl (by kernel_rfl) (PureG.skip (Want.of rfl rfl rfl rfl rfl (by rw [hd1535]; rfl))) ?_
                refine Dr.pure 7 74 _ _ rfl rfl rfl rfl rfl rfl (by kernel_rfl) (PureG.skip (Want.of rfl rfl rfl rfl rfl (by rw [hd1535]; rfl))) ?_
                refine Dr.pure 8 75 _ _ rfl rfl rfl rfl rfl rfl (by kernel_rfl) (PureG.skip (Want.of rfl rfl rfl rfl rfl (by rw [hd1535]; rfl))) ?_
                refine Dr.pure 9 76 _ _ rfl rfl rfl rfl rfl rfl (by kernel_rfl) (PureG.skip (Want.of rfl rfl rfl rfl rfl (by rw [hd1535]; rfl))) ?_
                refine Dr.pure 10 77 _ _ rfl rfl rfl rfl rfl rfl (by kernel_rfl) (PureG.skip (Want.of rfl rfl rfl rfl rfl (by rw [hd1535]; rfl))) ?_
                refine Dr.pure 11 78 _ _ rfl rfl rfl rfl rfl rfl (by kernel_rfl) (PureG.skip (Want.of rfl rfl rfl rfl rfl (by rw [hd1535]; rfl))) ?_
                refine Dr.pure 12 79 _ _ rfl rfl rfl rfl rfl rfl (by kernel_rfl) (PureG.of (Want.none rfl) (pe_pick rfl rfl (by rw [hd1535]; rfl))) ?_
                refine Dr.pure 13 80 _ _ rfl rfl rfl rfl rfl rfl (by kernel_rfl) (PureG.of (Want.none rfl) (pe_move rfl rfl)) ?_
                refine Dr.pure 14 81 _ _ rfl rfl rfl rfl rfl rfl (by kernel_rfl) (PureG.skip (Want.of rfl rfl rfl rfl rfl rfl)) ?_
                refine Dr.pure 15 82 _ _ rfl rfl rfl rfl rfl rfl (by kernel_rfl) (PureG.skip (Want.of rfl rfl rfl rfl rfl rfl)) ?_
                refine Dr.pure 16 83 _ _ rfl rfl rfl rfl rfl rfl (by kernel_rfl) (PureG.skip (Want.of rfl rfl rfl rfl rfl rfl)) ?_
                refine Dr.pure 17 84 _ _ rfl rfl rfl rfl rfl rfl (by kernel_rfl) (PureG.of (Want.none rfl) (pe_pick rfl rfl rfl)) ?_
                refine Dr.step1 18 _ _ (by kernel_rfl) rfl rfl (by kernel_rfl) (Want.none rfl) ((pe_assign rfl rfl).step) ?_ ?_
                · rintro _ _ ⟨rfl, rfl⟩
                  exact (Again.anc (by kernel_rfl) (Again.anc (by kernel_rfl) (Again.anc (by kernel_rfl) (Again.anc (by kernel_rfl) (Again.anc (by kernel_rfl) (Again.anc (by kernel_rfl) (Again.anc (by kernel_rfl) (Again.anc (by kernel_rfl) (Again.anc (by kernel_rfl) (Again.anc (by kernel_rfl) (Again.anc (by kernel_rfl) (Again.anc (by kernel_rfl) (Again.anc (by kernel_rfl) (Again.anc (by kernel_rfl) (Again.anc (by kernel_rfl) (Again.anc (by kernel_rfl) (Again.anc (by kernel_rfl) Again.nil)))))))))))))))))
                rintro _ _ ⟨rfl, rfl⟩
                refine Dr.done (by kernel_rfl) ?_
                refine To.keep (Keep.cons 6 rfl Keep.nil) ?_
                refine To.sel (.drop (.drop (.drop (.drop (.drop .all))))) ?_
                exact fun a w ha hw => ⟨false, hm, ha.keep (Keep.cons 6 rfl Keep.nil), (Sel.imp .all) w hw⟩
        · skip
          exact fun a w ha hw => ⟨true, 0, hm, ha.keep (Keep.cons 0 rfl (Keep.cons 4 rfl (Keep.cons 5 rfl (Keep.cons 7 rfl (Keep.cons 29 rfl (Keep.cons 30 rfl (Keep.cons 31 rfl Keep.nil))))))), (Sel.imp (.dup .z inferInstance (.cons (.s .z) (.dup (.s .z) inferInstance (.cons (.s (.s .z)) (.dup (.s (.s .z)) inferInstance (.drop (.drop (.drop .all))))))))) w hw⟩
    · skip
      refine To.region (l := [0, 1, 2, 3, 4, 5, 6, 7, 8, 9, 10, 11, 12, 13, 14]) rfl ?_
      refine To.pure rfl (Want.none rfl) rfl rfl (pe_move rfl rfl) ?_
      obtain ⟨y1536, h_y1536, hm⟩ := bindE hm
      refine To.step rfl (Want.none rfl) rfl rfl (st_call (law24_may.tri k h_y1536 a2 c3) rfl rfl fun6 (.dup (.s (.s .z)) inferInstance .all)) ?_
      rintro _ _ ⟨_, ⟨rfl, rfl⟩, rfl⟩
      refine To.app0 ?_
      refine To.pure rfl (Want.none rfl) rfl rfl (pe_not rfl rfl) ?_
      refine To.pure rfl (Want.none rfl) rfl rfl (pe_move rfl rfl) ?_
      refine To.split 17 rfl (fun hc => ?_) (fun hc => ?_)
      · replace hm := ifT hc hm
        refine To.skipped rfl (Want.of rfl rfl rfl rfl rfl rfl) rfl rfl ?_
        refine To.skipped rfl (Want.of rfl rfl rfl rfl rfl rfl) rfl rfl ?_
        refine To.skipped rfl (Want.of rfl rfl rfl rfl rfl rfl) rfl rfl ?_
        refine To.skipped rfl (Want.of rfl rfl rfl rfl rfl rfl) rfl rfl ?_
        refine To.pure rfl (Want.none rfl) rfl rfl (pe_pick rfl rfl rfl) ?_
        refine To.pure rfl (Want.none rfl) rfl rfl (pe_move rfl rfl) ?_
        refine To.skipped rfl (Want.of rfl rfl rfl rfl rfl rfl) rfl rfl ?_
        refine To.skipped rfl (Want.of rfl rfl rfl rfl rfl rfl) rfl rfl ?_
        refine To.skipped rfl (Want.of rfl rfl rfl rfl rfl rfl) rfl rfl ?_
        refine To.skipped rfl (Want.of rfl rfl rfl rfl rfl rfl) rfl rfl ?_
        refine To.pure rfl (Want.none rfl) rfl rfl (pe_pick rfl rfl rfl) ?_
        refine To.done ?_
        refine To.keep (Keep.cons 28 rfl (Keep.cons 5 rfl (Keep.cons 4 rfl (Keep.cons 0 rfl Keep.nil)))) ?_
        exact fun a w ha hw => ⟨true, hm, ha.keep (Keep.cons 0 rfl (Keep.cons 4 rfl (Keep.cons 5 rfl (Keep.cons 28 rfl Keep.nil)))), (Sel.imp (.dup (.s (.s .z)) inferInstance (.cons (.s .z) (.dup (.s (.s .z)) inferInstance (.cons .z (.dup (.s (.s .z)) inferInstance (.drop (.drop (.drop .all))))))))) w hw⟩
      · replace hm := ifF hc hm
        refine To.pure rfl (Want.of rfl rfl rfl rfl rfl rfl) rfl rfl (pe_fld rfl rfl fld26_6 ty24 rfl rfl) ?_
        refine To.pure rfl (Want.of rfl rfl rfl rfl rfl rfl) rfl rfl (pe_load rfl rfl (.s .z) .pt rfl (.d (.d (.d (.d (.d (.d (.t .z))))))) ty24 rfl (fun _ => rfl) rfl) ?_
        refine To.pure rfl (Want.of rfl rfl rfl rfl rfl rfl) rfl rfl (pe_len rfl rfl Tryz.underlying24) ?_
        refine To.pure rfl (Want.of rfl rfl rfl rfl rfl rfl) rfl rfl (pe_int rfl rfl rfl bi_gtr) ?_
        refine To.pure rfl (Want.none rfl) rfl rfl (pe_pick rfl rfl rfl) ?_
        refine To.pure rfl (Want.none rfl) rfl rfl (pe_move rfl rfl) ?_
        refine To.split 23 rfl (fun hc => ?_) (fun hc => ?_)
        · replace hm := ifT hc hm
          refine To.skipped rfl (Want.of rfl rfl rfl rfl rfl rfl) rfl rfl ?_
          refine To.skipped rfl (Want.of rfl rfl rfl rfl rfl rfl) rfl rfl ?_
          refine To.skipped rfl (Want.of rfl rfl rfl rfl rfl rfl) rfl rfl ?_
          refine To.skipped rfl (Want.of rfl rfl rfl rfl rfl rfl) rfl rfl ?_
          refine To.pure rfl (Want.none rfl) rfl rfl (pe_pick rfl rfl rfl) ?_
          refine To.done ?_
          refine To.keep (Keep.cons 28 rfl (Keep.cons 5 rfl (Keep.cons 4 rfl (Keep.cons 0 rfl Keep.nil)))) ?_
          exact fun a w ha hw => ⟨true, hm, ha.keep (Keep.cons 0 rfl (Keep.cons 4 rfl (Keep.cons 5 rfl (Keep.cons 28 rfl Keep.nil)))), (Sel.imp (.dup (.s (.s .z)) inferInstance (.cons (.s .z) (.dup (.s (.s .z)) inferInstance (.cons .z (.dup (.s (.s .z)) inferInstance (.drop (.drop (.drop .all))))))))) w hw⟩
        · replace hm := ifF hc hm
          refine To.pure rfl (Want.of rfl rfl rfl rfl rfl rfl) rfl rfl (pe_fld rfl rfl fld26_6 ty24 rfl rfl) ?_
          refine To.pure rfl (Want.of rfl rfl rfl rfl rfl rfl) rfl rfl (pe_load rfl rfl .z .pt rfl (.d (.d (.d (.d (.d (.d (.t .z))))))) ty24 rfl (fun _ => rfl) rfl) ?_
          refine To.pure rfl (Want.of rfl rfl rfl rfl rfl rfl) rfl rfl (pe_len rfl rfl Tryz.underlying24) ?_
          refine To.pure rfl (Want.of rfl rfl rfl rfl rfl rfl) rfl rfl (pe_int rfl rfl rfl bi_gtr) ?_
          refine To.pure rfl (Want.none rfl) rfl rfl (pe_pick rfl rfl rfl) ?_
          refine To.done ?_
          refine To.keep (Keep.cons 28 rfl (Keep.cons 5 rfl (Keep.cons 4 rfl (Keep.cons 0 rfl Keep.nil)))) ?_
          exact fun a w ha hw => ⟨decide ((p7.Names.length : Int) > 100), hm, ha.keep (Keep.cons 0 rfl (Keep.cons 4 rfl (Keep.cons 5 rfl (Keep.cons 28 rfl Keep.nil)))), (Sel.imp (.dup (.s (.s .z)) inferInstance (.cons (.s .z) (.dup (.s (.s .z)) inferInstance (.cons .z (.dup (.s (.s .z)) inferInstance (.drop (.drop (.drop .all))))))))) w hw⟩
end Go.Proofs.M

set_option linter.unusedVariables false
namespace Go.Proofs.M
open Go Go.WG Go.PL

theorem speaks24 : law24_speaks.f 64 = some true := by kernel_rfl

/-! two rows of texts -/
theorem same_l1 (p q : List Str) (hl : p.length = q.length) (hm : p.length ≤ 1000000) : ∀ (n j : Nat), j + n = p.length → (p.take j = q.take j) → Ev (fun k => ref01_Same.l1 p q k (j : Int)) (decide (p = q))
  | 0, j, hn, ht => by
    refine Ev.succ (g := fun _ => some true) (fun k => ?_) ?_
    · simp only [ref01_Same.l1]; rw [if_neg (by simp; omega)]
    · have : p = q := by rw [List.take_of_length_le (by omega), List.take_of_length_le (by omega)] at ht; exact ht
      simp [this]; exact Ev.pure
  | n + 1, j, hn, ht => by
    have hj : j < p.length := by omega
    have hj' : j < q.length := by omega
    refine Ev.succ (fun k => by simp only [ref01_Same.l1]; rfl) ?_
    refine Ev.ift (by simp; omega) (Ev.ix (List.getElem?_eq_getElem hj) (Ev.ix (List.getElem?_eq_getElem hj') ?_))
    by_cases e : p[j] = q[j]
    · refine Ev.iff (by simp [e]) ?_
      have hw : IntKind.i64.wrap ((j : Int) + 1) = ((j + 1 : Nat) : Int) := by rw [w64 (by omega)]; omega
      rw [hw]
      exact same_l1 p q hl hm n (j + 1) (by omega) (by rw [List.take_succ_eq_append_getElem hj, List.take_succ_eq_append_getElem hj', ht, e])
    · refine Ev.ift (by simp [e]) ?_
      have : p ≠ q := fun h => e (by subst h; rfl)
      simp [this]; exact Ev.pure
theorem same01 (p q : List Str) (hm : p.length ≤ 1000000) : Ev (fun k => ref01_Same.f k p q) (decide (p = q)) := by
  unfold ref01_Same.f
  by_cases h : p.length = q.length
  · exact Ev.iff (by simp [h]) (same_l1 p q h hm p.length 0 (by omega) rfl)
  · refine Ev.ift (by simp; omega) ?_
    have : p ≠ q := fun e => h (by rw [e])
    simp [this]; exact Ev.pure
theorem equal_l1 (p q : List Str) (k : Nat) (i : Int) : slices_Equal_string.l1 p q k i = ref01_Same.l1 p q k i := by
  induction k generalizing i with
  | zero => rfl
  | succ k ih => simp only [slices_Equal_string.l1, ref01_Same.l1, ih]
theorem equal_str (p q : List Str) (hm : p.length ≤ 1000000) : Ev (fun k => slices_Equal_string.f k p q) (decide (p = q)) := by
  refine Ev.congr (fun k => ?_) (same01 p q hm)
  simp only [slices_Equal_string.f, ref01_Same.f, equal_l1]
theorem ref12_l2 (p q : T_api_Result) (k : Nat) (i : Int) : ref12_Same.l2 p q k i = ref01_Same.l1 p.Names q.Names k i := by
  induction k generalizing i with
  | zero => rfl
  | succ k ih => simp only [ref12_Same.l2, ref01_Same.l1, ih]
theorem ref12_same (p q : T_api_Result) (hm : p.Names.length ≤ 1000000) : Ev (fun k => ref12_Same.f k p q) (decide (p = q)) := by
  unfold ref12_Same.f ref12_Same.j1
  simp only [ref12_l2]
  have key : ∀ b : Bool, b = true → p ≠ q → Ev (fun k => if b = true then some false else ref01_Same.l1 p.Names q.Names k 0) (decide (p = q)) := fun b hb h => by
    subst hb; simp [h]; exact Ev.pure
  refine Ev.ite (fun h => ?_) fun h1 => Ev.ite (fun h => ?_) fun h2 => Ev.ite (fun h => ?_) fun h3 => Ev.ite (fun h => ?_) fun h4 => Ev.ite (fun h => ?_) fun h5 => Ev.ite (fun h => ?_) fun h6 => Ev.ite (fun h => ?_) fun h7 => ?_
  all_goals try exact key _ rfl (by rintro rfl; simp at h)
  simp only [bne_eq_false_iff_eq, Bool.not_eq_false', beq_iff_eq] at h1 h2 h3 h4 h5 h6 h7
  by_cases hl : p.Names.length = q.Names.length
  · refine Ev.iff (by simp [hl]) ?_
    have := same_l1 p.Names q.Names hl hm p.Names.length 0 (by omega) rfl
    have e : (p = q) = (p.Names = q.Names) := by
      apply propext
      constructor
      · rintro rfl; rfl
      · intro h; cases p; cases q; simp_all
    simp only [e]
    exact this
  · refine Ev.ift (by simp; omega) ?_
    have : p ≠ q := fun e => hl (by rw [e])
    simp [this]; exact Ev.pure
theorem tale_same (p q : T_api_Result) (hm : p.Names.length ≤ 1000000) : Ev (fun k => tale_Same.f k p q) (decide (p = q)) := by
  unfold tale_Same.f tale_Same.j1
  have key : p ≠ q → Ev (fun _ => some false) (decide (p = q)) := fun h => by simp [h]; exact Ev.pure
  refine Ev.ite (fun h1 => Ev.ite (fun h2 => Ev.ite (fun h3 => Ev.ite (fun h4 => Ev.ite (fun h5 => Ev.ite (fun h6 => Ev.ite (fun h7 => ?_) fun h => ?_) fun h => ?_) fun h => ?_) fun h => ?_) fun h => ?_) fun h => ?_) fun h => ?_
  all_goals try exact key (by rintro rfl; simp at h)
  simp only [beq_iff_eq] at h1 h2 h3 h4 h5 h6 h7
  have e : (p = q) = (p.Names = q.Names) := by
    apply propext
    constructor
    · rintro rfl; rfl
    · intro h; cases p; cases q; simp_all
  simp only [e]
  exact (equal_str p.Names q.Names hm).bind Ev.pure

/-! which records are let in -/
theorem few1 (op : T_api_Op) : EvX (fun k => law20_Few.f k [op] 1) := by
  unfold law20_Few.f
  refine EvX.ite (fun _ => EvX.pure) fun _ => ?_
  refine EvX.succ (fun k => by simp only [law20_Few.l1]; rfl) ?_
  refine EvX.ite (fun _ => ?_) (fun _ => EvX.pure)
  refine EvX.ix (i := 0) rfl ?_
  have hj : ∀ b, EvX (fun k => law20_Few.j2 (law20_Few.l1 [op] k) 0 b) := fun b => by
    unfold law20_Few.j2
    refine EvX.ite (fun _ => EvX.pure) fun _ => ?_
    refine EvX.succ (fun k => by simp only [law20_Few.l1]; rfl) ?_
    refine EvX.ite (fun h => ?_) (fun _ => EvX.pure)
    simp [w64] at h
  exact EvX.ite (fun _ => hj _) fun _ => EvX.ite (fun _ => hj _) fun _ => hj _
theorem may_l1 (p : List T_sched_Record) (hp : p.length ≤ 1000000) : ∀ (n j : Nat), j + n = p.length → EvX (fun k => law24_may.l1 p k (j : Int))
  | 0, j, hj => EvX.succ (g := fun _ => some true) (fun k => by simp only [law24_may.l1]; rw [if_neg (by simp; omega)]) EvX.pure
  | n + 1, j, hj => by
    have hb := may_l1 p hp n (j + 1) (by omega)
    have hlt : j < p.length := by omega
    have hw : IntKind.i64.wrap ((j : Int) + 1) = ((j + 1 : Nat) : Int) := by rw [w64 (by omega)]; omega
    have hj2 : ∀ c : Bool, EvX (fun k => law24_may.j2 (law24_may.l1 p k) (j : Int) c) := by
      intro c
      unfold law24_may.j2
      refine EvX.ite (fun _ => EvX.pure) fun _ => ?_
      rw [hw]; exact hb
    refine EvX.succ (fun k => by simp only [law24_may.l1]; rfl) ?_
    refine EvX.ite (fun _ => ?_) (fun _ => EvX.pure)
    refine EvX.ix (List.getElem?_eq_getElem hlt) ?_
    refine EvX.bind (few1 _) fun f _ => ?_
    exact EvX.ite (fun _ => hj2 _) fun _ => EvX.ite (fun _ => hj2 _) fun _ => EvX.ite (fun _ => hj2 _) fun _ => EvX.ite (fun _ => hj2 _) fun _ => EvX.ite (fun _ => hj2 _) fun _ => hj2 _
theorem may24 (p : List T_sched_Record) : ∃ b, Ev (fun k => law24_may.f k p) b ∧ (b = true → p.length ≤ 60) := by
  unfold law24_may.f
  by_cases h : (p.length : Int) > 60
  · exact ⟨false, Ev.ift (by simpa using h) Ev.pure, nofun⟩
  · obtain ⟨b, hb⟩ := may_l1 p (by omega) p.length 0 (by omega)
    exact ⟨b, Ev.iff (by simpa using h) hb, fun _ => by omega⟩

/-! who keeps whose beginning -/
def kept : List T_sched_Record → Bool
  | [] => true
  | a :: l => !(l.any fun b => decide (b.Return < a.Call)) && kept l
theorem kept_l2 (z : List T_sched_Record) (e : T_sched_Record) (i : Nat) (hz : z.length ≤ 1000000) : ∀ (n j : Nat), j + n = z.length →
    ((z.drop j).any (fun b => decide (b.Return < e.Call)) = true → ∃ K, ∀ k, K ≤ k → ∀ rec, tale_Kept.l2 z e rec (i : Int) k (j : Int) = some false) ∧
    ((z.drop j).any (fun b => decide (b.Return < e.Call)) = false → EvK (fun k rec => tale_Kept.l2 z e rec (i : Int) k (j : Int)) (IntKind.i64.wrap ((i : Int) + 1)))
  | 0, j, hj => by
    have hd : z.drop j = [] := List.drop_of_length_le (by omega)
    rw [hd]
    refine ⟨nofun, fun _ => ?_⟩
    refine EvK.succ (g := fun _ rec => rec _) (fun k rec => ?_) EvK.here
    simp only [tale_Kept.l2]; rw [if_neg (by simp; omega)]
  | n + 1, j, hj => by
    have hlt : j < z.length := by omega
    have ih := kept_l2 z e i hz n (j + 1) (by omega)
    have hw : IntKind.i64.wrap ((j : Int) + 1) = ((j + 1 : Nat) : Int) := by rw [w64 (by omega)]; omega
    have hix : ix z (j : Int) = some z[j] := by unfold ix; rw [if_pos (by omega)]; simp [hlt]
    have step : ∀ k rec, tale_Kept.l2 z e rec (i : Int) (k + 1) (j : Int) = if decide (z[j].Return < e.Call) = true then some false else tale_Kept.l2 z e rec (i : Int) k ((j + 1 : Nat) : Int) := fun k rec => by
      rw [tale_Kept.l2]
      rw [if_pos (by simp; omega), hix]
      simp only [Option.bind_some, tale_Before.f, hw]
    rw [List.drop_eq_getElem_cons hlt, List.any_cons]
    cases hc : decide (z[j].Return < e.Call) with
    | true =>
      refine ⟨fun _ => ⟨1, fun k hk rec => ?_⟩, nofun⟩
      obtain ⟨m, rfl⟩ : ∃ m, k = m + 1 := ⟨k - 1, by omega⟩
      rw [step, hc]; rfl
    | false =>
      simp only [Bool.false_or]
      refine ⟨fun h => ?_, fun h => ?_⟩
      · obtain ⟨K, hK⟩ := ih.1 h
        refine ⟨K + 1, fun k hk rec => ?_⟩
        obtain ⟨m, rfl⟩ : ∃ m, k = m + 1 := ⟨k - 1, by omega⟩
        rw [step, hc]; exact hK m (by omega) rec
      · refine EvK.succ (fun k rec => by rw [step, hc]) ?_
        exact ih.2 h
theorem kept_l1 (p : List T_sched_Record) (hp : p.length ≤ 1000000) : ∀ (n i : Nat), i + n = p.length → Ev (fun k => tale_Kept.l1 p k (i : Int)) (kept (p.drop i))
  | 0, i, hi => by
    rw [List.drop_of_length_le (by omega)]
    exact Ev.succ (g := fun _ => some true) (fun k => by simp only [tale_Kept.l1]; rw [if_neg (by simp; omega)]) Ev.pure
  | n + 1, i, hi => by
    have hlt : i < p.length := by omega
    have ih := kept_l1 p hp n (i + 1) (by omega)
    have hw : IntKind.i64.wrap ((i : Int) + 1) = ((i + 1 : Nat) : Int) := by rw [w64 (by omega)]; omega
    have hsl : lslice p ((i + 1 : Nat) : Int) (p.length : Int) = some (p.drop (i + 1)) := by
      unfold lslice; rw [if_pos (by omega)]; simp
    refine Ev.succ (fun k => by rw [tale_Kept.l1, hw, hsl]) ?_
    refine Ev.ift (by simp; omega) (Ev.ix (List.getElem?_eq_getElem hlt) ?_)
    simp only [Option.bind_some]
    rw [List.drop_eq_getElem_cons hlt, kept]
    have h2 := kept_l2 (p.drop (i + 1)) p[i] i (by simp; omega) (p.drop (i + 1)).length 0 (by omega)
    rw [List.drop_zero] at h2
    cases hc : (p.drop (i + 1)).any (fun b => decide (b.Return < p[i].Call)) with
    | true =>
      obtain ⟨K, hK⟩ := h2.1 hc
      exact ⟨K, fun k hk => hK k hk _⟩
    | false =>
      have := h2.2 hc
      rw [hw] at this
      simp only [Bool.not_false, Bool.true_and]
      exact EvK.use (g := fun k rec => tale_Kept.l2 (p.drop (i + 1)) p[i] rec (i : Int) k ((0 : Nat) : Int)) this ih
theorem kept_ev (p : List T_sched_Record) (hp : p.length ≤ 1000000) : Ev (fun k => tale_Kept.f k p) (kept p) := by
  have := kept_l1 p hp p.length 0 (by omega)
  rw [List.drop_zero] at this
  exact this
theorem kept_iff : ∀ p : List T_sched_Record, kept p = true ↔ ∀ (i j : Nat) x y, i < j → p[i]? = some x → p[j]? = some y → x.Call ≤ y.Return
  | [] => by simp [kept]
  | a :: l => by
    simp only [kept, Bool.and_eq_true, Bool.not_eq_true', List.any_eq_false, decide_eq_true_eq, kept_iff l]
    constructor
    · rintro ⟨h1, h2⟩ i j x y hij hx hy
      cases j with
      | zero => omega
      | succ j =>
        simp only [List.getElem?_cons_succ] at hy
        cases i with
        | zero =>
          simp only [List.getElem?_cons_zero, Option.some.injEq] at hx
          subst hx
          have := h1 y (List.mem_of_getElem? hy)
          omega
        | succ i => exact h2 i j x y (by omega) (by simpa using hx) hy
    · intro h
      refine ⟨fun b hb => ?_, fun i j x y hij hx hy => h (i + 1) (j + 1) x y (by omega) (by simpa using hx) (by simpa using hy)⟩
      obtain ⟨j, hj⟩ := List.mem_iff_getElem?.1 hb
      have := h 0 (j + 1) a b (by omega) rfl (by simpa using hj)
      omega
/-- the law's own reckoning -/
def inn (e : T_sched_Record) (i : Nat) : List T_sched_Record → Nat → Bool → Bool
  | [], _, acc => acc
  | y :: ys, j, acc => inn e i ys (j + 1) (acc && (decide (i ≤ j) || decide (y.Call ≤ e.Return)))
def outer (p : List T_sched_Record) : List T_sched_Record → Nat → Bool → Bool
  | [], _, acc => acc
  | e :: es, i, acc => outer p es (i + 1) (inn e i p 0 acc)
theorem inn_iff (e : T_sched_Record) (i : Nat) : ∀ (l : List T_sched_Record) (j : Nat) (acc : Bool), inn e i l j acc = true ↔ acc = true ∧ ∀ q y, l[q]? = some y → j + q < i → y.Call ≤ e.Return
  | [], j, acc => by simp [inn]
  | y :: ys, j, acc => by
    rw [inn, inn_iff e i ys]
    simp only [Bool.and_eq_true, Bool.or_eq_true, decide_eq_true_eq]
    constructor
    · rintro ⟨⟨h1, h2⟩, h3⟩
      refine ⟨h1, fun q z hz hq => ?_⟩
      cases q with
      | zero => simp at hz; subst hz; omega
      | succ q => exact h3 q z (by simpa using hz) (by omega)
    · rintro ⟨h1, h2⟩
      refine ⟨⟨h1, ?_⟩, fun q z hz hq => h2 (q + 1) z (by simpa using hz) (by omega)⟩
      rcases Nat.lt_or_ge j i with h | h
      · exact .inr (h2 0 y rfl (by omega))
      · exact .inl h
theorem outer_iff (p : List T_sched_Record) : ∀ (l : List T_sched_Record) (i : Nat) (acc : Bool), outer p l i acc = true ↔ acc = true ∧ ∀ q e, l[q]? = some e → ∀ r y, p[r]? = some y → r < i + q → y.Call ≤ e.Return
  | [], i, acc => by simp [outer]
  | e :: es, i, acc => by
    rw [outer, outer_iff p es, inn_iff]
    constructor
    · rintro ⟨⟨h1, h2⟩, h3⟩
      refine ⟨h1, fun q x hx r y hy hr => ?_⟩
      cases q with
      | zero => simp at hx; subst hx; exact h2 r y hy (by omega)
      | succ q => exact h3 q x (by simpa using hx) r y hy (by omega)
    · rintro ⟨h1, h2⟩
      exact ⟨⟨h1, fun r y hy hr => h2 0 e rfl r y hy (by omega)⟩, fun q x hx r y hy hr => h2 (q + 1) x (by simpa using hx) r y hy (by omega)⟩
theorem outer_kept (p : List T_sched_Record) : outer p p 0 true = kept p := by
  rw [Bool.eq_iff_iff, outer_iff, kept_iff]
  constructor
  · rintro ⟨_, h⟩ i j x y hij hx hy
    exact h j y hy i x hx (by omega)
  · intro h
    exact ⟨rfl, fun q e he r y hy hr => h r q y e (by omega) hy he⟩
theorem rows_l3 (p : List T_sched_Record) (e : T_sched_Record) (i : Nat) (hp : p.length ≤ 1000000) : ∀ (n j : Nat) (acc : Bool), j + n = p.length →
    ∃ K, ∀ k, K ≤ k → ∀ rec, law24_TaleRows.l3 p e (i : Int) rec k acc (j : Int) = rec (inn e i (p.drop j) j acc) (IntKind.i64.wrap ((i : Int) + 1))
  | 0, j, acc, hj => by
    refine ⟨1, fun k hk rec => ?_⟩
    obtain ⟨m, rfl⟩ : ∃ m, k = m + 1 := ⟨k - 1, by omega⟩
    rw [List.drop_of_length_le (by omega), law24_TaleRows.l3, if_neg (by simp; omega)]; rfl
  | n + 1, j, acc, hj => by
    have hlt : j < p.length := by omega
    have hw : IntKind.i64.wrap ((j : Int) + 1) = ((j + 1 : Nat) : Int) := by rw [w64 (by omega)]; omega
    have hix : ix p (j : Int) = some p[j] := by unfold ix; rw [if_pos (by omega)]; simp [hlt]
    obtain ⟨K, hK⟩ := rows_l3 p e i hp n (j + 1) (acc && (decide (i ≤ j) || decide (p[j].Call ≤ e.Return))) (by omega)
    refine ⟨K + 1, fun k hk rec => ?_⟩
    obtain ⟨m, rfl⟩ : ∃ m, k = m + 1 := ⟨k - 1, by omega⟩
    rw [List.drop_eq_getElem_cons hlt, inn, ← hK m (by omega) rec, law24_TaleRows.l3, if_pos (by simp; omega), hix]
    simp only [Option.bind_some, tale_Before.f, beq_self_eq_true, Bool.not_true, Bool.false_eq_true, if_false, law24_TaleRows.j4, hw]
    cases acc with
    | false => simp
    | true =>
      by_cases h : i ≤ j
      · have : decide ((j : Int) ≥ (i : Int)) = true := by simp; omega
        rw [if_pos this]; simp [h]
      · have : decide ((j : Int) ≥ (i : Int)) = false := by simp; omega
        rw [this]; simp [h]
theorem rows_l2 (p : List T_sched_Record) (a b : T_api_Result) (hp : p.length ≤ 1000000) (ha : a.Names.length ≤ 1000000) : ∀ (n i : Nat) (acc : Bool), i + n = p.length → outer p (p.drop i) i acc = kept p →
    Ev (fun k => law24_TaleRows.l2 p a b k acc (i : Int)) true
  | 0, i, acc, hi, ho => by
    rw [List.drop_of_length_le (by omega)] at ho
    refine Ev.succ (fun k => by rw [law24_TaleRows.l2, if_neg (by simp; omega)]) ?_
    refine Ev.bind (kept_ev p hp) ?_
    refine Ev.ift (by simp [← ho, outer]) ?_
    refine Ev.bind (tale_same a b ha) (Ev.bind (ref12_same a b ha) ?_)
    refine Ev.ift (by simp) ?_
    refine Ev.bind (tale_same a a ha) ?_
    simp [law24_TaleRows.j5]; exact Ev.pure
  | n + 1, i, acc, hi, ho => by
    have hlt : i < p.length := by omega
    have hw : IntKind.i64.wrap ((i : Int) + 1) = ((i + 1 : Nat) : Int) := by rw [w64 (by omega)]; omega
    rw [List.drop_eq_getElem_cons hlt, outer] at ho
    have ih := rows_l2 p a b hp ha n (i + 1) (inn p[i] i p 0 acc) (by omega) ho
    refine Ev.succ (fun k => by rw [law24_TaleRows.l2]) ?_
    refine Ev.ift (by simp; omega) (Ev.ix (List.getElem?_eq_getElem hlt) ?_)
    obtain ⟨K, hK⟩ := rows_l3 p p[i] i hp p.length 0 acc (by omega)
    rw [List.drop_zero, hw] at hK
    obtain ⟨L, hL⟩ := ih
    exact ⟨K + L, fun k hk => (hK k (by omega) _).trans (hL k (by omega))⟩
theorem taleRows (p : List T_sched_Record) (a b : T_api_Result) : Ev (fun k => law24_TaleRows.f k p a b) true := by
  unfold law24_TaleRows.f law24_TaleRows.j1
  refine Ev.bind (Ev.val speaks24) ?_
  refine Ev.iff rfl ?_
  obtain ⟨m, hm, h60⟩ := may24 p
  refine Ev.bind hm ?_
  refine Ev.ite (fun _ => Ev.pure) fun h => ?_
  have h60 := h60 (by simpa using h)
  refine Ev.ite (fun _ => Ev.pure) fun ha => ?_
  refine Ev.ite (fun _ => Ev.pure) fun hb => ?_
  simp only [decide_eq_false_iff_not, Int.not_lt] at ha
  refine rows_l2 p a b (by omega) (by omega) p.length 0 true (by omega) ?_
  rw [List.drop_zero]; exact outer_kept p

/-! pages of a cursor -/
def pagesOf (id : Int) : List T_sched_Record → List Str → Bool → List Str × Bool
  | [], ns, e => (ns, e)
  | r :: l, ns, e => if r.Op.Kind = 6 ∧ r.Op.ID = id ∧ r.Result.Err = 0 then pagesOf id l (ns ++ r.Result.Names) r.Result.End else pagesOf id l ns e
theorem pages_l1 (p : List T_sched_Record) (id : Int) (hp : p.length ≤ 60) (hn : ∀ r ∈ p, r.Result.Names.length ≤ 100) : ∀ (n i : Nat) (ns : List Str) (e : Bool), i + n = p.length → ns.length ≤ 100 * i →
    Ev (fun k => tale_Pages.l1 p id k ns e (i : Int)) (pagesOf id (p.drop i) ns e) ∧ (pagesOf id (p.drop i) ns e).1.length ≤ 6000
  | 0, i, ns, e, hi, hl => by
    rw [List.drop_of_length_le (by omega)]
    refine ⟨Ev.succ (g := fun _ => some (ns, e)) (fun k => by simp only [tale_Pages.l1]; rw [if_neg (by simp; omega)]) Ev.pure, ?_⟩
    simp only [pagesOf]; omega
  | n + 1, i, ns, e, hi, hl => by
    have hlt : i < p.length := by omega
    have hw : IntKind.i64.wrap ((i : Int) + 1) = ((i + 1 : Nat) : Int) := by rw [w64 (by omega)]; omega
    have hr := hn p[i] (List.getElem_mem hlt)
    rw [List.drop_eq_getElem_cons hlt, pagesOf]
    by_cases h : p[i].Op.Kind = 6 ∧ p[i].Op.ID = id ∧ p[i].Result.Err = 0
    · obtain ⟨ih1, ih2⟩ := pages_l1 p id hp hn n (i + 1) (ns ++ p[i].Result.Names) p[i].Result.End (by omega) (by rw [List.length_append]; omega)
      rw [if_pos h]
      refine ⟨?_, ih2⟩
      refine Ev.succ (fun k => by rw [tale_Pages.l1]) ?_
      refine Ev.ift (by simp; omega) (Ev.ix (List.getElem?_eq_getElem hlt) ?_)
      refine Ev.ift (by simp [h.1]) (Ev.ift (by simp [h.2.1]) ?_)
      simp only [tale_Pages.j3, tale_Pages.j2, hw]
      refine Ev.ift (by simp [h.2.2]) (Ev.lim (by unfold BIG; omega) ih1)
    · obtain ⟨ih1, ih2⟩ := pages_l1 p id hp hn n (i + 1) ns e (by omega) (by omega)
      rw [if_neg h]
      refine ⟨?_, ih2⟩
      refine Ev.succ (fun k => by rw [tale_Pages.l1]) ?_
      refine Ev.ift (by simp; omega) (Ev.ix (List.getElem?_eq_getElem hlt) ?_)
      simp only [tale_Pages.j3, tale_Pages.j2, hw]
      refine Ev.ite (fun h1 => Ev.ite (fun h2 => Ev.iff ?_ ih1) fun _ => Ev.iff rfl ih1) fun _ => Ev.iff rfl ih1
      simp only [beq_iff_eq] at h1 h2
      simp only [beq_eq_false_iff_ne]
      exact fun h3 => h ⟨h1, h2, h3⟩
theorem law_l1 (p : List T_sched_Record) (id : Int) (hp : p.length ≤ 60) (hn : ∀ r ∈ p, r.Result.Names.length ≤ 100) : ∀ (n i : Nat) (ns : List Str) (e : Bool), i + n = p.length → ns.length ≤ 100 * i → pagesOf id (p.drop i) ns e = pagesOf id p [] false →
    Ev (fun k => law24_TalePages.l1 p id k ns e (i : Int)) true
  | 0, i, ns, e, hi, hl, hq => by
    rw [List.drop_of_length_le (by omega)] at hq
    have h0 := pages_l1 p id hp hn p.length 0 [] false (by omega) (by simp)
    rw [List.drop_zero] at h0
    refine Ev.succ (fun k => by rw [law24_TalePages.l1, if_neg (by simp; omega)]) ?_
    refine Ev.bind (g := fun k => tale_Pages.f k p id) h0.1 ?_
    rw [← hq, pagesOf]
    refine Ev.bind (same01 _ _ (by show ns.length ≤ _; omega)) ?_
    refine Ev.ift (by simp) ?_
    simp [law24_TalePages.j4]; exact Ev.pure
  | n + 1, i, ns, e, hi, hl, hq => by
    have hlt : i < p.length := by omega
    have hw : IntKind.i64.wrap ((i : Int) + 1) = ((i + 1 : Nat) : Int) := by rw [w64 (by omega)]; omega
    have hr := hn p[i] (List.getElem_mem hlt)
    rw [List.drop_eq_getElem_cons hlt, pagesOf] at hq
    refine Ev.succ (fun k => by rw [law24_TalePages.l1]) ?_
    refine Ev.ift (by simp; omega) (Ev.ix (List.getElem?_eq_getElem hlt) ?_)
    simp only [law24_TalePages.j3, law24_TalePages.j2, hw]
    by_cases h : p[i].Op.Kind = 6 ∧ p[i].Op.ID = id ∧ p[i].Result.Err = 0
    · rw [if_pos h] at hq
      have ih := law_l1 p id hp hn n (i + 1) _ _ (by omega) (by rw [List.length_append]; omega) hq
      refine Ev.ift (by simp [h.1]) (Ev.ift (by simp [h.2.1]) ?_)
      exact Ev.ift (by simp [h.2.2]) (Ev.lim (by unfold BIG; omega) ih)
    · rw [if_neg h] at hq
      have ih := law_l1 p id hp hn n (i + 1) _ _ (by omega) (by omega) hq
      refine Ev.ite (fun h1 => Ev.ite (fun h2 => Ev.iff ?_ ih) fun _ => Ev.iff rfl ih) fun _ => Ev.iff rfl ih
      simp only [beq_iff_eq] at h1 h2
      simp only [beq_eq_false_iff_ne]
      exact fun h3 => h ⟨h1, h2, h3⟩
theorem may_names (p : List T_sched_Record) (hp : p.length ≤ 1000000) : ∀ (n j : Nat), j + n = p.length → Ev (fun k => law24_may.l1 p k (j : Int)) true → ∀ r ∈ p.drop j, r.Result.Names.length ≤ 100
  | 0, j, hj, _, r, hr => by rw [List.drop_of_length_le (by omega)] at hr; cases hr
  | n + 1, j, hj, hv, r, hr => by
    have hlt : j < p.length := by omega
    have hw : IntKind.i64.wrap ((j : Int) + 1) = ((j + 1 : Nat) : Int) := by rw [w64 (by omega)]; omega
    obtain ⟨K, hK⟩ := hv
    obtain ⟨f, F, hF⟩ := few1 p[j].Op
    have hix : ix p (j : Int) = some p[j] := by unfold ix; rw [if_pos (by omega)]; simp [hlt]
    have step : ∀ k, K + F ≤ k → p[j].Result.Names.length ≤ 100 ∧ law24_may.l1 p k ((j + 1 : Nat) : Int) = some true := fun k hk => by
      have h1 : law24_may.l1 p (k + 1) (j : Int) = some true := hK (k + 1) (by omega)
      have hF' : law20_Few.f k [p[j].Op] 1 = some f := hF k (by omega)
      rw [law24_may.l1, if_pos (by simp; omega), hix, Option.bind_some, hF', Option.bind_some] at h1
      simp only [law24_may.j2, hw] at h1
      generalize decide ((if p[j].Return > (if p[j].Mark > p[j].Call then p[j].Mark else p[j].Call) then p[j].Return else (if p[j].Mark > p[j].Call then p[j].Mark else p[j].Call)) > 2147483647) = c at h1
      split at h1
      · simp at h1
      split at h1
      · simp at h1
      split at h1
      · simp at h1
      split at h1
      · simp at h1
      split at h1
      · simp at h1
      split at h1
      · simp at h1
      · rename_i h; simp only [decide_eq_true_eq, Int.not_lt] at h; exact ⟨by omega, h1⟩
    rw [List.drop_eq_getElem_cons hlt] at hr
    rcases List.mem_cons.1 hr with rfl | hr
    · exact (step (K + F) (Nat.le_refl _)).1
    · exact may_names p hp n (j + 1) (by omega) ⟨K + F, fun k hk => (step k hk).2⟩ r hr
theorem talePages (p : List T_sched_Record) (id : Int) : Ev (fun k => law24_TalePages.f k p id) true := by
  unfold law24_TalePages.f
  refine Ev.bind (Ev.val speaks24) ?_
  refine Ev.iff rfl ?_
  obtain ⟨m, hm, h60⟩ := may24 p
  refine Ev.bind hm ?_
  refine Ev.ite (fun _ => Ev.pure) fun h => ?_
  have h' : m = true := by simpa using h
  subst h'
  have h60 := h60 rfl
  have hn := may_names p (by omega) p.length 0 (by omega) (by
    obtain ⟨K, hK⟩ := hm
    refine ⟨K, fun k hk => ?_⟩
    have this : law24_may.f k p = some true := hK k hk
    rw [law24_may.f, if_neg (by simp; omega)] at this
    exact this)
  rw [List.drop_zero] at hn
  refine law_l1 p id h60 hn p.length 0 [] false (by omega) (by simp) ?_
  rw [List.drop_zero]
end Go.Proofs.M
