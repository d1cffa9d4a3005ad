/- The fourth text under the proof of TaleRows: of any records and any two answers the statement TaleRows returns true, and what came in reads as it did; no condition. -/
import Derived.Test.YtahckedpfcjebaaGreatWR3
import Derived.KernelRfl
set_option linter.unusedVariables false
set_option maxRecDepth 10000
namespace Go.Proofs.M
open Go Go.WG
/-- socage/socagelaw24.TalePages -/
def law24_TalePages.j2 (rec1233 : (List Str) → Bool → Int → Option Bool) (x1185 : Int) (x1254 : List Str) (x1257 : Bool) : Option Bool := (rec1233 x1254 x1257 (IntKind.i64.wrap (x1185 + 1)))
def law24_TalePages.j3 (x1181 : List Str) (e1258 : T_sched_Record) (rec1233 : (List Str) → Bool → Int → Option Bool) (x1185 : Int) (x1184 : Bool) (x1264 : Bool) : Option Bool := (if x1264 = true then (lim (x1181.length + e1258.Result.Names.length ≤ BIG) ((law24_TalePages.j2 rec1233 x1185 (x1181 ++ e1258.Result.Names) e1258.Result.End))) else (law24_TalePages.j2 rec1233 x1185 x1181 x1184))
def law24_TalePages.j4 (x1273 : Bool) : Option Bool := (some x1273)
def law24_TalePages.l1 (p1 : List T_sched_Record) (p4 : Int) : Nat → (List Str) → Bool → Int → Option Bool
  | 0, _, _, _ => none
  | k1232 + 1, x1181, x1184, x1185 => (if (decide (x1185 < (p1.length : Int))) = true then ((ix p1 x1185).bind fun e1258 => (if (e1258.Op.Kind == 6) = true then (if (e1258.Op.ID == p4) = true then (law24_TalePages.j3 x1181 e1258 (law24_TalePages.l1 p1 p4 k1232) x1185 x1184 (e1258.Result.Err == 0)) else (law24_TalePages.j3 x1181 e1258 (law24_TalePages.l1 p1 p4 k1232) x1185 x1184 false)) else (law24_TalePages.j3 x1181 e1258 (law24_TalePages.l1 p1 p4 k1232) x1185 x1184 false))) else ((tale_Pages.f k1232 p1 p4).bind fun y1268 => ((ref01_Same.f k1232 y1268.1 x1181).bind fun y1274 => (if y1274 = true then (law24_TalePages.j4 (y1268.2 == x1184)) else (law24_TalePages.j4 false)))))
def law24_TalePages.f (k : Nat) (p1 : List T_sched_Record) (p4 : Int) : Option Bool := ((law24_speaks.f 64).bind fun y1138 => (if (!y1138) = true then (some false) else ((law24_may.f k p1).bind fun y1139 => (if (!y1139) = true then (some true) else (law24_TalePages.l1 p1 p4 k [] false 0)))))
theorem law24_TalePages.tri (k : Nat) {r : Bool} {p1 : List T_sched_Record} {p4 : Int} (hm : law24_TalePages.f k p1 p4 = some r) (a2 : Option Addr) (c3 : Nat) :
    Tri Tryz.prog 4 [.slice a2 p1.length c3, .int .i64 p4] [imm k_sched_Record a2 c3 p1] (fun v H' => v = .bool r ∧ H' = []) := by
  refine Tri.intro1 Tryz.func4 rfl rfl rfl (fun F => ?_)
  unfold law24_TalePages.f at hm
  refine To.seq ?_
  refine To.region (l := [0]) rfl ?_
  refine To.pure rfl (Want.none rfl) rfl rfl (pe_assign rfl rfl) ?_
  refine To.done ?_
  refine To.keep (Keep.cons 0 rfl (Keep.cons 1 rfl Keep.nil)) ?_
  refine To.nx ?_
  refine To.seq ?_
  refine To.seq ?_
  refine To.region (l := [0, 1]) rfl ?_
  obtain ⟨y1138, h_y1138, hm⟩ := bindE hm
  refine To.step rfl (Want.none rfl) rfl rfl (st_call (law24_speaks.tri 64 h_y1138) rfl rfl fun5 .all) ?_
  rintro _ _ ⟨_, ⟨rfl, rfl⟩, rfl⟩
  refine To.app0 ?_
  refine To.pure rfl (Want.none rfl) rfl rfl (pe_not rfl rfl) ?_
  refine To.done ?_
  refine To.keep (Keep.cons 12 rfl (Keep.cons 0 rfl (Keep.cons 1 rfl Keep.nil))) ?_
  refine To.nx ?_
  refine To.cond rfl (fun hc => ?_) (fun hc => ?_)
  · replace hm := ifT hc hm
    refine To.seq ?_
    refine To.region (l := [0]) rfl ?_
    refine To.pure rfl (Want.none rfl) rfl rfl (pe_assign rfl rfl) ?_
    refine To.done ?_
    refine To.keep (Keep.cons 4 rfl Keep.nil) ?_
    refine To.sel (.drop .all) ?_
    refine To.nx ?_
    refine To.ret ?_
    refine To.tr ?_
    cases hm
    exact To.back rfl (.tmp rfl .nil) rfl ⟨rfl, rfl⟩ .all
  · replace hm := ifF hc hm
    refine To.skip ?_
    refine To.nx ?_
    refine To.seq ?_
    refine To.seq ?_
    refine To.region (l := [0, 1, 2]) rfl ?_
    refine To.pure rfl (Want.none rfl) rfl rfl (pe_move rfl rfl) ?_
    obtain ⟨y1139, h_y1139, hm⟩ := bindE hm
    refine To.step rfl (Want.none rfl) rfl rfl (st_call (law24_may.tri k h_y1139 a2 c3) rfl rfl fun6 (.dup .z inferInstance .all)) ?_
    rintro _ _ ⟨_, ⟨rfl, rfl⟩, rfl⟩
    refine To.app0 ?_
    refine To.pure rfl (Want.none rfl) rfl rfl (pe_not rfl rfl) ?_
    refine To.done ?_
    refine To.keep (Keep.cons 15 rfl (Keep.cons 0 rfl (Keep.cons 1 rfl Keep.nil))) ?_
    refine To.nx ?_
    refine To.cond rfl (fun hc => ?_) (fun hc => ?_)
    · replace hm := ifT hc hm
      refine To.seq ?_
      refine To.region (l := [0]) rfl ?_
      refine To.pure rfl (Want.none rfl) rfl rfl (pe_assign rfl rfl) ?_
      refine To.done ?_
      refine To.keep (Keep.cons 4 rfl Keep.nil) ?_
      refine To.sel (.drop .all) ?_
      refine To.nx ?_
      refine To.ret ?_
      refine To.tr ?_
      cases hm
      exact To.back rfl (.tmp rfl .nil) rfl ⟨rfl, rfl⟩ .all
    · replace hm := ifF hc hm
      refine To.skip ?_
      refine To.nx ?_
      refine To.seq ?_
      refine To.region (l := [0]) rfl ?_
      refine To.pure rfl (Want.none rfl) rfl rfl (pe_assign rfl rfl) ?_
      refine To.done ?_
      refine To.keep (Keep.cons 5 rfl (Keep.cons 0 rfl (Keep.cons 1 rfl Keep.nil))) ?_
      refine To.nx ?_
      refine To.seq ?_
      refine To.region (l := [0]) rfl ?_
      refine To.pure rfl (Want.none rfl) rfl rfl (pe_assign rfl rfl) ?_
      refine To.done ?_
      refine To.keep (Keep.cons 6 rfl (Keep.cons 5 rfl (Keep.cons 0 rfl (Keep.cons 1 rfl Keep.nil)))) ?_
      refine To.nx ?_
      refine To.seq ?_
      refine To.seq ?_
      refine To.region (l := [0, 1, 2]) rfl ?_
      refine To.pure rfl (Want.none rfl) rfl rfl (pe_move rfl rfl) ?_
      refine To.pure rfl (Want.none rfl) rfl rfl (pe_len rfl rfl Tryz.underlying22) ?_
      refine To.pure rfl (Want.none rfl) rfl rfl (pe_move rfl rfl) ?_
      refine To.done ?_
      refine To.keep (Keep.cons 18 rfl (Keep.cons 17 rfl (Keep.cons 16 rfl (Keep.cons 6 rfl (Keep.cons 5 rfl (Keep.cons 0 rfl (Keep.cons 1 rfl Keep.nil))))))) ?_
      refine To.nx ?_
      refine To.block ?_
      refine To.loop (fun kk a w => ∃ (x1181 : List Str), ∃ (x1184 : Bool), ∃ (x1185 : Int), ∃ (a1182 : Option Addr), ∃ (c1183 : Nat), law24_TalePages.l1 p1 p4 kk x1181 x1184 x1185 = some r ∧ Knows 62 a [(0, .slice a2 p1.length c3), (1, .int .i64 p4), (5, .slice a1182 x1181.length c1183), (6, .bool x1184), (16, .slice a2 p1.length c3), (17, .int .i64 (p1.length : Int)), (18, .int .i64 x1185)] ∧ Holds w (imm k_sched_Record a2 c3 p1 :: own kStr a1182 c1183 x1181 :: F)) ?_ ?_ k ?_
      · rintro a w ⟨_, _, _, _, _, hm, _, _⟩; rw [law24_TalePages.l1] at hm; cases hm
      · rintro k1232 a w ⟨x1181, x1184, x1185, a1182, c1183, hm, ha, hw⟩
        refine To.at ha hw ?_
        clear ha hw a w
        rw [law24_TalePages.l1] at hm
        refine To.seq ?_
        refine To.region (l := [0]) rfl ?_
        refine To.pure rfl (Want.none rfl) rfl rfl (pe_int rfl rfl rfl bi_lss) ?_
        refine To.done ?_
        refine To.keep (Keep.cons 19 rfl (Keep.cons 0 rfl (Keep.cons 1 rfl (Keep.cons 5 rfl (Keep.cons 6 rfl (Keep.cons 16 rfl (Keep.cons 17 rfl (Keep.cons 18 rfl Keep.nil)))))))) ?_
        refine To.nx ?_
        refine To.seq ?_
        refine To.cond rfl (fun hc => ?_) (fun hc => ?_)
        · replace hm := ifT hc hm
          refine To.skip ?_
          refine To.nx ?_
          refine To.cut (fun a w => ∃ (x1254 : List Str), ∃ (x1257 : Bool), ∃ (a1255 : Option Addr), ∃ (c1256 : Nat), law24_TalePages.j2 (law24_TalePages.l1 p1 p4 k1232) x1185 x1254 x1257 = some r ∧ Knows 62 a [(0, .slice a2 p1.length c3), (1, .int .i64 p4), (5, .slice a1255 x1254.length c1256), (6, .bool x1257), (16, .slice a2 p1.length c3), (17, .int .i64 (p1.length : Int)), (18, .int .i64 x1185)] ∧ Holds w (imm k_sched_Record a2 c3 p1 :: own kStr a1255 c1256 x1254 :: F)) ?_ ?_
          · rintro a w ⟨x1254, x1257, a1255, c1256, hm, ha, hw⟩
            refine To.at ha hw ?_
            clear ha hw a w
            unfold law24_TalePages.j2 at hm
            refine To.region (l := [0, 1]) rfl ?_
            refine To.pure rfl (Want.none rfl) rfl rfl (pe_int rfl rfl rfl bi_add) ?_
            refine To.pure rfl (Want.none rfl) rfl rfl (pe_move rfl rfl) ?_
            refine To.done ?_
            refine To.keep (Keep.cons 18 rfl (Keep.cons 0 rfl (Keep.cons 1 rfl (Keep.cons 5 rfl (Keep.cons 6 rfl (Keep.cons 16 rfl (Keep.cons 17 rfl Keep.nil))))))) ?_
            exact fun a w ha hw => ⟨x1254, x1257, IntKind.i64.wrap (x1185 + 1), a1255, c1256, hm, ha.keep (Keep.cons 0 rfl (Keep.cons 1 rfl (Keep.cons 5 rfl (Keep.cons 6 rfl (Keep.cons 16 rfl (Keep.cons 17 rfl (Keep.cons 18 rfl Keep.nil))))))), (Sel.imp (.dup .z inferInstance (.cons (.s .z) (.drop .all)))) w hw⟩
          · skip
            refine To.block ?_
            refine To.seq ?_
            refine To.region (l := [0, 1, 2, 3]) rfl ?_
            obtain ⟨e1258, h_e1258, hm⟩ := bindE hm
            obtain ⟨h0_e1258, hl_e1258, hx_e1258⟩ := ixE h_e1258
            refine To.el_sched_Record (i := (x1185 : Int).toNat) .z hx_e1258 ?_
            rintro b1261 r1262 a1259 c1260 e; cases e
            refine To.pure rfl (Want.none rfl) rfl rfl (pe_idx rfl rfl rfl Tryz.underlying22 ty32 h0_e1258 hl_e1258 rfl) ?_
            refine To.pure rfl (Want.none rfl) rfl rfl (pe_load rfl rfl (.s .z) .ro rfl (.t (.t (.t (.t (.t (.t (.t (.t (.t (.t (.t (.t (.t (.t (.t (.t (.t (.t (.t .z))))))))))))))))))) ty32 rfl nofun rfl) ?_
            refine To.step rfl (Want.none rfl) rfl rfl (st_alloc rfl zero32) ?_
            rintro _ _ ⟨b1263, rfl, rfl⟩
            refine To.step0 rfl (Want.none rfl) rfl (st_store rfl rfl rfl rfl .z rfl (.t (.t (.t (.t (.t (.t (.t (.t (.t (.t (.t (.t (.t (.t (.t (.t (.t (.t (.t .z))))))))))))))))))) ty32 rfl rfl) ?_
            rintro _ _ rfl
            refine To.done ?_
            refine To.keep (Keep.cons 8 rfl (Keep.cons 0 rfl (Keep.cons 1 rfl (Keep.cons 5 rfl (Keep.cons 6 rfl (Keep.cons 16 rfl (Keep.cons 17 rfl (Keep.cons 18 rfl Keep.nil)))))))) ?_
            refine To.sel (.cons .z (.cons .z (.drop .all))) ?_
            refine To.nx ?_
            refine To.cut (fun a w => ∃ (x1264 : Bool), law24_TalePages.j3 x1181 e1258 (law24_TalePages.l1 p1 p4 k1232) x1185 x1184 x1264 = some r ∧ Knows 62 a [(0, .slice (some ⟨b1261, r1262, none⟩) p1.length c3), (1, .int .i64 p4), (5, .slice a1182 x1181.length c1183), (6, .bool x1184), (8, .pointer (some ⟨b1263, 0, none⟩)), (16, .slice (some ⟨b1261, r1262, none⟩) p1.length c3), (17, .int .i64 (p1.length : Int)), (18, .int .i64 x1185), (38, .bool x1264)] ∧ Holds w (imm k_sched_Record (some ⟨b1261, r1262, none⟩) c3 p1 :: own kStr a1182 c1183 x1181 :: pt b1263 0 [.int .i64 e1258.Client, .int .i64 e1258.Index, .int .i64 e1258.Op.Kind, .string (S e1258.Op.Path), .int .i64 e1258.Op.Off, .int .i64 e1258.Op.N, .int .i64 e1258.Op.ID, .string (S e1258.Op.Image), .int .i64 e1258.Result.Err, .int .i64 e1258.Result.Kind, .int .i64 e1258.Result.Size, .int .i64 e1258.Result.Where, .int .i64 e1258.Result.ID, .string (S e1258.Result.Text), .slice a1259 e1258.Result.Names.length c1260, .bool e1258.Result.End, .int .i64 e1258.Call, .int .i64 e1258.Mark, .int .i64 e1258.Return] :: imm kStr a1259 c1260 e1258.Result.Names :: F)) ?_ ?_
            · rintro a w ⟨x1264, hm, ha, hw⟩
              refine To.at ha hw ?_
              clear ha hw a w
              unfold law24_TalePages.j3 at hm
              refine To.cond rfl (fun hc => ?_) (fun hc => ?_)
              · replace hm := ifT hc hm
                refine To.draws [0, 0, 2, 6, 15, 0, 32, 96, 31, 511] mixed (by kernel_rfl) (by kernel_rfl) ?_
                refine Dr.pure 0 39 _ _ rfl rfl rfl rfl rfl rfl (by kernel_rfl) (PureG.of (Want.none rfl) (pe_move rfl rfl)) ?_
                refine Dr.pure 1 40 _ _ rfl rfl rfl rfl rfl rfl (by kernel_rfl) (PureG.of (Want.none rfl) (pe_fld rfl rfl fld32_3 ty26 rfl rfl)) ?_
                refine Dr.pure 2 41 _ _ rfl rfl rfl rfl rfl rfl (by kernel_rfl) (PureG.of (Want.none rfl) (pe_fld rfl rfl fld26_6 ty24 rfl rfl)) ?_
                refine Dr.pure 3 42 _ _ rfl rfl rfl rfl rfl rfl (by kernel_rfl) (PureG.of (Want.none rfl) (pe_load rfl rfl (.s (.s .z)) .pt rfl (.d (.d (.d (.d (.d (.d (.d (.d (.d (.d (.d (.d (.d (.d (.t .z))))))))))))))) ty24 rfl (fun _ => rfl) rfl)) ?_
                refine Dr.pure 5 44 _ _ rfl rfl rfl rfl rfl rfl (by kernel_rfl) (PureG.of (Want.none rfl) (pe_fld rfl rfl fld32_3 ty26 rfl rfl)) ?_
                refine Dr.pure 6 45 _ _ rfl rfl rfl rfl rfl rfl (by kernel_rfl) (PureG.of (Want.none rfl) (pe_fld rfl rfl fld26_7 ty4 rfl rfl)) ?_
                refine Dr.pure 7 46 _ _ rfl rfl rfl rfl rfl rfl (by kernel_rfl) (PureG.of (Want.none rfl) (pe_load rfl rfl (.s (.s .z)) .pt rfl (.d (.d (.d (.d (.d (.d (.d (.d (.d (.d (.d (.d (.d (.d (.d (.t .z)))))))))))))))) ty4 rfl (fun _ => rfl) rfl)) ?_
                obtain ⟨hl1265, hm⟩ := limE hm
                refine Dr.step1 4 _ _ (by kernel_rfl) rfl rfl (by kernel_rfl) (Want.none rfl) (st_append (xs := x1181) (ys := e1258.Result.Names) rfl rfl rfl elt24 rfl zsz24 (.s .z) (Src.imm (.s (.s .z))) hl1265) ?_ ?_
                · rintro _ _ ⟨a1266, c1267, rfl, rfl⟩
                  exact (Again.new rfl (PureG.of (Want.none rfl) (pe_load rfl rfl (.s (.s .z)) .pt rfl (.d (.d (.d (.d (.d (.d (.d (.d (.d (.d (.d (.d (.d (.d (.d (.t .z)))))))))))))))) ty4 rfl (fun _ => rfl) rfl)) (Again.new rfl (PureG.of (Want.none rfl) (pe_fld rfl rfl fld26_7 ty4 rfl rfl)) (Again.new rfl (PureG.of (Want.none rfl) (pe_fld rfl rfl fld32_3 ty26 rfl rfl)) (Again.anc (by kernel_rfl) (Again.anc (by kernel_rfl) (Again.anc (by kernel_rfl) (Again.anc (by kernel_rfl) Again.nil)))))))
                rintro _ _ ⟨a1266, c1267, rfl, rfl⟩
                refine Dr.step1 8 _ _ (by kernel_rfl) rfl rfl (by kernel_rfl) (Want.none rfl) ((pe_assign rfl rfl).step) ?_ ?_
                · rintro _ _ ⟨rfl, rfl⟩
                  exact (Again.new rfl (PureG.of (Want.none rfl) (pe_load rfl rfl (.s (.s .z)) .pt rfl (.d (.d (.d (.d (.d (.d (.d (.d (.d (.d (.d (.d (.d (.d (.d (.t .z)))))))))))))))) ty4 rfl (fun _ => rfl) rfl)) (Again.new rfl (PureG.of (Want.none rfl) (pe_fld rfl rfl fld26_7 ty4 rfl rfl)) (Again.new rfl (PureG.of (Want.none rfl) (pe_fld rfl rfl fld32_3 ty26 rfl rfl)) (Again.anc (by kernel_rfl) (Again.anc (by kernel_rfl) (Again.anc (by kernel_rfl) (Again.anc (by kernel_rfl) Again.nil)))))))
                rintro _ _ ⟨rfl, rfl⟩
                refine Dr.step1 9 _ _ (by kernel_rfl) rfl rfl (by kernel_rfl) (Want.none rfl) ((pe_assign rfl rfl).step) ?_ ?_
                · rintro _ _ ⟨rfl, rfl⟩
                  exact (Again.anc (by kernel_rfl) (Again.anc (by kernel_rfl) (Again.anc (by kernel_rfl) (Again.anc (by kernel_rfl) (Again.anc (by kernel_rfl) (Again.anc (by kernel_rfl) (Again.anc (by kernel_rfl) Again.nil)))))))
                rintro _ _ ⟨rfl, rfl⟩
                refine Dr.done (by kernel_rfl) ?_
                refine To.keep (Keep.cons 6 rfl (Keep.cons 5 rfl (Keep.cons 0 rfl (Keep.cons 1 rfl (Keep.cons 16 rfl (Keep.cons 17 rfl (Keep.cons 18 rfl Keep.nil))))))) ?_
                refine To.sel (.cons .z (.cons .z (.drop (.drop .all)))) ?_
                refine To.bn ?_
                exact fun a w ha hw => ⟨(x1181 ++ e1258.Result.Names), e1258.Result.End, a1266, c1267, hm, ha.keep (Keep.cons 0 rfl (Keep.cons 1 rfl (Keep.cons 5 rfl (Keep.cons 6 rfl (Keep.cons 16 rfl (Keep.cons 17 rfl (Keep.cons 18 rfl Keep.nil))))))), (Sel.imp (.dup (.s .z) inferInstance (.cons .z (.drop .all)))) w hw⟩
              · replace hm := ifF hc hm
                refine To.skip ?_
                refine To.bn ?_
                exact fun a w ha hw => ⟨x1181, x1184, a1182, c1183, hm, ha.keep (Keep.cons 0 rfl (Keep.cons 1 rfl (Keep.cons 5 rfl (Keep.cons 6 rfl (Keep.cons 16 rfl (Keep.cons 17 rfl (Keep.cons 18 rfl Keep.nil))))))), (Sel.imp (.dup .z inferInstance (.cons (.s .z) (.drop (.drop (.drop .all)))))) w hw⟩
            · skip
              refine To.region (l := [0, 1, 2, 3, 4, 5, 6, 7, 8, 9, 10, 11, 12, 13, 14, 15, 16]) rfl ?_
              refine To.pure rfl (Want.none rfl) rfl rfl (pe_fld rfl rfl fld32_2 ty30 rfl rfl) ?_
              refine To.pure rfl (Want.none rfl) rfl rfl (pe_fld rfl rfl fld30_0 ty3 rfl rfl) ?_
              refine To.pure rfl (Want.none rfl) rfl rfl (pe_load rfl rfl .z .pt rfl (.d (.d (.t .z))) ty3 rfl (fun _ => rfl) rfl) ?_
              refine To.pure rfl (Want.none rfl) rfl rfl (pe_int rfl rfl rfl bi_eql) ?_
              refine To.pure rfl (Want.none rfl) rfl rfl (pe_move rfl rfl) ?_
              refine To.split 26 rfl (fun hc => ?_) (fun hc => ?_)
              · replace hm := ifT hc hm
                refine To.pure rfl (Want.of rfl rfl rfl rfl rfl rfl) rfl rfl (pe_fld rfl rfl fld32_2 ty30 rfl rfl) ?_
                refine To.pure rfl (Want.of rfl rfl rfl rfl rfl rfl) rfl rfl (pe_fld rfl rfl fld30_4 ty3 rfl rfl) ?_
                refine To.pure rfl (Want.of rfl rfl rfl rfl rfl rfl) rfl rfl (pe_load rfl rfl .z .pt rfl (.d (.d (.d (.d (.d (.d (.t .z))))))) ty3 rfl (fun _ => rfl) rfl) ?_
                refine To.pure rfl (Want.of rfl rfl rfl rfl rfl rfl) rfl rfl (pe_move rfl rfl) ?_
                refine To.pure rfl (Want.of rfl rfl rfl rfl rfl rfl) rfl rfl (pe_int rfl rfl rfl bi_eql) ?_
                refine To.pure rfl (Want.none rfl) rfl rfl (pe_pick rfl rfl rfl) ?_
                refine To.pure rfl (Want.none rfl) rfl rfl (pe_move rfl rfl) ?_
                refine To.split 33 rfl (fun hc => ?_) (fun hc => ?_)
                · replace hm := ifT hc hm
                  refine To.pure rfl (Want.of rfl rfl rfl rfl rfl rfl) rfl rfl (pe_fld rfl rfl fld32_3 ty26 rfl rfl) ?_
                  refine To.pure rfl (Want.of rfl rfl rfl rfl rfl rfl) rfl rfl (pe_fld rfl rfl fld26_0 ty23 rfl rfl) ?_
                  refine To.pure rfl (Want.of rfl rfl rfl rfl rfl rfl) rfl rfl (pe_load rfl rfl .z .pt rfl (.d (.d (.d (.d (.d (.d (.d (.d (.t .z))))))))) ty23 rfl (fun _ => rfl) rfl) ?_
                  refine To.pure rfl (Want.of rfl rfl rfl rfl rfl rfl) rfl rfl (pe_int rfl rfl rfl bi_eql) ?_
                  refine To.pure rfl (Want.none rfl) rfl rfl (pe_pick rfl rfl rfl) ?_
                  refine To.done ?_
                  refine To.keep (Keep.cons 38 rfl (Keep.cons 8 rfl (Keep.cons 0 rfl (Keep.cons 1 rfl (Keep.cons 5 rfl (Keep.cons 6 rfl (Keep.cons 16 rfl (Keep.cons 17 rfl (Keep.cons 18 rfl Keep.nil))))))))) ?_
                  exact fun a w ha hw => ⟨(e1258.Result.Err == 0), hm, ha.keep (Keep.cons 0 rfl (Keep.cons 1 rfl (Keep.cons 5 rfl (Keep.cons 6 rfl (Keep.cons 8 rfl (Keep.cons 16 rfl (Keep.cons 17 rfl (Keep.cons 18 rfl (Keep.cons 38 rfl Keep.nil))))))))), (Sel.imp (.dup (.s (.s .z)) inferInstance (.cons (.s (.s (.s .z))) (.cons .z (.dup .z inferInstance (.drop (.drop .all))))))) w hw⟩
                · replace hm := ifF hc hm
                  refine To.skipped rfl (Want.of rfl rfl rfl rfl rfl rfl) rfl rfl ?_
                  refine To.skipped rfl (Want.of rfl rfl rfl rfl rfl rfl) rfl rfl ?_
                  refine To.skipped rfl (Want.of rfl rfl rfl rfl rfl rfl) rfl rfl ?_
                  refine To.skipped rfl (Want.of rfl rfl rfl rfl rfl rfl) rfl rfl ?_
                  refine To.pure rfl (Want.none rfl) rfl rfl (pe_pick rfl rfl rfl) ?_
                  refine To.done ?_
                  refine To.keep (Keep.cons 38 rfl (Keep.cons 8 rfl (Keep.cons 0 rfl (Keep.cons 1 rfl (Keep.cons 5 rfl (Keep.cons 6 rfl (Keep.cons 16 rfl (Keep.cons 17 rfl (Keep.cons 18 rfl Keep.nil))))))))) ?_
                  exact fun a w ha hw => ⟨false, hm, ha.keep (Keep.cons 0 rfl (Keep.cons 1 rfl (Keep.cons 5 rfl (Keep.cons 6 rfl (Keep.cons 8 rfl (Keep.cons 16 rfl (Keep.cons 17 rfl (Keep.cons 18 rfl (Keep.cons 38 rfl Keep.nil))))))))), (Sel.imp (.dup (.s (.s .z)) inferInstance (.cons (.s (.s (.s .z))) (.cons .z (.dup .z inferInstance (.drop (.drop .all))))))) w hw⟩
              · replace hm := ifF hc hm
                refine To.skipped rfl (Want.of rfl rfl rfl rfl rfl rfl) rfl rfl ?_
                refine To.skipped rfl (Want.of rfl rfl rfl rfl rfl rfl) rfl rfl ?_
                refine To.skipped rfl (Want.of rfl rfl rfl rfl rfl rfl) rfl rfl ?_
                refine To.skipped rfl (Want.of rfl rfl rfl rfl rfl rfl) rfl rfl ?_
                refine To.skipped rfl (Want.of rfl rfl rfl rfl rfl rfl) rfl rfl ?_
                refine To.pure rfl (Want.none rfl) rfl rfl (pe_pick rfl rfl rfl) ?_
                refine To.pure rfl (Want.none rfl) rfl rfl (pe_move rfl rfl) ?_
                refine To.skipped rfl (Want.of rfl rfl rfl rfl rfl rfl) rfl rfl ?_
                refine To.skipped rfl (Want.of rfl rfl rfl rfl rfl rfl) rfl rfl ?_
                refine To.skipped rfl (Want.of rfl rfl rfl rfl rfl rfl) rfl rfl ?_
                refine To.skipped rfl (Want.of rfl rfl rfl rfl rfl rfl) rfl rfl ?_
                refine To.pure rfl (Want.none rfl) rfl rfl (pe_pick rfl rfl rfl) ?_
                refine To.done ?_
                refine To.keep (Keep.cons 38 rfl (Keep.cons 8 rfl (Keep.cons 0 rfl (Keep.cons 1 rfl (Keep.cons 5 rfl (Keep.cons 6 rfl (Keep.cons 16 rfl (Keep.cons 17 rfl (Keep.cons 18 rfl Keep.nil))))))))) ?_
                exact fun a w ha hw => ⟨false, hm, ha.keep (Keep.cons 0 rfl (Keep.cons 1 rfl (Keep.cons 5 rfl (Keep.cons 6 rfl (Keep.cons 8 rfl (Keep.cons 16 rfl (Keep.cons 17 rfl (Keep.cons 18 rfl (Keep.cons 38 rfl Keep.nil))))))))), (Sel.imp (.dup (.s (.s .z)) inferInstance (.cons (.s (.s (.s .z))) (.cons .z (.dup .z inferInstance (.drop (.drop .all))))))) w hw⟩
        · replace hm := ifF hc hm
          refine To.exit ?_
          refine To.tx ?_
          refine To.tx ?_
          refine To.bx ?_
          refine To.nx ?_
          refine To.seq ?_
          refine To.region (l := [0, 1, 2, 3, 4, 5, 6, 7]) rfl ?_
          refine To.pure rfl (Want.none rfl) rfl rfl (pe_move rfl rfl) ?_
          refine To.pure rfl (Want.none rfl) rfl rfl (pe_move rfl rfl) ?_
          obtain ⟨y1268, h_y1268, hm⟩ := bindE hm
          refine To.step rfl (Want.none rfl) rfl rfl (st_call (tale_Pages.tri k1232 h_y1268 a2 c3) rfl rfl fun11 (.dup .z inferInstance .all)) ?_
          rintro _ _ ⟨_, ⟨a1269, c1270, rfl, rfl⟩, rfl⟩
          refine To.app1 ?_
          refine To.pure rfl (Want.none rfl) rfl rfl (pe_move rfl rfl) ?_
          refine To.pure rfl (Want.none rfl) rfl rfl (pe_extract rfl rfl rfl) ?_
          refine To.pure rfl (Want.none rfl) rfl rfl (pe_extract rfl rfl rfl) ?_
          refine To.pure rfl (Want.none rfl) rfl rfl (pe_assign rfl rfl) ?_
          refine To.pure rfl (Want.none rfl) rfl rfl (pe_assign rfl rfl) ?_
          refine To.done ?_
          refine To.keep (Keep.cons 10 rfl (Keep.cons 9 rfl (Keep.cons 5 rfl (Keep.cons 6 rfl Keep.nil)))) ?_
          refine To.sel (.cons .z (.drop .all)) ?_
          refine To.nx ?_
          refine To.cut (fun a w => ∃ (x1273 : Bool), law24_TalePages.j4 x1273 = some r ∧ Knows 62 a [(4, .bool x1273)] ∧ Holds w (F)) ?_ ?_
          · rintro a w ⟨x1273, hm, ha, hw⟩
            refine To.at ha hw ?_
            clear ha hw a w
            unfold law24_TalePages.j4 at hm
            refine To.ret ?_
            cases hm
            exact To.back rfl (.tmp rfl .nil) rfl ⟨rfl, rfl⟩ .all
          · skip
            refine To.region (l := [0, 1, 2, 3, 4, 5, 6, 7, 8]) rfl ?_
            refine To.pure rfl (Want.none rfl) rfl rfl (pe_move rfl rfl) ?_
            refine To.pure rfl (Want.none rfl) rfl rfl (pe_move rfl rfl) ?_
            refine To.pull .z (To.imp Imp.freeze ?_)
            refine To.pull (.s .z) (To.imp Imp.freeze ?_)
            obtain ⟨y1274, h_y1274, hm⟩ := bindE hm
            refine To.step rfl (Want.none rfl) rfl rfl (st_call (ref01_Same.tri k1232 h_y1274 a1269 c1270 a1182 c1183) rfl rfl fun12 (.dup (.s .z) inferInstance (.dup .z inferInstance .all))) ?_
            rintro _ _ ⟨_, ⟨rfl, rfl⟩, rfl⟩
            refine To.app0 ?_
            refine To.pure rfl (Want.none rfl) rfl rfl (pe_move rfl rfl) ?_
            refine To.split 57 rfl (fun hc => ?_) (fun hc => ?_)
            · replace hm := ifT hc hm
              refine To.pure rfl (Want.of rfl rfl rfl rfl rfl rfl) rfl rfl (pe_move rfl rfl) ?_
              refine To.pure rfl (Want.of rfl rfl rfl rfl rfl rfl) rfl rfl (pe_move rfl rfl) ?_
              refine To.pure rfl (Want.of rfl rfl rfl rfl rfl rfl) rfl rfl (pe_beql rfl rfl rfl Tryz.underlying4) ?_
              refine To.pure rfl (Want.none rfl) rfl rfl (pe_pick rfl rfl rfl) ?_
              refine To.pure rfl (Want.none rfl) rfl rfl (pe_assign rfl rfl) ?_
              refine To.done ?_
              refine To.keep (Keep.cons 4 rfl Keep.nil) ?_
              refine To.sel (.drop (.drop .all)) ?_
              exact fun a w ha hw => ⟨(y1268.2 == x1184), hm, ha.keep (Keep.cons 4 rfl Keep.nil), (Sel.imp .all) w hw⟩
            · replace hm := ifF hc hm
              refine To.skipped rfl (Want.of rfl rfl rfl rfl rfl rfl) rfl rfl ?_
              refine To.skipped rfl (Want.of rfl rfl rfl rfl rfl rfl) rfl rfl ?_
              refine To.skipped rfl (Want.of rfl rfl rfl rfl rfl rfl) rfl rfl ?_
              refine To.pure rfl (Want.none rfl) rfl rfl (pe_pick rfl rfl rfl) ?_
              refine To.pure rfl (Want.none rfl) rfl rfl (pe_assign rfl rfl) ?_
              refine To.done ?_
              refine To.keep (Keep.cons 4 rfl Keep.nil) ?_
              refine To.sel (.drop (.drop .all)) ?_
              exact fun a w ha hw => ⟨false, hm, ha.keep (Keep.cons 4 rfl Keep.nil), (Sel.imp .all) w hw⟩
      · skip
        refine To.imp (Imp.own_nil (k := kStr)) ?_
        exact fun a w ha hw => ⟨[], false, 0, none, 0, hm, ha.keep (Keep.cons 0 rfl (Keep.cons 1 rfl (Keep.cons 5 rfl (Keep.cons 6 rfl (Keep.cons 16 rfl (Keep.cons 17 rfl (Keep.cons 18 rfl Keep.nil))))))), (Sel.imp (.dup (.s .z) inferInstance (.cons .z (.drop .all)))) w hw⟩
end Go.Proofs.M

set_option linter.unusedVariables false
namespace Go.Proofs.M
open Go Go.WG Go.PL

theorem speaks24 : law24_speaks.f 64 = some true := by kernel_rfl

/-! two rows of texts -/
theorem same_l1 (p q : List Str) (hl : p.length = q.length) (hm : p.length ≤ 1000000) : ∀ (n j : Nat), j + n = p.length → (p.take j = q.take j) → Ev (fun k => ref01_Same.l1 p q k (j : Int)) (decide (p = q))
  | 0, j, hn, ht => by
    refine Ev.succ (g := fun _ => some true) (fun k => ?_) ?_
    · simp only [ref01_Same.l1]; rw [if_neg (by simp; omega)]
    · have : p = q := by rw [List.take_of_length_le (by omega), List.take_of_length_le (by omega)] at ht; exact ht
      simp [this]; exact Ev.pure
  | n + 1, j, hn, ht => by
    have hj : j < p.length := by omega
    have hj' : j < q.length := by omega
    refine Ev.succ (fun k => by simp only [ref01_Same.l1]; rfl) ?_
    refine Ev.ift (by simp; omega) (Ev.ix (List.getElem?_eq_getElem hj) (Ev.ix (List.getElem?_eq_getElem hj') ?_))
    by_cases e : p[j] = q[j]
    · refine Ev.iff (by simp [e]) ?_
      have hw : IntKind.i64.wrap ((j : Int) + 1) = ((j + 1 : Nat) : Int) := by rw [w64 (by omega)]; omega
      rw [hw]
      exact same_l1 p q hl hm n (j + 1) (by omega) (by rw [List.take_succ_eq_append_getElem hj, List.take_succ_eq_append_getElem hj', ht, e])
    · refine Ev.ift (by simp [e]) ?_
      have : p ≠ q := fun h => e (by subst h; rfl)
      simp [this]; exact Ev.pure
theorem same01 (p q : List Str) (hm : p.length ≤ 1000000) : Ev (fun k => ref01_Same.f k p q) (decide (p = q)) := by
  unfold ref01_Same.f
  by_cases h : p.length = q.length
  · exact Ev.iff (by simp [h]) (same_l1 p q h hm p.length 0 (by omega) rfl)
  · refine Ev.ift (by simp; omega) ?_
    have : p ≠ q := fun e => h (by rw [e])
    simp [this]; exact Ev.pure
theorem equal_l1 (p q : List Str) (k : Nat) (i : Int) : slices_Equal_string.l1 p q k i = ref01_Same.l1 p q k i := by
  induction k generalizing i with
  | zero => rfl
  | succ k ih => simp only [slices_Equal_string.l1, ref01_Same.l1, ih]
theorem equal_str (p q : List Str) (hm : p.length ≤ 1000000) : Ev (fun k => slices_Equal_string.f k p q) (decide (p = q)) := by
  refine Ev.congr (fun k => ?_) (same01 p q hm)
  simp only [slices_Equal_string.f, ref01_Same.f, equal_l1]
theorem ref12_l2 (p q : T_api_Result) (k : Nat) (i : Int) : ref12_Same.l2 p q k i = ref01_Same.l1 p.Names q.Names k i := by
  induction k generalizing i with
  | zero => rfl
  | succ k ih => simp only [ref12_Same.l2, ref01_Same.l1, ih]
theorem ref12_same (p q : T_api_Result) (hm : p.Names.length ≤ 1000000) : Ev (fun k => ref12_Same.f k p q) (decide (p = q)) := by
  unfold ref12_Same.f ref12_Same.j1
  simp only [ref12_l2]
  have key : ∀ b : Bool, b = true → p ≠ q → Ev (fun k => if b = true then some false else ref01_Same.l1 p.Names q.Names k 0) (decide (p = q)) := fun b hb h => by
    subst hb; simp [h]; exact Ev.pure
  refine Ev.ite (fun h => ?_) fun h1 => Ev.ite (fun h => ?_) fun h2 => Ev.ite (fun h => ?_) fun h3 => Ev.ite (fun h => ?_) fun h4 => Ev.ite (fun h => ?_) fun h5 => Ev.ite (fun h => ?_) fun h6 => Ev.ite (fun h => ?_) fun h7 => ?_
  all_goals try exact key _ rfl (by rintro rfl; simp at h)
  simp only [bne_eq_false_iff_eq, Bool.not_eq_false', beq_iff_eq] at h1 h2 h3 h4 h5 h6 h7
  by_cases hl : p.Names.length = q.Names.length
  · refine Ev.iff (by simp [hl]) ?_
    have := same_l1 p.Names q.Names hl hm p.Names.length 0 (by omega) rfl
    have e : (p = q) = (p.Names = q.Names) := by
      apply propext
      constructor
      · rintro rfl; rfl
      · intro h; cases p; cases q; simp_all
    simp only [e]
    exact this
  · refine Ev.ift (by simp; omega) ?_
    have : p ≠ q := fun e => hl (by rw [e])
    simp [this]; exact Ev.pure
theorem tale_same (p q : T_api_Result) (hm : p.Names.length ≤ 1000000) : Ev (fun k => tale_Same.f k p q) (decide (p = q)) := by
  unfold tale_Same.f tale_Same.j1
  have key : p ≠ q → Ev (fun _ => some false) (decide (p = q)) := fun h => by simp [h]; exact Ev.pure
  refine Ev.ite (fun h1 => Ev.ite (fun h2 => Ev.ite (fun h3 => Ev.ite (fun h4 => Ev.ite (fun h5 => Ev.ite (fun h6 => Ev.ite (fun h7 => ?_) fun h => ?_) fun h => ?_) fun h => ?_) fun h => ?_) fun h => ?_) fun h => ?_) fun h => ?_
  all_goals try exact key (by rintro rfl; simp at h)
  simp only [beq_iff_eq] at h1 h2 h3 h4 h5 h6 h7
  have e : (p = q) = (p.Names = q.Names) := by
    apply propext
    constructor
    · rintro rfl; rfl
    · intro h; cases p; cases q; simp_all
  simp only [e]
  exact (equal_str p.Names q.Names hm).bind Ev.pure

/-! which records are let in -/
theorem few1 (op : T_api_Op) : EvX (fun k => law20_Few.f k [op] 1) := by
  unfold law20_Few.f
  refine EvX.ite (fun _ => EvX.pure) fun _ => ?_
  refine EvX.succ (fun k => by simp only [law20_Few.l1]; rfl) ?_
  refine EvX.ite (fun _ => ?_) (fun _ => EvX.pure)
  refine EvX.ix (i := 0) rfl ?_
  have hj : ∀ b, EvX (fun k => law20_Few.j2 (law20_Few.l1 [op] k) 0 b) := fun b => by
    unfold law20_Few.j2
    refine EvX.ite (fun _ => EvX.pure) fun _ => ?_
    refine EvX.succ (fun k => by simp only [law20_Few.l1]; rfl) ?_
    refine EvX.ite (fun h => ?_) (fun _ => EvX.pure)
    simp [w64] at h
  exact EvX.ite (fun _ => hj _) fun _ => EvX.ite (fun _ => hj _) fun _ => hj _
theorem may_l1 (p : List T_sched_Record) (hp : p.length ≤ 1000000) : ∀ (n j : Nat), j + n = p.length → EvX (fun k => law24_may.l1 p k (j : Int))
  | 0, j, hj => EvX.succ (g := fun _ => some true) (fun k => by simp only [law24_may.l1]; rw [if_neg (by simp; omega)]) EvX.pure
  | n + 1, j, hj => by
    have hb := may_l1 p hp n (j + 1) (by omega)
    have hlt : j < p.length := by omega
    have hw : IntKind.i64.wrap ((j : Int) + 1) = ((j + 1 : Nat) : Int) := by rw [w64 (by omega)]; omega
    have hj2 : ∀ c : Bool, EvX (fun k => law24_may.j2 (law24_may.l1 p k) (j : Int) c) := by
      intro c
      unfold law24_may.j2
      refine EvX.ite (fun _ => EvX.pure) fun _ => ?_
      rw [hw]; exact hb
    refine EvX.succ (fun k => by simp only [law24_may.l1]; rfl) ?_
    refine EvX.ite (fun _ => ?_) (fun _ => EvX.pure)
    refine EvX.ix (List.getElem?_eq_getElem hlt) ?_
    refine EvX.bind (few1 _) fun f _ => ?_
    exact EvX.ite (fun _ => hj2 _) fun _ => EvX.ite (fun _ => hj2 _) fun _ => EvX.ite (fun _ => hj2 _) fun _ => EvX.ite (fun _ => hj2 _) fun _ => EvX.ite (fun _ => hj2 _) fun _ => hj2 _
theorem may24 (p : List T_sched_Record) : ∃ b, Ev (fun k => law24_may.f k p) b ∧ (b = true → p.length ≤ 60) := by
  unfold law24_may.f
  by_cases h : (p.length : Int) > 60
  · exact ⟨false, Ev.ift (by simpa using h) Ev.pure, nofun⟩
  · obtain ⟨b, hb⟩ := may_l1 p (by omega) p.length 0 (by omega)
    exact ⟨b, Ev.iff (by simpa using h) hb, fun _ => by omega⟩

/-! who keeps whose beginning -/
def kept : List T_sched_Record → Bool
  | [] => true
  | a :: l => !(l.any fun b => decide (b.Return < a.Call)) && kept l
theorem kept_l2 (z : List T_sched_Record) (e : T_sched_Record) (i : Nat) (hz : z.length ≤ 1000000) : ∀ (n j : Nat), j + n = z.length →
    ((z.drop j).any (fun b => decide (b.Return < e.Call)) = true → ∃ K, ∀ k, K ≤ k → ∀ rec, tale_Kept.l2 z e rec (i : Int) k (j : Int) = some false) ∧
    ((z.drop j).any (fun b => decide (b.Return < e.Call)) = false → EvK (fun k rec => tale_Kept.l2 z e rec (i : Int) k (j : Int)) (IntKind.i64.wrap ((i : Int) + 1)))
  | 0, j, hj => by
    have hd : z.drop j = [] := List.drop_of_length_le (by omega)
    rw [hd]
    refine ⟨nofun, fun _ => ?_⟩
    refine EvK.succ (g := fun _ rec => rec _) (fun k rec => ?_) EvK.here
    simp only [tale_Kept.l2]; rw [if_neg (by simp; omega)]
  | n + 1, j, hj => by
    have hlt : j < z.length := by omega
    have ih := kept_l2 z e i hz n (j + 1) (by omega)
    have hw : IntKind.i64.wrap ((j : Int) + 1) = ((j + 1 : Nat) : Int) := by rw [w64 (by omega)]; omega
    have hix : ix z (j : Int) = some z[j] := by unfold ix; rw [if_pos (by omega)]; simp [hlt]
    have step : ∀ k rec, tale_Kept.l2 z e rec (i : Int) (k + 1) (j : Int) = if decide (z[j].Return < e.Call) = true then some false else tale_Kept.l2 z e rec (i : Int) k ((j + 1 : Nat) : Int) := fun k rec => by
      rw [tale_Kept.l2]
      rw [if_pos (by simp; omega), hix]
      simp only [Option.bind_some, tale_Before.f, hw]
    rw [List.drop_eq_getElem_cons hlt, List.any_cons]
    cases hc : decide (z[j].Return < e.Call) with
    | true =>
      refine ⟨fun _ => ⟨1, fun k hk rec => ?_⟩, nofun⟩
      obtain ⟨m, rfl⟩ : ∃ m, k = m + 1 := ⟨k - 1, by omega⟩
      rw [step, hc]; rfl
    | false =>
      simp only [Bool.false_or]
      refine ⟨fun h => ?_, fun h => ?_⟩
      · obtain ⟨K, hK⟩ := ih.1 h
        refine ⟨K + 1, fun k hk rec => ?_⟩
        obtain ⟨m, rfl⟩ : ∃ m, k = m + 1 := ⟨k - 1, by omega⟩
        rw [step, hc]; exact hK m (by omega) rec
      · refine EvK.succ (fun k rec => by rw [step, hc]) ?_
        exact ih.2 h
theorem kept_l1 (p : List T_sched_Record) (hp : p.length ≤ 1000000) : ∀ (n i : Nat), i + n = p.length → Ev (fun k => tale_Kept.l1 p k (i : Int)) (kept (p.drop i))
  | 0, i, hi => by
    rw [List.drop_of_length_le (by omega)]
    exact Ev.succ (g := fun _ => some true) (fun k => by simp only [tale_Kept.l1]; rw [if_neg (by simp; omega)]) Ev.pure
  | n + 1, i, hi => by
    have hlt : i < p.length := by omega
    have ih := kept_l1 p hp n (i + 1) (by omega)
    have hw : IntKind.i64.wrap ((i : Int) + 1) = ((i + 1 : Nat) : Int) := by rw [w64 (by omega)]; omega
    have hsl : lslice p ((i + 1 : Nat) : Int) (p.length : Int) = some (p.drop (i + 1)) := by
      unfold lslice; rw [if_pos (by omega)]; simp
    refine Ev.succ (fun k => by rw [tale_Kept.l1, hw, hsl]) ?_
    refine Ev.ift (by simp; omega) (Ev.ix (List.getElem?_eq_getElem hlt) ?_)
    simp only [Option.bind_some]
    rw [List.drop_eq_getElem_cons hlt, kept]
    have h2 := kept_l2 (p.drop (i + 1)) p[i] i (by simp; omega) (p.drop (i + 1)).length 0 (by omega)
    rw [List.drop_zero] at h2
    cases hc : (p.drop (i + 1)).any (fun b => decide (b.Return < p[i].Call)) with
    | true =>
      obtain ⟨K, hK⟩ := h2.1 hc
      exact ⟨K, fun k hk => hK k hk _⟩
    | false =>
      have := h2.2 hc
      rw [hw] at this
      simp only [Bool.not_false, Bool.true_and]
      exact EvK.use (g := fun k rec => tale_Kept.l2 (p.drop (i + 1)) p[i] rec (i : Int) k ((0 : Nat) : Int)) this ih
theorem kept_ev (p : List T_sched_Record) (hp : p.length ≤ 1000000) : Ev (fun k => tale_Kept.f k p) (kept p) := by
  have := kept_l1 p hp p.length 0 (by omega)
  rw [List.drop_zero] at this
  exact this
theorem kept_iff : ∀ p : List T_sched_Record, kept p = true ↔ ∀ (i j : Nat) x y, i < j → p[i]? = some x → p[j]? = some y → x.Call ≤ y.Return
  | [] => by simp [kept]
  | a :: l => by
    simp only [kept, Bool.and_eq_true, Bool.not_eq_true', List.any_eq_false, decide_eq_true_eq, kept_iff l]
    constructor
    · rintro ⟨h1, h2⟩ i j x y hij hx hy
      cases j with
      | zero => omega
      | succ j =>
        simp only [List.getElem?_cons_succ] at hy
        cases i with
        | zero =>
          simp only [List.getElem?_cons_zero, Option.some.injEq] at hx
          subst hx
          have := h1 y (List.mem_of_getElem? hy)
          omega
        | succ i => exact h2 i j x y (by omega) (by simpa using hx) hy
    · intro h
      refine ⟨fun b hb => ?_, fun i j x y hij hx hy => h (i + 1) (j + 1) x y (by omega) (by simpa using hx) (by simpa using hy)⟩
      obtain ⟨j, hj⟩ := List.mem_iff_getElem?.1 hb
      have := h 0 (j + 1) a b (by omega) rfl (by simpa using hj)
      omega
/-- the law's own reckoning -/
def inn (e : T_sched_Record) (i : Nat) : List T_sched_Record → Nat → Bool → Bool
  | [], _, acc => acc
  | y :: ys, j, acc => inn e i ys (j + 1) (acc && (decide (i ≤ j) || decide (y.Call ≤ e.Return)))
def outer (p : List T_sched_Record) : List T_sched_Record → Nat → Bool → Bool
  | [], _, acc => acc
  | e :: es, i, acc => outer p es (i + 1) (inn e i p 0 acc)
theorem inn_iff (e : T_sched_Record) (i : Nat) : ∀ (l : List T_sched_Record) (j : Nat) (acc : Bool), inn e i l j acc = true ↔ acc = true ∧ ∀ q y, l[q]? = some y → j + q < i → y.Call ≤ e.Return
  | [], j, acc => by simp [inn]
  | y :: ys, j, acc => by
    rw [inn, inn_iff e i ys]
    simp only [Bool.and_eq_true, Bool.or_eq_true, decide_eq_true_eq]
    constructor
    · rintro ⟨⟨h1, h2⟩, h3⟩
      refine ⟨h1, fun q z hz hq => ?_⟩
      cases q with
      | zero => simp at hz; subst hz; omega
      | succ q => exact h3 q z (by simpa using hz) (by omega)
    · rintro ⟨h1, h2⟩
      refine ⟨⟨h1, ?_⟩, fun q z hz hq => h2 (q + 1) z (by simpa using hz) (by omega)⟩
      rcases Nat.lt_or_ge j i with h | h
      · exact .inr (h2 0 y rfl (by omega))
      · exact .inl h
theorem outer_iff (p : List T_sched_Record) : ∀ (l : List T_sched_Record) (i : Nat) (acc : Bool), outer p l i acc = true ↔ acc = true ∧ ∀ q e, l[q]? = some e → ∀ r y, p[r]? = some y → r < i + q → y.Call ≤ e.Return
  | [], i, acc => by simp [outer]
  | e :: es, i, acc => by
    rw [outer, outer_iff p es, inn_iff]
    constructor
    · rintro ⟨⟨h1, h2⟩, h3⟩
      refine ⟨h1, fun q x hx r y hy hr => ?_⟩
      cases q with
      | zero => simp at hx; subst hx; exact h2 r y hy (by omega)
      | succ q => exact h3 q x (by simpa using hx) r y hy (by omega)
    · rintro ⟨h1, h2⟩
      exact ⟨⟨h1, fun r y hy hr => h2 0 e rfl r y hy (by omega)⟩, fun q x hx r y hy hr => h2 (q + 1) x (by simpa using hx) r y hy (by omega)⟩
theorem outer_kept (p : List T_sched_Record) : outer p p 0 true = kept p := by
  rw [Bool.eq_iff_iff, outer_iff, kept_iff]
  constructor
  · rintro ⟨_, h⟩ i j x y hij hx hy
    exact h j y hy i x hx (by omega)
  · intro h
    exact ⟨rfl, fun q e he r y hy hr => h r q y e (by omega) hy he⟩
theorem rows_l3 (p : List T_sched_Record) (e : T_sched_Record) (i : Nat) (hp : p.length ≤ 1000000) : ∀ (n j : Nat) (acc : Bool), j + n = p.length →
    ∃ K, ∀ k, K ≤ k → ∀ rec, law24_TaleRows.l3 p e (i : Int) rec k acc (j : Int) = rec (inn e i (p.drop j) j acc) (IntKind.i64.wrap ((i : Int) + 1))
  | 0, j, acc, hj => by
    refine ⟨1, fun k hk rec => ?_⟩
    obtain ⟨m, rfl⟩ : ∃ m, k = m + 1 := ⟨k - 1, by omega⟩
    rw [List.drop_of_length_le (by omega), law24_TaleRows.l3, if_neg (by simp; omega)]; rfl
  | n + 1, j, acc, hj => by
    have hlt : j < p.length := by omega
    have hw : IntKind.i64.wrap ((j : Int) + 1) = ((j + 1 : Nat) : Int) := by rw [w64 (by omega)]; omega
    have hix : ix p (j : Int) = some p[j] := by unfold ix; rw [if_pos (by omega)]; simp [hlt]
    obtain ⟨K, hK⟩ := rows_l3 p e i hp n (j + 1) (acc && (decide (i ≤ j) || decide (p[j].Call ≤ e.Return))) (by omega)
    refine ⟨K + 1, fun k hk rec => ?_⟩
    obtain ⟨m, rfl⟩ : ∃ m, k = m + 1 := ⟨k - 1, by omega⟩
    rw [List.drop_eq_getElem_cons hlt, inn, ← hK m (by omega) rec, law24_TaleRows.l3, if_pos (by simp; omega), hix]
    simp only [Option.bind_some, tale_Before.f, beq_self_eq_true, Bool.not_true, Bool.false_eq_true, if_false, law24_TaleRows.j4, hw]
    cases acc with
    | false => simp
    | true =>
      by_cases h : i ≤ j
      · have : decide ((j : Int) ≥ (i : Int)) = true := by simp; omega
        rw [if_pos this]; simp [h]
      · have : decide ((j : Int) ≥ (i : Int)) = false := by simp; omega
        rw [this]; simp [h]
theorem rows_l2 (p : List T_sched_Record) (a b : T_api_Result) (hp : p.length ≤ 1000000) (ha : a.Names.length ≤ 1000000) : ∀ (n i : Nat) (acc : Bool), i + n = p.length → outer p (p.drop i) i acc = kept p →
    Ev (fun k => law24_TaleRows.l2 p a b k acc (i : Int)) true
  | 0, i, acc, hi, ho => by
    rw [List.drop_of_length_le (by omega)] at ho
    refine Ev.succ (fun k => by rw [law24_TaleRows.l2, if_neg (by simp; omega)]) ?_
    refine Ev.bind (kept_ev p hp) ?_
    refine Ev.ift (by simp [← ho, outer]) ?_
    refine Ev.bind (tale_same a b ha) (Ev.bind (ref12_same a b ha) ?_)
    refine Ev.ift (by simp) ?_
    refine Ev.bind (tale_same a a ha) ?_
    simp [law24_TaleRows.j5]; exact Ev.pure
  | n + 1, i, acc, hi, ho => by
    have hlt : i < p.length := by omega
    have hw : IntKind.i64.wrap ((i : Int) + 1) = ((i + 1 : Nat) : Int) := by rw [w64 (by omega)]; omega
    rw [List.drop_eq_getElem_cons hlt, outer] at ho
    have ih := rows_l2 p a b hp ha n (i + 1) (inn p[i] i p 0 acc) (by omega) ho
    refine Ev.succ (fun k => by rw [law24_TaleRows.l2]) ?_
    refine Ev.ift (by simp; omega) (Ev.ix (List.getElem?_eq_getElem hlt) ?_)
    obtain ⟨K, hK⟩ := rows_l3 p p[i] i hp p.length 0 acc (by omega)
    rw [List.drop_zero, hw] at hK
    obtain ⟨L, hL⟩ := ih
    exact ⟨K + L, fun k hk => (hK k (by omega) _).trans (hL k (by omega))⟩
theorem taleRows (p : List T_sched_Record) (a b : T_api_Result) : Ev (fun k => law24_TaleRows.f k p a b) true := by
  unfold law24_TaleRows.f law24_TaleRows.j1
  refine Ev.bind (Ev.val speaks24) ?_
  refine Ev.iff rfl ?_
  obtain ⟨m, hm, h60⟩ := may24 p
  refine Ev.bind hm ?_
  refine Ev.ite (fun _ => Ev.pure) fun h => ?_
  have h60 := h60 (by simpa using h)
  refine Ev.ite (fun _ => Ev.pure) fun ha => ?_
  refine Ev.ite (fun _ => Ev.pure) fun hb => ?_
  simp only [decide_eq_false_iff_not, Int.not_lt] at ha
  refine rows_l2 p a b (by omega) (by omega) p.length 0 true (by omega) ?_
  rw [List.drop_zero]; exact outer_kept p

/-! pages of a cursor -/
def pagesOf (id : Int) : List T_sched_Record → List Str → Bool → List Str × Bool
  | [], ns, e => (ns, e)
  | r :: l, ns, e => if r.Op.Kind = 6 ∧ r.Op.ID = id ∧ r.Result.Err = 0 then pagesOf id l (ns ++ r.Result.Names) r.Result.End else pagesOf id l ns e
theorem pages_l1 (p : List T_sched_Record) (id : Int) (hp : p.length ≤ 60) (hn : ∀ r ∈ p, r.Result.Names.length ≤ 100) : ∀ (n i : Nat) (ns : List Str) (e : Bool), i + n = p.length → ns.length ≤ 100 * i →
    Ev (fun k => tale_Pages.l1 p id k ns e (i : Int)) (pagesOf id (p.drop i) ns e) ∧ (pagesOf id (p.drop i) ns e).1.length ≤ 6000
  | 0, i, ns, e, hi, hl => by
    rw [List.drop_of_length_le (by omega)]
    refine ⟨Ev.succ (g := fun _ => some (ns, e)) (fun k => by simp only [tale_Pages.l1]; rw [if_neg (by simp; omega)]) Ev.pure, ?_⟩
    simp only [pagesOf]; omega
  | n + 1, i, ns, e, hi, hl => by
    have hlt : i < p.length := by omega
    have hw : IntKind.i64.wrap ((i : Int) + 1) = ((i + 1 : Nat) : Int) := by rw [w64 (by omega)]; omega
    have hr := hn p[i] (List.getElem_mem hlt)
    rw [List.drop_eq_getElem_cons hlt, pagesOf]
    by_cases h : p[i].Op.Kind = 6 ∧ p[i].Op.ID = id ∧ p[i].Result.Err = 0
    · obtain ⟨ih1, ih2⟩ := pages_l1 p id hp hn n (i + 1) (ns ++ p[i].Result.Names) p[i].Result.End (by omega) (by rw [List.length_append]; omega)
      rw [if_pos h]
      refine ⟨?_, ih2⟩
      refine Ev.succ (fun k => by rw [tale_Pages.l1]) ?_
      refine Ev.ift (by simp; omega) (Ev.ix (List.getElem?_eq_getElem hlt) ?_)
      refine Ev.ift (by simp [h.1]) (Ev.ift (by simp [h.2.1]) ?_)
      simp only [tale_Pages.j3, tale_Pages.j2, hw]
      refine Ev.ift (by simp [h.2.2]) (Ev.lim (by unfold BIG; omega) ih1)
    · obtain ⟨ih1, ih2⟩ := pages_l1 p id hp hn n (i + 1) ns e (by omega) (by omega)
      rw [if_neg h]
      refine ⟨?_, ih2⟩
      refine Ev.succ (fun k => by rw [tale_Pages.l1]) ?_
      refine Ev.ift (by simp; omega) (Ev.ix (List.getElem?_eq_getElem hlt) ?_)
      simp only [tale_Pages.j3, tale_Pages.j2, hw]
      refine Ev.ite (fun h1 => Ev.ite (fun h2 => Ev.iff ?_ ih1) fun _ => Ev.iff rfl ih1) fun _ => Ev.iff rfl ih1
      simp only [beq_iff_eq] at h1 h2
      simp only [beq_eq_false_iff_ne]
      exact fun h3 => h ⟨h1, h2, h3⟩
theorem law_l1 (p : List T_sched_Record) (id : Int) (hp : p.length ≤ 60) (hn : ∀ r ∈ p, r.Result.Names.length ≤ 100) : ∀ (n i : Nat) (ns : List Str) (e : Bool), i + n = p.length → ns.length ≤ 100 * i → pagesOf id (p.drop i) ns e = pagesOf id p [] false →
    Ev (fun k => law24_TalePages.l1 p id k ns e (i : Int)) true
  | 0, i, ns, e, hi, hl, hq => by
    rw [List.drop_of_length_le (by omega)] at hq
    have h0 := pages_l1 p id hp hn p.length 0 [] false (by omega) (by simp)
    rw [List.drop_zero] at h0
    refine Ev.succ (fun k => by rw [law24_TalePages.l1, if_neg (by simp; omega)]) ?_
    refine Ev.bind (g := fun k => tale_Pages.f k p id) h0.1 ?_
    rw [← hq, pagesOf]
    refine Ev.bind (same01 _ _ (by show ns.length ≤ _; omega)) ?_
    refine Ev.ift (by simp) ?_
    simp [law24_TalePages.j4]; exact Ev.pure
  | n + 1, i, ns, e, hi, hl, hq => by
    have hlt : i < p.length := by omega
    have hw : IntKind.i64.wrap ((i : Int) + 1) = ((i + 1 : Nat) : Int) := by rw [w64 (by omega)]; omega
    have hr := hn p[i] (List.getElem_mem hlt)
    rw [List.drop_eq_getElem_cons hlt, pagesOf] at hq
    refine Ev.succ (fun k => by rw [law24_TalePages.l1]) ?_
    refine Ev.ift (by simp; omega) (Ev.ix (List.getElem?_eq_getElem hlt) ?_)
    simp only [law24_TalePages.j3, law24_TalePages.j2, hw]
    by_cases h : p[i].Op.Kind = 6 ∧ p[i].Op.ID = id ∧ p[i].Result.Err = 0
    · rw [if_pos h] at hq
      have ih := law_l1 p id hp hn n (i + 1) _ _ (by omega) (by rw [List.length_append]; omega) hq
      refine Ev.ift (by simp [h.1]) (Ev.ift (by simp [h.2.1]) ?_)
      exact Ev.ift (by simp [h.2.2]) (Ev.lim (by unfold BIG; omega) ih)
    · rw [if_neg h] at hq
      have ih := law_l1 p id hp hn n (i + 1) _ _ (by omega) (by omega) hq
      refine Ev.ite (fun h1 => Ev.ite (fun h2 => Ev.iff ?_ ih) fun _ => Ev.iff rfl ih) fun _ => Ev.iff rfl ih
      simp only [beq_iff_eq] at h1 h2
      simp only [beq_eq_false_iff_ne]
      exact fun h3 => h ⟨h1, h2, h3⟩
theorem may_names (p : List T_sched_Record) (hp : p.length ≤ 1000000) : ∀ (n j : Nat), j + n = p.length → Ev (fun k => law24_may.l1 p k (j : Int)) true → ∀ r ∈ p.drop j, r.Result.Names.length ≤ 100
  | 0, j, hj, _, r, hr => by rw [List.drop_of_length_le (by omega)] at hr; cases hr
  | n + 1, j, hj, hv, r, hr => by
    have hlt : j < p.length := by omega
    have hw : IntKind.i64.wrap ((j : Int) + 1) = ((j + 1 : Nat) : Int) := by rw [w64 (by omega)]; omega
    obtain ⟨K, hK⟩ := hv
    obtain ⟨f, F, hF⟩ := few1 p[j].Op
    have hix : ix p (j : Int) = some p[j] := by unfold ix; rw [if_pos (by omega)]; simp [hlt]
    have step : ∀ k, K + F ≤ k → p[j].Result.Names.length ≤ 100 ∧ law24_may.l1 p k ((j + 1 : Nat) : Int) = some true := fun k hk => by
      have h1 : law24_may.l1 p (k + 1) (j : Int) = some true := hK (k + 1) (by omega)
      have hF' : law20_Few.f k [p[j].Op] 1 = some f := hF k (by omega)
      rw [law24_may.l1, if_pos (by simp; omega), hix, Option.bind_some, hF', Option.bind_some] at h1
      simp only [law24_may.j2, hw] at h1
      generalize decide ((if p[j].Return > (if p[j].Mark > p[j].Call then p[j].Mark else p[j].Call) then p[j].Return else (if p[j].Mark > p[j].Call then p[j].Mark else p[j].Call)) > 2147483647) = c at h1
      split at h1
      · simp at h1
      split at h1
      · simp at h1
      split at h1
      · simp at h1
      split at h1
      · simp at h1
      split at h1
      · simp at h1
      split at h1
      · simp at h1
      · rename_i h; simp only [decide_eq_true_eq, Int.not_lt] at h; exact ⟨by omega, h1⟩
    rw [List.drop_eq_getElem_cons hlt] at hr
    rcases List.mem_cons.1 hr with rfl | hr
    · exact (step (K + F) (Nat.le_refl _)).1
    · exact may_names p hp n (j + 1) (by omega) ⟨K + F, fun k hk => (step k hk).2⟩ r hr
theorem talePages (p : List T_sched_Record) (id : Int) : Ev (fun k => law24_TalePages.f k p id) true := by
  unfold law24_TalePages.f
  refine Ev.bind (Ev.val speaks24) ?_
  refine Ev.iff rfl ?_
  obtain ⟨m, hm, h60⟩ := may24 p
  refine Ev.bind hm ?_
  refine Ev.ite (fun _ => Ev.pure) fun h => ?_
  have h' : m = true := by simpa using h
  subst h'
  have h60 := h60 rfl
  have hn := may_names p (by omega) p.length 0 (by omega) (by
    obtain ⟨K, hK⟩ := hm
    refine ⟨K, fun k hk => ?_⟩
    have this : law24_may.f k p = some true := hK k hk
    rw [law24_may.f, if_neg (by simp; omega)] at this
    exact this)
  rw [List.drop_zero] at hn
  refine law_l1 p id h60 hn p.length 0 [] false (by omega) (by simp) ?_
  rw [List.drop_zero]
end Go.Proofs.M
