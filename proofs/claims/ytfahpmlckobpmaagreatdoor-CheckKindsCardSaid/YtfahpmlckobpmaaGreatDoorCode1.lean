/- The code of the functions, for the abstract run: written by gen.py. -/
import Derived.Test.YtfahpmlckobpmaaGreatDoorNames
namespace Go.Proofs.YtfahpmlckobpmaaGreatDoor.Pi
open Go Cd
/-- (*sortilege/model.parser).variable -/
@[go_sem] def r53_0 : OL := [o 2 (.alloc [.str [], .bool false, .str [], .str [], .int .i64 0, .vs [] .exact, .int .i64 0, .str [], .str [], .int .i64 0, .vs [] .exact, .int .i64 0, .str [], .str [], .int .i64 0, .vs [] .exact, .int .i64 0, .bool false, .int .i64 0])]
@[go_sem] def r53_1 : OL := [o 3 (.alloc [.str [], .bool false, .str [], .str [], .int .i64 0, .vs [] .exact, .int .i64 0, .str [], .str [], .int .i64 0, .vs [] .exact, .int .i64 0, .str [], .str [], .int .i64 0, .vs [] .exact, .int .i64 0, .bool false, .int .i64 0])]
@[go_sem] def r53_2 : OL := [m 5 0, o 6 (.call K_model_parser_name [(t 5)]), m 4 6, o 7 (.extr (t 4) 0), o 8 (.extr (t 4) 1), o 9 (.fa 0 (t 3)), s (.store 1 (t 9) (t 7)), o 10 (.fa 18 (t 3)), s (.store 1 (t 10) (t 8))]
@[go_sem] def r53_3 : OL := [m 11 0, o 12 (.call K_model_parser_want [(t 11), (.c (.str [58]))])]
@[go_sem] def r53_4 : OL := [m 13 0, o 14 (.call K_model_parser_skip [(t 13), (.c (.str [98, 111, 111, 108]))]), o 15 (.fa 1 (t 3)), s (.store 1 (t 15) (t 14))]
@[go_sem] def r53_5 : OL := [o 16 (.fa 1 (t 3)), o 17 (.load false 1 (t 16)), o 18 (.un .not (t 17))]
@[go_sem] def r53_6 : OL := [m 19 0, o 20 (.call K_model_parser_want [(t 19), (.c (.str [91]))])]
@[go_sem] def r53_7 : OL := [m 21 0, o 22 (.call K_model_parser_expr [(t 21)]), o 23 (.fa 2 (t 3)), s (.store 5 (t 23) (t 22))]
@[go_sem] def r53_8 : OL := [m 24 0, o 25 (.call K_model_parser_want [(t 24), (.c (.str [46, 46]))])]
@[go_sem] def r53_9 : OL := [m 26 0, o 27 (.call K_model_parser_expr [(t 26)]), o 28 (.fa 7 (t 3)), s (.store 5 (t 28) (t 27))]
@[go_sem] def r53_10 : OL := [m 29 0, o 30 (.call K_model_parser_want [(t 29), (.c (.str [93]))])]
@[go_sem] def r53_11 : OL := [m 31 0, o 32 (.call K_model_parser_skip [(t 31), (.c (.str [105, 110, 105, 116]))]), o 33 (.fa 17 (t 3)), s (.store 1 (t 33) (t 32))]
@[go_sem] def r53_12 : OL := [o 34 (.fa 17 (t 3)), o 35 (.load false 1 (t 34))]
@[go_sem] def r53_13 : OL := [m 36 0, o 37 (.call K_model_parser_expr [(t 36)]), o 38 (.fa 12 (t 3)), s (.store 5 (t 38) (t 37))]
@[go_sem] def r53_14 : OL := [m 39 0, o 40 (.call K_model_parser_want [(t 39), (.c (.str [59]))])]
@[go_sem] def r53_15 : OL := [o 41 (.load true 19 (t 3)), s (.store 19 (t 2) (t 41))]
def F_model_parser_variable : AFn := ⟨42, (.seq (.reg r53_0 [0, 2]) (.seq (.reg r53_1 [0, 2, 3]) (.seq (.reg r53_2 [0, 2, 3]) (.seq (.reg r53_3 [0, 2, 3]) (.seq (.seq (.reg r53_4 [0, 2, 3]) (.seq (.reg r53_5 [0, 2, 3, 18]) (.cond (.t 18) (.seq (.reg r53_6 [0, 2, 3]) (.seq (.reg r53_7 [0, 2, 3]) (.seq (.reg r53_8 [0, 2, 3]) (.seq (.reg r53_9 [0, 2, 3]) (.reg r53_10 [0, 2, 3]))))) .skip))) (.seq (.seq (.reg r53_11 [0, 2, 3]) (.seq (.reg r53_12 [0, 2, 3, 35]) (.cond (.t 35) (.reg r53_13 [0, 2, 3]) .skip))) (.seq (.reg r53_14 [2, 3]) (.seq (.reg r53_15 [2]) .ret)))))))), [.c 2 true 19], true⟩
/-- (*sortilege/model.parser).command -/
@[go_sem] def r54_0 : OL := [o 2 (.alloc [.str [], .str [], .str [], .int .i64 0, .vs [] .exact, .int .i64 0, .vs [] .exact, .int .i64 0])]
@[go_sem] def r54_1 : OL := [m 4 0, o 5 (.nilck (t 4)), o 6 (.fa 0 (t 5)), o 7 (.load false 1 (t 6)), o 8 (.call K_scan_Reader_Peek [(t 7)]), o 9 (.fld false 2 1 (t 8)), o 10 (.build [.str [], .str [], .str [], .int .i64 0, .vs [] .exact, .int .i64 0, .vs [] .exact, .int .i64 0] [(7, 1, (t 9))]), o 3 (.alloc [.str [], .str [], .str [], .int .i64 0, .vs [] .exact, .int .i64 0, .vs [] .exact, .int .i64 0]), s (.store 8 (t 3) (t 10))]
@[go_sem] def r54_2 : OL := [m 11 0, o 12 (.call K_model_parser_want [(t 11), (.c (.str [91]))])]
@[go_sem] def r54_3 : OL := [m 13 0, o 14 (.nilck (t 13)), o 15 (.fa 2 (t 14)), o 16 (.load false 1 (t 15)), o 17 (.bin .iface .eql (t 16) (.c .nili)), m 18 17, g 19 (.mv (t 0)) 18 true, g 20 (.nilck (t 19)) 18 true, g 21 (.fa 0 (t 20)) 18 true, g 22 (.load false 1 (t 21)) 18 true, g 23 (.call K_scan_Reader_Is [(t 22), (.c (.str [93]))]) 18 true, g 24 (.un .not (t 23)) 18 true, o 25 (.pick (t 18) (t 24) (.c (.bool false)))]
@[go_sem] def r54_4 : OL := [m 27 0, o 28 (.call K_model_parser_name [(t 27)]), m 26 28, o 29 (.extr (t 26) 0), o 30 (.extr (t 26) 1), o 31 (.fa 0 (t 3)), s (.store 1 (t 31) (t 29))]
@[go_sem] def r54_5 : OL := [m 32 0, o 33 (.call K_model_parser_want [(t 32), (.c (.str [93]))])]
@[go_sem] def r54_6 : OL := [m 34 0, o 35 (.call K_model_parser_expr [(t 34)]), o 36 (.fa 1 (t 3)), s (.store 5 (t 36) (t 35))]
@[go_sem] def r54_7 : OL := [m 37 0, o 38 (.call K_model_parser_want [(t 37), (.c (.str [45, 62]))])]
@[go_sem] def r54_8 : OL := [m 39 0, m 40 0, o 41 (.mkF K_model_parser_branch [(t 40)] []), o 42 (.call K_model_split_model_Branch [(t 39), (.c (.str [43])), (t 41)]), o 43 (.fa 6 (t 3)), s (.store 1 (t 43) (t 42))]
@[go_sem] def r54_9 : OL := [m 44 0, o 45 (.call K_model_parser_want [(t 44), (.c (.str [59]))])]
@[go_sem] def r54_10 : OL := [o 46 (.load true 8 (t 3)), s (.store 8 (t 2) (t 46))]
def F_model_parser_command : AFn := ⟨47, (.seq (.reg r54_0 [0, 2]) (.seq (.reg r54_1 [0, 2, 3]) (.seq (.reg r54_2 [0, 2, 3]) (.seq (.seq (.reg r54_3 [0, 2, 3, 25]) (.cond (.t 25) (.reg r54_4 [0, 2, 3]) .skip)) (.seq (.reg r54_5 [0, 2, 3]) (.seq (.reg r54_6 [0, 2, 3]) (.seq (.reg r54_7 [0, 2, 3]) (.seq (.reg r54_8 [0, 2, 3]) (.seq (.reg r54_9 [2, 3]) (.seq (.reg r54_10 [2]) .ret)))))))))), [.c 2 true 8], true⟩
/-- sortilege/fold.begin -/
@[go_sem] def r55_0 : OL := [o 1 (.boxv (t 0)), o 2 (.mv (.c .nilp)), o 3 (.mv (.c .nili))]
@[go_sem] def r55_1 : OL := [o 16 (.load true 4 (t 1)), o 17 (.mkMap), o 18 (.build [.vs [] .exact, .vs [] .exact, .vs [] .exact, .vs [] .exact, .nilm] [(0, 4, (t 16)), (4, 1, (t 17))]), o 19 (.boxm (t 18)), o 4 (.alloc [.nilp]), s (.store 1 (t 4) (t 19))]
@[go_sem] def r55_2 : OL := [o 5 (.alloc [.nili])]
@[go_sem] def r55_3 : OL := [o 20 (.mkF K_fold_begin_1 [] [(t 5), (t 4)]), m 6 20]
@[go_sem] def r55_4 : OL := [o 21 (.fa 0 (t 1)), o 22 (.load false 1 (t 21)), o 23 (.lenv (t 22)), o 24 (.mv (i 0))]
@[go_sem] def r55_5 : OL := [o 25 (.bin .plain .lss (t 24) (t 23))]
@[go_sem] def r55_6 : OL := [o 26 (.ixa 7 (t 22) (t 24)), o 27 (.load true 7 (t 26)), o 8 (.alloc [.str [], .str [], .str [], .int .i64 0, .vs [] .exact, .int .i64 0, .int .i64 0]), s (.store 7 (t 8) (t 27))]
@[go_sem] def r55_7 : OL := [m 28 6, o 29 (.load true 7 (t 8)), o 30 (.callv (t 28) [(t 29), (i 1)])]
@[go_sem] def r55_8 : OL := [o 31 (.bin .plain .add (t 24) (i 1)), m 24 31]
@[go_sem] def r55_9 : OL := [o 32 (.fa 1 (t 1)), o 33 (.load false 1 (t 32)), o 34 (.lenv (t 33)), o 35 (.mv (i 0))]
@[go_sem] def r55_10 : OL := [o 36 (.bin .plain .lss (t 35) (t 34))]
@[go_sem] def r55_11 : OL := [o 37 (.ixa 7 (t 33) (t 35)), o 38 (.load true 7 (t 37)), o 10 (.alloc [.str [], .str [], .str [], .int .i64 0, .vs [] .exact, .int .i64 0, .int .i64 0]), s (.store 7 (t 10) (t 38))]
@[go_sem] def r55_12 : OL := [m 39 6, o 40 (.load true 7 (t 10)), o 41 (.callv (t 39) [(t 40), (i 2)])]
@[go_sem] def r55_13 : OL := [o 42 (.bin .plain .add (t 35) (i 1)), m 35 42]
@[go_sem] def r55_14 : OL := [o 11 (.mv (.c (.vs [] .exact)))]
@[go_sem] def r55_15 : OL := [o 43 (.fa 3 (t 1)), o 44 (.load false 1 (t 43)), o 45 (.lenv (t 44)), o 46 (.mv (i 0))]
@[go_sem] def r55_16 : OL := [o 47 (.bin .plain .lss (t 46) (t 45))]
@[go_sem] def r55_17 : OL := [o 48 (.ixa 4 (t 44) (t 46)), o 49 (.load true 4 (t 48)), o 13 (.alloc [.str [], .vs [] .exact, .vs [] .exact, .int .i64 0]), s (.store 4 (t 13) (t 49))]
@[go_sem] def r55_18 : OL := [m 50 11, o 51 (.fa 0 (t 13)), o 52 (.load false 1 (t 51)), o 53 (.fa 3 (t 13)), o 54 (.load false 1 (t 53)), o 55 (.build [.str [], .str [], .str [], .int .i64 0, .vs [] .exact, .int .i64 0, .int .i64 0] [(0, 1, (t 52)), (6, 1, (t 54))]), o 56 (.bslice [.str [], .str [], .str [], .int .i64 0, .vs [] .exact, .int .i64 0, .int .i64 0] 1 [(0, (t 55))]), o 57 (.append 7 (t 50) (t 56)), m 11 57]
@[go_sem] def r55_19 : OL := [o 58 (.fa 1 (t 13)), o 59 (.load false 1 (t 58)), o 60 (.lenv (t 59)), o 61 (.mv (i 0))]
@[go_sem] def r55_20 : OL := [o 62 (.bin .plain .lss (t 61) (t 60))]
@[go_sem] def r55_21 : OL := [o 63 (.ixa 19 (t 59) (t 61)), o 64 (.load true 19 (t 63)), o 15 (.alloc [.str [], .bool false, .str [], .str [], .int .i64 0, .vs [] .exact, .int .i64 0, .str [], .str [], .int .i64 0, .vs [] .exact, .int .i64 0, .str [], .str [], .int .i64 0, .vs [] .exact, .int .i64 0, .bool false, .int .i64 0]), s (.store 19 (t 15) (t 64))]
@[go_sem] def r55_22 : OL := [m 65 6, o 66 (.fa 0 (t 15)), o 67 (.load false 1 (t 66)), o 68 (.fa 18 (t 15)), o 69 (.load false 1 (t 68)), o 70 (.build [.str [], .str [], .str [], .int .i64 0, .vs [] .exact, .int .i64 0, .int .i64 0] [(0, 1, (t 67)), (6, 1, (t 69))]), o 71 (.callv (t 65) [(t 70), (i 3)])]
@[go_sem] def r55_23 : OL := [o 72 (.bin .plain .add (t 61) (i 1)), m 61 72]
@[go_sem] def r55_24 : OL := [o 73 (.bin .plain .add (t 46) (i 1)), m 46 73]
@[go_sem] def r55_25 : OL := [o 74 (.load false 1 (t 5)), o 75 (.bin .iface .eql (t 74) (.c .nili))]
@[go_sem] def r55_26 : OL := [o 76 (.fa 2 (t 1)), o 77 (.load false 1 (t 76)), o 78 (.call K_fold_once [(t 77)]), s (.store 1 (t 5) (t 78))]
@[go_sem] def r55_27 : OL := [o 79 (.load false 1 (t 5)), o 80 (.bin .iface .eql (t 79) (.c .nili))]
@[go_sem] def r55_28 : OL := [m 81 11, o 82 (.call K_fold_once [(t 81)]), s (.store 1 (t 5) (t 82))]
@[go_sem] def r55_29 : DL := [.val 0 none (o 83 (.load false 1 (t 4))), .val 1 none (o 84 (.load false 1 (t 5))), .val 2 none (m 2 83), .val 3 none (m 3 84)]
def L_fold_begin_0 : AC := (.seq (.reg r55_5 [1, 4, 5, 6, 22, 23, 24, 25]) (.seq (.cond (.t 25) .skip (.exit 0)) (.seq (.block 1 (.seq (.reg r55_6 [1, 4, 5, 6, 8, 22, 23, 24]) (.reg r55_7 [1, 4, 5, 6, 22, 23, 24]))) (.reg r55_8 [1, 4, 5, 6, 22, 23, 24]))))
theorem L_fold_begin_0_eq {E : Env} {fr : Fr} {h : AH} (keep : List Nat) : LP E L_fold_begin_0 keep fr h = XS E (.seq (.reg r55_5 [1, 4, 5, 6, 22, 23, 24, 25]) (.seq (.cond (.t 25) .skip (.exit 0)) (.seq (.block 1 (.seq (.reg r55_6 [1, 4, 5, 6, 8, 22, 23, 24]) (.reg r55_7 [1, 4, 5, 6, 22, 23, 24]))) (.reg r55_8 [1, 4, 5, 6, 22, 23, 24])))) [.lp L_fold_begin_0 keep] (keepFr keep fr) h := LP_XS L_fold_begin_0 keep
def L_fold_begin_1 : AC := (.seq (.reg r55_10 [1, 4, 5, 6, 33, 34, 35, 36]) (.seq (.cond (.t 36) .skip (.exit 2)) (.seq (.block 3 (.seq (.reg r55_11 [1, 4, 5, 6, 10, 33, 34, 35]) (.reg r55_12 [1, 4, 5, 6, 33, 34, 35]))) (.reg r55_13 [1, 4, 5, 6, 33, 34, 35]))))
theorem L_fold_begin_1_eq {E : Env} {fr : Fr} {h : AH} (keep : List Nat) : LP E L_fold_begin_1 keep fr h = XS E (.seq (.reg r55_10 [1, 4, 5, 6, 33, 34, 35, 36]) (.seq (.cond (.t 36) .skip (.exit 2)) (.seq (.block 3 (.seq (.reg r55_11 [1, 4, 5, 6, 10, 33, 34, 35]) (.reg r55_12 [1, 4, 5, 6, 33, 34, 35]))) (.reg r55_13 [1, 4, 5, 6, 33, 34, 35])))) [.lp L_fold_begin_1 keep] (keepFr keep fr) h := LP_XS L_fold_begin_1 keep
def L_fold_begin_3 : AC := (.seq (.reg r55_20 [1, 4, 5, 6, 11, 44, 45, 46, 59, 60, 61, 62]) (.seq (.cond (.t 62) .skip (.exit 6)) (.seq (.block 7 (.seq (.reg r55_21 [1, 4, 5, 6, 11, 15, 44, 45, 46, 59, 60, 61]) (.reg r55_22 [1, 4, 5, 6, 11, 44, 45, 46, 59, 60, 61]))) (.reg r55_23 [1, 4, 5, 6, 11, 44, 45, 46, 59, 60, 61]))))
theorem L_fold_begin_3_eq {E : Env} {fr : Fr} {h : AH} (keep : List Nat) : LP E L_fold_begin_3 keep fr h = XS E (.seq (.reg r55_20 [1, 4, 5, 6, 11, 44, 45, 46, 59, 60, 61, 62]) (.seq (.cond (.t 62) .skip (.exit 6)) (.seq (.block 7 (.seq (.reg r55_21 [1, 4, 5, 6, 11, 15, 44, 45, 46, 59, 60, 61]) (.reg r55_22 [1, 4, 5, 6, 11, 44, 45, 46, 59, 60, 61]))) (.reg r55_23 [1, 4, 5, 6, 11, 44, 45, 46, 59, 60, 61])))) [.lp L_fold_begin_3 keep] (keepFr keep fr) h := LP_XS L_fold_begin_3 keep
def L_fold_begin_2 : AC := (.seq (.reg r55_16 [1, 4, 5, 6, 11, 44, 45, 46, 47]) (.seq (.cond (.t 47) .skip (.exit 4)) (.seq (.block 5 (.seq (.reg r55_17 [1, 4, 5, 6, 11, 13, 44, 45, 46]) (.seq (.reg r55_18 [1, 4, 5, 6, 11, 13, 44, 45, 46]) (.seq (.reg r55_19 [1, 4, 5, 6, 11, 44, 45, 46, 59, 60, 61]) (.block 6 (.loop L_fold_begin_3 [1, 4, 5, 6, 11, 44, 45, 46, 59, 60, 61])))))) (.reg r55_24 [1, 4, 5, 6, 11, 44, 45, 46]))))
theorem L_fold_begin_2_eq {E : Env} {fr : Fr} {h : AH} (keep : List Nat) : LP E L_fold_begin_2 keep fr h = XS E (.seq (.reg r55_16 [1, 4, 5, 6, 11, 44, 45, 46, 47]) (.seq (.cond (.t 47) .skip (.exit 4)) (.seq (.block 5 (.seq (.reg r55_17 [1, 4, 5, 6, 11, 13, 44, 45, 46]) (.seq (.reg r55_18 [1, 4, 5, 6, 11, 13, 44, 45, 46]) (.seq (.reg r55_19 [1, 4, 5, 6, 11, 44, 45, 46, 59, 60, 61]) (.block 6 (.loop L_fold_begin_3 [1, 4, 5, 6, 11, 44, 45, 46, 59, 60, 61])))))) (.reg r55_24 [1, 4, 5, 6, 11, 44, 45, 46])))) [.lp L_fold_begin_2 keep] (keepFr keep fr) h := LP_XS L_fold_begin_2 keep
def F_fold_begin : AFn := ⟨85, (.seq (.reg r55_0 [1]) (.seq (.reg r55_1 [1, 4]) (.seq (.reg r55_2 [1, 4, 5]) (.seq (.reg r55_3 [1, 4, 5, 6]) (.seq (.seq (.reg r55_4 [1, 4, 5, 6, 22, 23, 24]) (.block 0 (.loop L_fold_begin_0 [1, 4, 5, 6, 22, 23, 24]))) (.seq (.seq (.reg r55_9 [1, 4, 5, 6, 33, 34, 35]) (.block 2 (.loop L_fold_begin_1 [1, 4, 5, 6, 33, 34, 35]))) (.seq (.reg r55_14 [1, 4, 5, 6, 11]) (.seq (.seq (.reg r55_15 [1, 4, 5, 6, 11, 44, 45, 46]) (.block 4 (.loop L_fold_begin_2 [1, 4, 5, 6, 11, 44, 45, 46]))) (.seq (.seq (.reg r55_25 [1, 4, 5, 11, 75]) (.cond (.t 75) (.reg r55_26 [4, 5, 11]) .skip)) (.seq (.seq (.reg r55_27 [4, 5, 11, 80]) (.cond (.t 80) (.reg r55_28 [4, 5]) .skip)) (.seq (.regd r55_29 [] [2, 3]) .ret))))))))))), [.t 2, .t 3], true⟩
/-- (*sortilege/fold.folder).consts -/
@[go_sem] def r56_0 : OL := [o 2 (.mv (.c (.vs [] .exact))), o 3 (.mv (.c .nili))]
@[go_sem] def r56_1 : OL := [o 4 (.mv (.c (.vs [] .exact)))]
@[go_sem] def r56_2 : OL := [m 9 0, o 10 (.nilck (t 9)), o 11 (.fa 0 (t 10)), o 12 (.fa 0 (t 11)), o 13 (.load false 1 (t 12)), o 14 (.lenv (t 13)), o 15 (.mv (i 0))]
@[go_sem] def r56_3 : OL := [o 16 (.bin .plain .lss (t 15) (t 14))]
@[go_sem] def r56_4 : OL := [o 17 (.ixa 7 (t 13) (t 15)), o 18 (.load true 7 (t 17)), o 6 (.alloc [.str [], .str [], .str [], .int .i64 0, .vs [] .exact, .int .i64 0, .int .i64 0]), s (.store 7 (t 6) (t 18))]
@[go_sem] def r56_5 : DL := [.val 0 none (m 19 0), .val 1 none (o 20 (.nilck (t 19))), .val 2 none (o 21 (.fa 4 (t 20))), .val 3 none (o 22 (.load false 1 (t 21))), .val 4 none (o 23 (.fa 0 (t 6))), .val 5 none (o 24 (.load false 1 (t 23))), .val 6 none (o 25 (.lookup 1 false (.nilp) (t 22) (t 24))), .val 7 none (m 7 25)]
@[go_sem] def r56_6 : OL := [m 26 7, o 27 (.nilck (t 26)), o 28 (.fa 8 (t 27)), o 29 (.load false 1 (t 28)), o 30 (.bin .plain .eql (t 29) (i 0))]
@[go_sem] def r56_7 : OL := [m 31 0, m 32 7, o 33 (.call K_fold_folder_constant [(t 31), (t 32)]), m 8 33]
@[go_sem] def r56_8 : OL := [m 34 8, o 35 (.bin .iface .neq (t 34) (.c .nili))]
@[go_sem] def r56_9 : OL := [m 36 8, o 2 (.mv (.c (.vs [] .exact))), m 3 36]
@[go_sem] def r56_10 : DL := [.val 0 none (m 37 4), .val 1 none (o 38 (.fa 0 (t 6))), .val 2 none (o 39 (.load false 1 (t 38))), .val 3 none (m 40 7), .val 4 none (o 41 (.nilck (t 40))), .val 5 none (o 42 (.fa 9 (t 41))), .val 6 none (o 43 (.load true 3 (t 42))), .val 7 none (o 44 (.build [.str [], .bool false, .bool false, .int .i64 0] [(0, 1, (t 39)), (1, 3, (t 43))])), .val 8 none (o 45 (.bslice [.str [], .bool false, .bool false, .int .i64 0] 1 [(0, (t 44))])), .eff [] 9 (o 46 (.append 4 (t 37) (t 45))), .val 10 none (m 4 46)]
@[go_sem] def r56_11 : OL := [o 47 (.bin .plain .add (t 15) (i 1)), m 15 47]
@[go_sem] def r56_12 : OL := [m 48 4, m 2 48, o 3 (.mv (.c .nili))]
def L_fold_folder_consts_0 : AC := (.seq (.reg r56_3 [0, 4, 13, 14, 15, 16]) (.seq (.cond (.t 16) .skip (.exit 0)) (.seq (.block 1 (.seq (.reg r56_4 [0, 4, 6, 13, 14, 15]) (.seq (.regd r56_5 [] [0, 4, 6, 7, 13, 14, 15]) (.seq (.seq (.reg r56_6 [0, 4, 6, 7, 13, 14, 15, 30]) (.cond (.t 30) (.seq (.reg r56_7 [0, 4, 6, 7, 8, 13, 14, 15]) (.seq (.reg r56_8 [0, 4, 6, 7, 8, 13, 14, 15, 35]) (.cond (.t 35) (.seq (.reg r56_9 [2, 3]) .ret) .skip))) .skip)) (.regd r56_10 [] [0, 4, 13, 14, 15]))))) (.reg r56_11 [0, 4, 13, 14, 15]))))
theorem L_fold_folder_consts_0_eq {E : Env} {fr : Fr} {h : AH} (keep : List Nat) : LP E L_fold_folder_consts_0 keep fr h = XS E (.seq (.reg r56_3 [0, 4, 13, 14, 15, 16]) (.seq (.cond (.t 16) .skip (.exit 0)) (.seq (.block 1 (.seq (.reg r56_4 [0, 4, 6, 13, 14, 15]) (.seq (.regd r56_5 [] [0, 4, 6, 7, 13, 14, 15]) (.seq (.seq (.reg r56_6 [0, 4, 6, 7, 13, 14, 15, 30]) (.cond (.t 30) (.seq (.reg r56_7 [0, 4, 6, 7, 8, 13, 14, 15]) (.seq (.reg r56_8 [0, 4, 6, 7, 8, 13, 14, 15, 35]) (.cond (.t 35) (.seq (.reg r56_9 [2, 3]) .ret) .skip))) .skip)) (.regd r56_10 [] [0, 4, 13, 14, 15]))))) (.reg r56_11 [0, 4, 13, 14, 15])))) [.lp L_fold_folder_consts_0 keep] (keepFr keep fr) h := LP_XS L_fold_folder_consts_0 keep
def F_fold_folder_consts : AFn := ⟨49, (.seq (.reg r56_0 [0]) (.seq (.reg r56_1 [0, 4]) (.seq (.seq (.reg r56_2 [0, 4, 13, 14, 15]) (.block 0 (.loop L_fold_folder_consts_0 [0, 4, 13, 14, 15]))) (.seq (.reg r56_12 [2, 3]) .ret)))), [.t 2, .t 3], true⟩
/-- (*sortilege/fold.folder).formula -/
@[go_sem] def r57_0 : OL := [o 4 (.mv (.c .nili))]
@[go_sem] def r57_1 : OL := [m 7 1, o 8 (.nilck (t 7)), o 9 (.fa 8 (t 8)), s (.store 1 (t 9) (i 1))]
@[go_sem] def r57_2 : OL := [m 11 0, m 12 1, o 13 (.nilck (t 12)), o 14 (.fa 1 (t 13)), o 15 (.fa 1 (t 14)), o 16 (.load true 5 (t 15)), o 17 (.call K_fold_folder_expand [(t 11), (t 16), (.c (.bool false))]), m 10 17, o 18 (.extr (t 10) 0), o 19 (.extr (t 10) 1), o 5 (.alloc [.str [], .str [], .int .i64 0, .vs [] .exact, .int .i64 0]), s (.store 5 (t 5) (t 18)), m 6 19]
@[go_sem] def r57_3 : OL := [m 20 6, o 21 (.bin .iface .neq (t 20) (.c .nili))]
@[go_sem] def r57_4 : OL := [m 22 6, m 4 22]
@[go_sem] def r57_5 : OL := [m 23 1, m 24 1, o 25 (.load true 5 (t 5)), o 26 (.nilck (t 23)), o 27 (.fa 12 (t 26)), s (.store 5 (t 27) (t 25)), o 28 (.nilck (t 24)), o 29 (.fa 8 (t 28)), s (.store 1 (t 29) (i 2))]
@[go_sem] def r57_6 : OL := [o 4 (.mv (.c .nili))]
def F_fold_folder_formula : AFn := ⟨30, (.seq (.reg r57_0 [0, 1]) (.seq (.reg r57_1 [0, 1]) (.seq (.reg r57_2 [1, 5, 6]) (.seq (.seq (.reg r57_3 [1, 5, 6, 21]) (.cond (.t 21) (.seq (.reg r57_4 [4]) .ret) .skip)) (.seq (.reg r57_5 []) (.seq (.reg r57_6 [4]) .ret)))))), [.t 4], true⟩
/-- (*sortilege/fold.steps).put -/
@[go_sem] def r58_0 : OL := [o 4 (.boxv (t 1)), o 6 (.alloc [.str [], .str [], .int .i64 0, .vs [] .exact, .int .i64 0])]
@[go_sem] def r58_1 : OL := [m 9 0, o 10 (.nilck (t 9)), o 11 (.fa 1 (t 10)), o 12 (.load false 1 (t 11)), o 13 (.bin .iface .neq (t 12) (.c .nili))]
@[go_sem] def r58_2 : OL := [o 14 (.build [.str [], .str [], .int .i64 0, .vs [] .exact, .int .i64 0] []), s (.store 5 (t 6) (t 14))]
@[go_sem] def r58_3 : DL := [.val 0 none (m 16 0), .val 1 none (o 17 (.nilck (t 16))), .val 2 none (o 18 (.fa 0 (t 17))), .val 3 none (o 19 (.load false 1 (t 18))), .val 4 none (o 20 (.load true 5 (t 4))), .val 5 none (m 21 2), .eff [] 6 (o 22 (.call K_fold_folder_expand [(t 19), (t 20), (t 21)])), .val 7 none (m 15 22), .val 8 none (o 23 (.extr (t 15) 0)), .eff [(10, 7, [.str [], .str [], .int .i64 0, .vs [] .exact, .int .i64 0])] 11 (s (.store 5 (t 7) (t 23))), .val 9 none (o 24 (.extr (t 15) 1)), .val 12 none (m 8 24)]
@[go_sem] def r58_4 : OL := [m 25 0, m 26 8, o 27 (.nilck (t 25)), o 28 (.fa 1 (t 27)), s (.store 1 (t 28) (t 26))]
@[go_sem] def r58_5 : OL := [o 29 (.load true 5 (t 7)), s (.store 5 (t 6) (t 29))]
def F_fold_steps_put : AFn := ⟨30, (.seq (.reg r58_0 [0, 2, 4, 6]) (.seq (.seq (.reg r58_1 [0, 2, 4, 6, 13]) (.cond (.t 13) (.seq (.reg r58_2 [6]) .ret) .skip)) (.seq (.regd r58_3 [] [0, 6, 7, 8]) (.seq (.reg r58_4 [6, 7]) (.seq (.reg r58_5 [6]) .ret))))), [.c 6 true 5], true⟩
/-- (*sortilege/fold.steps).module -/
@[go_sem] def r59_0 : OL := [o 3 (.boxv (t 1)), o 4 (.alloc [.str [], .vs [] .exact, .vs [] .exact, .int .i64 0])]
@[go_sem] def r59_1 : OL := [o 16 (.fa 0 (t 3)), o 17 (.load false 1 (t 16)), o 18 (.fa 3 (t 3)), o 19 (.load false 1 (t 18)), o 20 (.build [.str [], .vs [] .exact, .vs [] .exact, .int .i64 0] [(0, 1, (t 17)), (3, 1, (t 19))]), o 5 (.alloc [.str [], .vs [] .exact, .vs [] .exact, .int .i64 0]), s (.store 4 (t 5) (t 20))]
@[go_sem] def r59_2 : OL := [o 21 (.fa 1 (t 3)), o 22 (.load false 1 (t 21)), o 23 (.lenv (t 22)), o 24 (.mv (i 0))]
@[go_sem] def r59_3 : OL := [o 25 (.bin .plain .lss (t 24) (t 23))]
@[go_sem] def r59_4 : OL := [o 26 (.ixa 19 (t 22) (t 24)), o 27 (.load true 19 (t 26)), o 7 (.alloc [.str [], .bool false, .str [], .str [], .int .i64 0, .vs [] .exact, .int .i64 0, .str [], .str [], .int .i64 0, .vs [] .exact, .int .i64 0, .str [], .str [], .int .i64 0, .vs [] .exact, .int .i64 0, .bool false, .int .i64 0]), s (.store 19 (t 7) (t 27))]
@[go_sem] def r59_5 : OL := [o 28 (.fa 1 (t 7)), o 29 (.load false 1 (t 28)), o 30 (.un .not (t 29))]
@[go_sem] def r59_6 : OL := [m 31 0, o 32 (.fa 2 (t 7)), o 33 (.load true 5 (t 32)), o 34 (.call K_fold_steps_put [(t 31), (t 33), (.c (.bool true))]), o 35 (.fa 2 (t 7)), s (.store 5 (t 35) (t 34))]
@[go_sem] def r59_7 : OL := [m 36 0, o 37 (.fa 7 (t 7)), o 38 (.load true 5 (t 37)), o 39 (.call K_fold_steps_put [(t 36), (t 38), (.c (.bool true))]), o 40 (.fa 7 (t 7)), s (.store 5 (t 40) (t 39))]
@[go_sem] def r59_8 : OL := [o 41 (.fa 17 (t 7)), o 42 (.load false 1 (t 41))]
@[go_sem] def r59_9 : OL := [m 43 0, o 44 (.fa 12 (t 7)), o 45 (.load true 5 (t 44)), o 46 (.call K_fold_steps_put [(t 43), (t 45), (.c (.bool true))]), o 47 (.fa 12 (t 7)), s (.store 5 (t 47) (t 46))]
@[go_sem] def r59_10 : OL := [o 48 (.fa 1 (t 5)), o 49 (.load false 1 (t 48)), o 50 (.load true 19 (t 7)), o 51 (.bslice [.str [], .bool false, .str [], .str [], .int .i64 0, .vs [] .exact, .int .i64 0, .str [], .str [], .int .i64 0, .vs [] .exact, .int .i64 0, .str [], .str [], .int .i64 0, .vs [] .exact, .int .i64 0, .bool false, .int .i64 0] 1 [(0, (t 50))]), o 52 (.append 19 (t 49) (t 51)), o 53 (.fa 1 (t 5)), s (.store 1 (t 53) (t 52))]
@[go_sem] def r59_11 : OL := [o 54 (.bin .plain .add (t 24) (i 1)), m 24 54]
@[go_sem] def r59_12 : OL := [o 55 (.fa 2 (t 3)), o 56 (.load false 1 (t 55)), o 57 (.lenv (t 56)), o 58 (.mv (i 0))]
@[go_sem] def r59_13 : OL := [o 59 (.bin .plain .lss (t 58) (t 57))]
@[go_sem] def r59_14 : OL := [o 60 (.ixa 8 (t 56) (t 58)), o 61 (.load true 8 (t 60)), o 9 (.alloc [.str [], .str [], .str [], .int .i64 0, .vs [] .exact, .int .i64 0, .vs [] .exact, .int .i64 0]), s (.store 8 (t 9) (t 61))]
@[go_sem] def r59_15 : OL := [m 62 0, o 63 (.fa 1 (t 9)), o 64 (.load true 5 (t 63)), o 65 (.call K_fold_steps_put [(t 62), (t 64), (.c (.bool false))]), o 66 (.fa 1 (t 9)), s (.store 5 (t 66) (t 65))]
@[go_sem] def r59_16 : OL := [o 10 (.mv (.c (.vs [] .exact)))]
@[go_sem] def r59_17 : OL := [o 67 (.fa 6 (t 9)), o 68 (.load false 1 (t 67)), o 69 (.lenv (t 68)), o 70 (.mv (i 0))]
@[go_sem] def r59_18 : OL := [o 71 (.bin .plain .lss (t 70) (t 69))]
@[go_sem] def r59_19 : OL := [o 72 (.ixa 3 (t 68) (t 70)), o 73 (.load true 3 (t 72)), o 12 (.alloc [.int .i64 0, .vs [] .exact, .int .i64 0]), s (.store 3 (t 12) (t 73))]
@[go_sem] def r59_20 : OL := [o 13 (.mv (.c (.vs [] .exact)))]
@[go_sem] def r59_21 : OL := [o 74 (.fa 1 (t 12)), o 75 (.load false 1 (t 74)), o 76 (.lenv (t 75)), o 77 (.mv (i 0))]
@[go_sem] def r59_22 : OL := [o 78 (.bin .plain .lss (t 77) (t 76))]
@[go_sem] def r59_23 : OL := [o 79 (.ixa 7 (t 75) (t 77)), o 80 (.load true 7 (t 79)), o 15 (.alloc [.str [], .str [], .str [], .int .i64 0, .vs [] .exact, .int .i64 0, .int .i64 0]), s (.store 7 (t 15) (t 80))]
@[go_sem] def r59_24 : OL := [m 81 0, o 82 (.fa 1 (t 15)), o 83 (.load true 5 (t 82)), o 84 (.call K_fold_steps_put [(t 81), (t 83), (.c (.bool false))]), o 85 (.fa 1 (t 15)), s (.store 5 (t 85) (t 84))]
@[go_sem] def r59_25 : OL := [m 86 13, o 87 (.load true 7 (t 15)), o 88 (.bslice [.str [], .str [], .str [], .int .i64 0, .vs [] .exact, .int .i64 0, .int .i64 0] 1 [(0, (t 87))]), o 89 (.append 7 (t 86) (t 88)), m 13 89]
@[go_sem] def r59_26 : OL := [o 90 (.bin .plain .add (t 77) (i 1)), m 77 90]
@[go_sem] def r59_27 : OL := [m 91 13, o 92 (.fa 1 (t 12)), s (.store 1 (t 92) (t 91))]
@[go_sem] def r59_28 : OL := [m 93 10, o 94 (.load true 3 (t 12)), o 95 (.bslice [.int .i64 0, .vs [] .exact, .int .i64 0] 1 [(0, (t 94))]), o 96 (.append 3 (t 93) (t 95)), m 10 96]
@[go_sem] def r59_29 : OL := [o 97 (.bin .plain .add (t 70) (i 1)), m 70 97]
@[go_sem] def r59_30 : OL := [m 98 10, o 99 (.fa 6 (t 9)), s (.store 1 (t 99) (t 98))]
@[go_sem] def r59_31 : OL := [o 100 (.fa 2 (t 5)), o 101 (.load false 1 (t 100)), o 102 (.load true 8 (t 9)), o 103 (.bslice [.str [], .str [], .str [], .int .i64 0, .vs [] .exact, .int .i64 0, .vs [] .exact, .int .i64 0] 1 [(0, (t 102))]), o 104 (.append 8 (t 101) (t 103)), o 105 (.fa 2 (t 5)), s (.store 1 (t 105) (t 104))]
@[go_sem] def r59_32 : OL := [o 106 (.bin .plain .add (t 58) (i 1)), m 58 106]
@[go_sem] def r59_33 : OL := [o 107 (.load true 4 (t 5)), s (.store 4 (t 4) (t 107))]
def L_fold_steps_module_0 : AC := (.seq (.reg r59_3 [0, 3, 4, 5, 22, 23, 24, 25]) (.seq (.cond (.t 25) .skip (.exit 0)) (.seq (.block 1 (.seq (.reg r59_4 [0, 3, 4, 5, 7, 22, 23, 24]) (.seq (.seq (.reg r59_5 [0, 3, 4, 5, 7, 22, 23, 24, 30]) (.cond (.t 30) (.seq (.reg r59_6 [0, 3, 4, 5, 7, 22, 23, 24]) (.reg r59_7 [0, 3, 4, 5, 7, 22, 23, 24])) .skip)) (.seq (.seq (.reg r59_8 [0, 3, 4, 5, 7, 22, 23, 24, 42]) (.cond (.t 42) (.reg r59_9 [0, 3, 4, 5, 7, 22, 23, 24]) .skip)) (.reg r59_10 [0, 3, 4, 5, 22, 23, 24]))))) (.reg r59_11 [0, 3, 4, 5, 22, 23, 24]))))
theorem L_fold_steps_module_0_eq {E : Env} {fr : Fr} {h : AH} (keep : List Nat) : LP E L_fold_steps_module_0 keep fr h = XS E (.seq (.reg r59_3 [0, 3, 4, 5, 22, 23, 24, 25]) (.seq (.cond (.t 25) .skip (.exit 0)) (.seq (.block 1 (.seq (.reg r59_4 [0, 3, 4, 5, 7, 22, 23, 24]) (.seq (.seq (.reg r59_5 [0, 3, 4, 5, 7, 22, 23, 24, 30]) (.cond (.t 30) (.seq (.reg r59_6 [0, 3, 4, 5, 7, 22, 23, 24]) (.reg r59_7 [0, 3, 4, 5, 7, 22, 23, 24])) .skip)) (.seq (.seq (.reg r59_8 [0, 3, 4, 5, 7, 22, 23, 24, 42]) (.cond (.t 42) (.reg r59_9 [0, 3, 4, 5, 7, 22, 23, 24]) .skip)) (.reg r59_10 [0, 3, 4, 5, 22, 23, 24]))))) (.reg r59_11 [0, 3, 4, 5, 22, 23, 24])))) [.lp L_fold_steps_module_0 keep] (keepFr keep fr) h := LP_XS L_fold_steps_module_0 keep
def L_fold_steps_module_3 : AC := (.seq (.reg r59_22 [0, 4, 5, 9, 10, 12, 13, 56, 57, 58, 68, 69, 70, 75, 76, 77, 78]) (.seq (.cond (.t 78) .skip (.exit 6)) (.seq (.block 7 (.seq (.reg r59_23 [0, 4, 5, 9, 10, 12, 13, 15, 56, 57, 58, 68, 69, 70, 75, 76, 77]) (.seq (.reg r59_24 [0, 4, 5, 9, 10, 12, 13, 15, 56, 57, 58, 68, 69, 70, 75, 76, 77]) (.reg r59_25 [0, 4, 5, 9, 10, 12, 13, 56, 57, 58, 68, 69, 70, 75, 76, 77])))) (.reg r59_26 [0, 4, 5, 9, 10, 12, 13, 56, 57, 58, 68, 69, 70, 75, 76, 77]))))
theorem L_fold_steps_module_3_eq {E : Env} {fr : Fr} {h : AH} (keep : List Nat) : LP E L_fold_steps_module_3 keep fr h = XS E (.seq (.reg r59_22 [0, 4, 5, 9, 10, 12, 13, 56, 57, 58, 68, 69, 70, 75, 76, 77, 78]) (.seq (.cond (.t 78) .skip (.exit 6)) (.seq (.block 7 (.seq (.reg r59_23 [0, 4, 5, 9, 10, 12, 13, 15, 56, 57, 58, 68, 69, 70, 75, 76, 77]) (.seq (.reg r59_24 [0, 4, 5, 9, 10, 12, 13, 15, 56, 57, 58, 68, 69, 70, 75, 76, 77]) (.reg r59_25 [0, 4, 5, 9, 10, 12, 13, 56, 57, 58, 68, 69, 70, 75, 76, 77])))) (.reg r59_26 [0, 4, 5, 9, 10, 12, 13, 56, 57, 58, 68, 69, 70, 75, 76, 77])))) [.lp L_fold_steps_module_3 keep] (keepFr keep fr) h := LP_XS L_fold_steps_module_3 keep
def L_fold_steps_module_2 : AC := (.seq (.reg r59_18 [0, 4, 5, 9, 10, 56, 57, 58, 68, 69, 70, 71]) (.seq (.cond (.t 71) .skip (.exit 4)) (.seq (.block 5 (.seq (.reg r59_19 [0, 4, 5, 9, 10, 12, 56, 57, 58, 68, 69, 70]) (.seq (.reg r59_20 [0, 4, 5, 9, 10, 12, 13, 56, 57, 58, 68, 69, 70]) (.seq (.seq (.reg r59_21 [0, 4, 5, 9, 10, 12, 13, 56, 57, 58, 68, 69, 70, 75, 76, 77]) (.block 6 (.loop L_fold_steps_module_3 [0, 4, 5, 9, 10, 12, 13, 56, 57, 58, 68, 69, 70, 75, 76, 77]))) (.seq (.reg r59_27 [0, 4, 5, 9, 10, 12, 56, 57, 58, 68, 69, 70]) (.reg r59_28 [0, 4, 5, 9, 10, 56, 57, 58, 68, 69, 70])))))) (.reg r59_29 [0, 4, 5, 9, 10, 56, 57, 58, 68, 69, 70]))))
theorem L_fold_steps_module_2_eq {E : Env} {fr : Fr} {h : AH} (keep : List Nat) : LP E L_fold_steps_module_2 keep fr h = XS E (.seq (.reg r59_18 [0, 4, 5, 9, 10, 56, 57, 58, 68, 69, 70, 71]) (.seq (.cond (.t 71) .skip (.exit 4)) (.seq (.block 5 (.seq (.reg r59_19 [0, 4, 5, 9, 10, 12, 56, 57, 58, 68, 69, 70]) (.seq (.reg r59_20 [0, 4, 5, 9, 10, 12, 13, 56, 57, 58, 68, 69, 70]) (.seq (.seq (.reg r59_21 [0, 4, 5, 9, 10, 12, 13, 56, 57, 58, 68, 69, 70, 75, 76, 77]) (.block 6 (.loop L_fold_steps_module_3 [0, 4, 5, 9, 10, 12, 13, 56, 57, 58, 68, 69, 70, 75, 76, 77]))) (.seq (.reg r59_27 [0, 4, 5, 9, 10, 12, 56, 57, 58, 68, 69, 70]) (.reg r59_28 [0, 4, 5, 9, 10, 56, 57, 58, 68, 69, 70])))))) (.reg r59_29 [0, 4, 5, 9, 10, 56, 57, 58, 68, 69, 70])))) [.lp L_fold_steps_module_2 keep] (keepFr keep fr) h := LP_XS L_fold_steps_module_2 keep
def L_fold_steps_module_1 : AC := (.seq (.reg r59_13 [0, 4, 5, 56, 57, 58, 59]) (.seq (.cond (.t 59) .skip (.exit 2)) (.seq (.block 3 (.seq (.reg r59_14 [0, 4, 5, 9, 56, 57, 58]) (.seq (.reg r59_15 [0, 4, 5, 9, 56, 57, 58]) (.seq (.reg r59_16 [0, 4, 5, 9, 10, 56, 57, 58]) (.seq (.seq (.reg r59_17 [0, 4, 5, 9, 10, 56, 57, 58, 68, 69, 70]) (.block 4 (.loop L_fold_steps_module_2 [0, 4, 5, 9, 10, 56, 57, 58, 68, 69, 70]))) (.seq (.reg r59_30 [0, 4, 5, 9, 56, 57, 58]) (.reg r59_31 [0, 4, 5, 56, 57, 58]))))))) (.reg r59_32 [0, 4, 5, 56, 57, 58]))))
theorem L_fold_steps_module_1_eq {E : Env} {fr : Fr} {h : AH} (keep : List Nat) : LP E L_fold_steps_module_1 keep fr h = XS E (.seq (.reg r59_13 [0, 4, 5, 56, 57, 58, 59]) (.seq (.cond (.t 59) .skip (.exit 2)) (.seq (.block 3 (.seq (.reg r59_14 [0, 4, 5, 9, 56, 57, 58]) (.seq (.reg r59_15 [0, 4, 5, 9, 56, 57, 58]) (.seq (.reg r59_16 [0, 4, 5, 9, 10, 56, 57, 58]) (.seq (.seq (.reg r59_17 [0, 4, 5, 9, 10, 56, 57, 58, 68, 69, 70]) (.block 4 (.loop L_fold_steps_module_2 [0, 4, 5, 9, 10, 56, 57, 58, 68, 69, 70]))) (.seq (.reg r59_30 [0, 4, 5, 9, 56, 57, 58]) (.reg r59_31 [0, 4, 5, 56, 57, 58]))))))) (.reg r59_32 [0, 4, 5, 56, 57, 58])))) [.lp L_fold_steps_module_1 keep] (keepFr keep fr) h := LP_XS L_fold_steps_module_1 keep
def F_fold_steps_module : AFn := ⟨108, (.seq (.reg r59_0 [0, 3, 4]) (.seq (.reg r59_1 [0, 3, 4, 5]) (.seq (.seq (.reg r59_2 [0, 3, 4, 5, 22, 23, 24]) (.block 0 (.loop L_fold_steps_module_0 [0, 3, 4, 5, 22, 23, 24]))) (.seq (.seq (.reg r59_12 [0, 4, 5, 56, 57, 58]) (.block 2 (.loop L_fold_steps_module_1 [0, 4, 5, 56, 57, 58]))) (.seq (.reg r59_33 [4]) .ret))))), [.c 4 true 4], true⟩
/-- (*sortilege/check.layer).fail -/
@[go_sem] def r60_0 : OL := [m 4 0, o 5 (.nilck (t 4)), o 6 (.fa 4 (t 5)), o 7 (.load false 1 (t 6)), o 8 (.bin .iface .eql (t 7) (.c .nili))]
@[go_sem] def r60_1 : OL := [m 9 0, m 10 1, o 11 (.nilck (t 9)), o 12 (.fa 4 (t 11)), s (.store 1 (t 12) (t 10))]
def F_check_layer_fail : AFn := ⟨13, (.seq (.reg r60_0 [0, 1, 8]) (.cond (.t 8) (.reg r60_1 []) .skip)), [], true⟩
/-- (*sortilege/check.layer).worth -/
@[go_sem] def r61_0 : OL := [o 4 (.boxv (t 1)), o 6 (.mv (i 0))]
@[go_sem] def r61_1 : OL := [m 9 0, o 10 (.nilck (t 9)), o 11 (.fa 4 (t 10)), o 12 (.load false 1 (t 11)), o 13 (.bin .iface .neq (t 12) (.c .nili))]
@[go_sem] def r61_2 : OL := [o 6 (.mv (i 0))]
@[go_sem] def r61_3 : OL := [o 15 (.load true 5 (t 4)), o 16 (.call K_value_Eval [(t 15), (.c (.vs [] .exact))]), m 14 16, o 17 (.extr (t 14) 0), o 18 (.extr (t 14) 1), o 7 (.alloc [.bool false, .bool false, .int .i64 0]), s (.store 3 (t 7) (t 17)), m 8 18]
@[go_sem] def r61_4 : OL := [m 20 8, o 21 (.bin .iface .neq (t 20) (.c .nili)), m 19 21]
@[go_sem] def r61_5 : OL := [m 22 0, m 23 8, o 24 (.call K_check_layer_fail [(t 22), (t 23)])]
@[go_sem] def r61_6 : OL := [o 26 (.fa 0 (t 7)), o 27 (.load false 1 (t 26)), m 28 2, o 29 (.bin .bool .neq (t 27) (t 28)), m 25 29]
@[go_sem] def r61_7 : OL := [m 30 0, o 31 (.fa 4 (t 4)), o 32 (.load false 1 (t 31)), o 33 (.mkI T_api_Errno (i 32)), o 34 (.call K_check_at [(t 32), (t 33)]), o 35 (.call K_check_layer_fail [(t 30), (t 34)])]
@[go_sem] def r61_8 : OL := [o 37 (.fa 1 (t 7)), o 38 (.load false 1 (t 37)), m 36 38]
@[go_sem] def r61_9 : OL := [o 6 (.mv (i 1))]
@[go_sem] def r61_10 : OL := [o 39 (.fa 2 (t 7)), o 40 (.load false 1 (t 39)), m 6 40]
def F_check_layer_worth : AFn := ⟨41, (.seq (.reg r61_0 [0, 2, 4]) (.seq (.seq (.reg r61_1 [0, 2, 4, 13]) (.cond (.t 13) (.seq (.reg r61_2 [6]) .ret) .skip)) (.seq (.reg r61_3 [0, 2, 4, 7, 8]) (.seq (.block 0 (.seq (.reg r61_4 [0, 2, 4, 7, 8, 19]) (.cond (.t 19) (.reg r61_5 [7]) (.seq (.reg r61_6 [0, 4, 7, 25]) (.cond (.t 25) (.reg r61_7 [7]) (.seq (.reg r61_8 [7, 36]) (.cond (.t 36) (.seq (.reg r61_9 [6]) .ret) .skip))))))) (.seq (.reg r61_10 [6]) .ret))))), [.t 6], true⟩
/-- sortilege/check.must -/
@[go_sem] def r62_0 : OL := [o 3 (.boxv (t 0)), o 6 (.mv (.c .nili))]
@[go_sem] def r62_1 : OL := [o 10 (.load true 5 (t 3)), m 11 1, o 12 (.call K_check_Kind [(t 10), (t 11)]), m 9 12, o 13 (.extr (t 9) 0), o 14 (.extr (t 9) 1), m 7 13, m 8 14]
@[go_sem] def r62_2 : OL := [m 15 8, o 16 (.bin .iface .eql (t 15) (.c .nili)), m 17 16, g 18 (.mv (t 7)) 17 true, g 19 (.mv (t 2)) 17 true, g 20 (.bin .bool .neq (t 18) (t 19)) 17 true, o 21 (.pick (t 17) (t 20) (.c (.bool false)))]
@[go_sem] def r62_3 : OL := [o 22 (.fa 4 (t 3)), o 23 (.load false 1 (t 22)), o 24 (.mkI T_api_Errno (i 32)), o 25 (.call K_check_at [(t 23), (t 24)]), m 6 25]
@[go_sem] def r62_4 : OL := [m 26 8, m 6 26]
def F_check_must : AFn := ⟨27, (.seq (.reg r62_0 [1, 2, 3]) (.seq (.reg r62_1 [2, 3, 7, 8]) (.seq (.seq (.reg r62_2 [3, 8, 21]) (.cond (.t 21) (.seq (.reg r62_3 [6]) .ret) .skip)) (.seq (.reg r62_4 [6]) .ret)))), [.t 6], true⟩
/-- sortilege/check.find -/
@[go_sem] def r63_0 : OL := [o 3 (.boxv (t 1)), o 4 (.mv (i 0))]
@[go_sem] def r63_1 : OL := [m 5 0, o 6 (.mkF K_check_find_1 [] [(t 3)]), o 7 (.call K_slices_IndexFunc_check_Slot_check_Slot [(t 5), (t 6)]), m 4 7]
def F_check_find : AFn := ⟨8, (.seq (.reg r63_0 [0, 3]) (.seq (.reg r63_1 [4]) .ret)), [.t 4], true⟩
/-- slices.ContainsFunc[[]sortilege/check.Set,sortilege/check.Set] -/
@[go_sem] def r64_0 : OL := [o 4 (.mv (.c (.bool false)))]
@[go_sem] def r64_1 : OL := [m 5 0, m 6 1, o 7 (.call K_slices_IndexFunc_check_Set_check_Set [(t 5), (t 6)]), o 8 (.bin .plain .geq (t 7) (i 0)), m 4 8]
def F_slices_ContainsFunc_check_Set_check_Set : AFn := ⟨9, (.seq (.reg r64_0 [0, 1]) (.seq (.reg r64_1 [4]) .ret)), [.t 4], true⟩
/-- (*sortilege/check.layer).branch$1 -/
@[go_sem] def r65_0 : OL := [o 2 (.boxv (t 0)), o 3 (.mv (.c (.bool false)))]
@[go_sem] def r65_1 : OL := [o 4 (.fa 0 (t 2)), o 5 (.load false 1 (t 4)), o 6 (.load false 1 (t 1)), o 7 (.bin .plain .eql (t 5) (t 6)), m 3 7]
def F_check_layer_branch_1 : AFn := ⟨8, (.seq (.reg r65_0 [1, 2]) (.seq (.reg r65_1 [3]) .ret)), [.t 3], true⟩
/-- (*sortilege/sortilegeref09.Book).Consts -/
@[go_sem] def r67_0 : OL := [o 2 (.mv (.c (.vs [] .exact)))]
@[go_sem] def r67_1 : OL := [o 3 (.mv (.c (.vs [] .exact)))]
@[go_sem] def r67_2 : OL := [o 4 (.mv (i 0))]
@[go_sem] def r67_3 : OL := [m 5 4, m 6 0, o 7 (.nilck (t 6)), o 8 (.fa 0 (t 7)), o 9 (.fa 0 (t 8)), o 10 (.load false 1 (t 9)), o 11 (.lenv (t 10)), o 12 (.bin .plain .lss (t 5) (t 11))]
@[go_sem] def r67_5 : OL := [m 15 0, m 16 4, o 17 (.call K_ref09_Book_Const [(t 15), (t 16)])]
@[go_sem] def r67_6 : DL := [.val 0 none (m 18 3), .val 1 none (m 19 0), .val 2 none (o 20 (.nilck (t 19))), .val 3 none (o 21 (.fa 0 (t 20))), .val 4 none (o 22 (.fa 0 (t 21))), .val 5 none (o 23 (.load false 1 (t 22))), .val 6 none (m 24 4), .val 7 none (o 25 (.ixa 7 (t 23) (t 24))), .val 8 none (o 26 (.fa 0 (t 25))), .val 9 none (o 27 (.load false 1 (t 26))), .val 10 none (m 28 0), .val 11 none (o 29 (.nilck (t 28))), .val 12 none (o 30 (.fa 7 (t 29))), .val 13 none (o 31 (.load false 1 (t 30))), .val 14 none (m 32 4), .val 15 none (o 33 (.ixa 3 (t 31) (t 32))), .val 16 none (o 34 (.load true 3 (t 33))), .val 17 none (o 35 (.build [.str [], .bool false, .bool false, .int .i64 0] [(0, 1, (t 27)), (1, 3, (t 34))])), .val 18 none (o 36 (.bslice [.str [], .bool false, .bool false, .int .i64 0] 1 [(0, (t 35))])), .eff [] 19 (o 37 (.append 4 (t 18) (t 36))), .val 20 none (m 3 37)]
@[go_sem] def r67_4 : OL := [m 13 4, o 14 (.bin .plain .add (t 13) (i 1)), m 4 14]
@[go_sem] def r67_7 : OL := [m 38 0, o 39 (.nilck (t 38)), o 40 (.fa 9 (t 39)), o 41 (.load false 1 (t 40)), o 42 (.bin .plain .neq (t 41) (i 0))]
@[go_sem] def r67_8 : OL := [o 2 (.mv (.c (.vs [] .exact)))]
@[go_sem] def r67_9 : OL := [m 43 3, m 2 43]
def L_ref09_Book_Consts_0 : AC := (.seq (.seq (.reg r67_3 [0, 3, 4, 12]) (.cond (.t 12) .skip (.exit 0))) (.seq (.block 1 (.seq (.reg r67_5 [0, 3, 4]) (.regd r67_6 [] [0, 3, 4]))) (.reg r67_4 [0, 3, 4])))
theorem L_ref09_Book_Consts_0_eq {E : Env} {fr : Fr} {h : AH} (keep : List Nat) : LP E L_ref09_Book_Consts_0 keep fr h = XS E (.seq (.seq (.reg r67_3 [0, 3, 4, 12]) (.cond (.t 12) .skip (.exit 0))) (.seq (.block 1 (.seq (.reg r67_5 [0, 3, 4]) (.regd r67_6 [] [0, 3, 4]))) (.reg r67_4 [0, 3, 4]))) [.lp L_ref09_Book_Consts_0 keep] (keepFr keep fr) h := LP_XS L_ref09_Book_Consts_0 keep
def F_ref09_Book_Consts : AFn := ⟨44, (.seq (.reg r67_0 [0]) (.seq (.reg r67_1 [0, 3]) (.seq (.seq (.reg r67_2 [0, 3, 4]) (.block 0 (.loop L_ref09_Book_Consts_0 [0, 3, 4]))) (.seq (.seq (.reg r67_7 [3, 42]) (.cond (.t 42) (.seq (.reg r67_8 [2]) .ret) .skip)) (.seq (.reg r67_9 [2]) .ret))))), [.t 2], true⟩
/-- (*sortilege/sortilegeref09.Book).Formula -/
@[go_sem] def r68_0 : OL := [m 4 0, o 5 (.nilck (t 4)), o 6 (.fa 9 (t 5)), o 7 (.load false 1 (t 6)), o 8 (.bin .plain .eql (t 7) (i 0)), m 9 8, g 10 (.mv (t 0)) 9 true, g 11 (.nilck (t 10)) 9 true, g 12 (.fa 6 (t 11)) 9 true, g 13 (.load false 1 (t 12)) 9 true, g 14 (.mv (t 1)) 9 true, g 15 (.ixa 1 (t 13) (t 14)) 9 true, g 16 (.load false 1 (t 15)) 9 true, g 17 (.bin .plain .eql (t 16) (i 0)) 9 true, o 18 (.pick (t 9) (t 17) (.c (.bool false)))]
@[go_sem] def r68_1 : OL := [m 19 0, o 20 (.nilck (t 19)), o 21 (.fa 6 (t 20)), o 22 (.load false 1 (t 21)), m 23 1, o 24 (.ixa 1 (t 22) (t 23)), s (.store 1 (t 24) (i 1))]
@[go_sem] def r68_2 : DL := [.val 5 none (m 30 0), .val 6 none (m 31 0), .val 7 none (o 32 (.nilck (t 31))), .val 8 none (o 33 (.fa 0 (t 32))), .val 9 none (o 34 (.fa 1 (t 33))), .val 10 none (o 35 (.load false 1 (t 34))), .val 11 none (m 36 1), .val 12 none (o 37 (.ixa 7 (t 35) (t 36))), .val 13 none (o 38 (.fa 1 (t 37))), .val 14 none (o 39 (.load true 5 (t 38))), .eff [] 15 (o 40 (.call K_ref09_Book_Expand [(t 30), (t 39), (.c (.bool false))])), .val 0 none (m 25 0), .val 1 none (o 26 (.nilck (t 25))), .val 2 none (o 27 (.fa 8 (t 26))), .val 3 (some (0, 2)) (o 28 (.load false 1 (t 27))), .val 4 none (m 29 1), .val 16 none (o 41 (.ixa 5 (t 28) (t 29))), .eff [] 17 (s (.store 5 (t 41) (t 40)))]
@[go_sem] def r68_3 : OL := [m 42 0, o 43 (.nilck (t 42)), o 44 (.fa 6 (t 43)), o 45 (.load false 1 (t 44)), m 46 1, o 47 (.ixa 1 (t 45) (t 46)), s (.store 1 (t 47) (i 2))]
def F_ref09_Book_Formula : AFn := ⟨48, (.seq (.reg r68_0 [0, 1, 18]) (.cond (.t 18) (.seq (.reg r68_1 [0, 1]) (.seq (.regd r68_2 [] [0, 1]) (.reg r68_3 []))) .skip)), [], true⟩
/-- (*sortilege/sortilegeref09.Book).Expand -/
@[go_sem] def r69_0 : OL := [o 4 (.boxv (t 1)), o 6 (.alloc [.str [], .str [], .int .i64 0, .vs [] .exact, .int .i64 0])]
@[go_sem] def r69_1 : OL := [m 8 0, o 9 (.load true 5 (t 4)), m 10 2, o 11 (.call K_ref09_Book_turn [(t 8), (t 9), (t 10)]), o 7 (.alloc [.str [], .str [], .int .i64 0, .vs [] .exact, .int .i64 0]), s (.store 5 (t 7) (t 11))]
@[go_sem] def r69_2 : OL := [m 12 0, o 13 (.nilck (t 12)), o 14 (.fa 9 (t 13)), o 15 (.load false 1 (t 14)), o 16 (.bin .plain .eql (t 15) (i 0)), m 17 16, g 18 (.load true 5 (t 7)) 17 true, g 19 (.call K_ref05_Size [(t 18)]) 17 true, g 20 (.bin .plain .gtr (t 19) (i 4096)) 17 true, o 21 (.pick (t 17) (t 20) (.c (.bool false)))]
@[go_sem] def r69_3 : OL := [m 22 0, o 23 (.fa 4 (t 4)), o 24 (.load false 1 (t 23)), o 25 (.call K_ref09_Book_fail [(t 22), (i 2), (t 24)])]
@[go_sem] def r69_4 : OL := [o 26 (.load true 5 (t 7)), s (.store 5 (t 6) (t 26))]
def F_ref09_Book_Expand : AFn := ⟨27, (.seq (.reg r69_0 [0, 2, 4, 6]) (.seq (.reg r69_1 [0, 4, 6, 7]) (.seq (.seq (.reg r69_2 [0, 4, 6, 7, 21]) (.cond (.t 21) (.reg r69_3 [6, 7]) .skip)) (.seq (.reg r69_4 [6]) .ret)))), [.c 6 true 5], true⟩
/-- sortilege/sortilegeref08.Eval -/
@[go_sem] def r70_0 : OL := [o 2 (.boxv (t 0)), o 4 (.alloc [.bool false, .bool false, .int .i64 0, .int .i64 0, .int .i64 0])]
@[go_sem] def r70_1 : OL := [o 15 (.fa 3 (t 2)), o 16 (.load false 1 (t 15)), o 17 (.lenv (t 16)), m 5 17]
@[go_sem] def r70_2 : OL := [o 18 (.fa 0 (t 2)), o 19 (.load false 1 (t 18))]
@[go_sem] def r70_3 : OL := [o 21 (.bin .plain .eql (t 19) (.c (.str [116, 114, 117, 101]))), m 20 21]
@[go_sem] def r70_4 : OL := [o 22 (.bin .plain .eql (t 19) (.c (.str [102, 97, 108, 115, 101]))), m 20 22]
@[go_sem] def r70_5 : OL := [m 23 5, o 24 (.bin .plain .eql (t 23) (i 0))]
@[go_sem] def r70_6 : OL := [o 25 (.fa 0 (t 2)), o 26 (.load false 1 (t 25)), o 27 (.bin .plain .eql (t 26) (.c (.str [116, 114, 117, 101]))), o 28 (.call K_ref08_truth [(t 27)]), s (.store 5 (t 4) (t 28))]
@[go_sem] def r70_7 : OL := [o 30 (.bin .plain .eql (t 19) (.c (.str [110, 117, 109]))), m 29 30]
@[go_sem] def r70_8 : OL := [m 31 5, o 32 (.bin .plain .eql (t 31) (i 0))]
@[go_sem] def r70_9 : OL := [o 33 (.fa 2 (t 2)), o 34 (.load false 1 (t 33)), o 35 (.build [.bool false, .bool false, .int .i64 0] [(2, 1, (t 34))]), o 36 (.build [.bool false, .bool false, .int .i64 0, .int .i64 0, .int .i64 0] [(0, 3, (t 35))]), s (.store 5 (t 4) (t 36))]
@[go_sem] def r70_10 : OL := [o 38 (.bin .plain .eql (t 19) (.c (.str [110, 97, 109, 101]))), m 37 38]
@[go_sem] def r70_11 : OL := [o 6 (.mv (i 0))]
@[go_sem] def r70_12 : OL := [m 39 6, m 40 1, o 41 (.lenv (t 40)), o 42 (.bin .plain .lss (t 39) (t 41)), m 43 42, g 44 (.mv (t 5)) 43 true, g 45 (.bin .plain .eql (t 44) (i 0)) 43 true, o 46 (.pick (t 43) (t 45) (.c (.bool false)))]
@[go_sem] def r70_14 : DL := [.val 0 none (m 49 1), .val 1 none (m 50 6), .val 2 none (o 51 (.ixa 4 (t 49) (t 50))), .val 3 none (o 52 (.fa 0 (t 51))), .val 4 none (o 53 (.load false 1 (t 52))), .val 5 none (o 54 (.fa 1 (t 2))), .val 6 none (o 55 (.load false 1 (t 54))), .val 7 none (o 56 (.bin .plain .eql (t 53) (t 55)))]
@[go_sem] def r70_15 : OL := [m 57 1, m 58 6, o 59 (.ixa 4 (t 57) (t 58)), o 60 (.fa 1 (t 59)), o 61 (.load true 3 (t 60)), o 62 (.build [.bool false, .bool false, .int .i64 0, .int .i64 0, .int .i64 0] [(0, 3, (t 61))]), s (.store 5 (t 4) (t 62))]
@[go_sem] def r70_13 : OL := [m 47 6, o 48 (.bin .plain .add (t 47) (i 1)), m 6 48]
@[go_sem] def r70_16 : OL := [m 63 5, o 64 (.bin .plain .eql (t 63) (i 0))]
@[go_sem] def r70_17 : OL := [o 65 (.load true 5 (t 2)), o 66 (.call K_ref08_wrong [(t 65), (i 30)]), s (.store 5 (t 4) (t 66))]
@[go_sem] def r70_18 : OL := [o 68 (.bin .plain .eql (t 19) (.c (.str [33]))), m 67 68]
@[go_sem] def r70_19 : OL := [m 69 5, o 70 (.bin .plain .eql (t 69) (i 1))]
@[go_sem] def r70_20 : OL := [o 71 (.fa 3 (t 2)), o 72 (.load false 1 (t 71)), o 73 (.ixa 5 (t 72) (i 0)), o 74 (.load true 5 (t 73)), m 75 1, o 76 (.call K_ref08_must [(t 74), (t 75), (.c (.bool true))]), o 7 (.alloc [.bool false, .bool false, .int .i64 0, .int .i64 0, .int .i64 0]), s (.store 5 (t 7) (t 76))]
@[go_sem] def r70_21 : OL := [o 77 (.fa 3 (t 7)), o 78 (.load false 1 (t 77)), o 79 (.bin .plain .neq (t 78) (i 0))]
@[go_sem] def r70_22 : OL := [o 80 (.load true 5 (t 7)), s (.store 5 (t 4) (t 80))]
@[go_sem] def r70_23 : OL := [o 81 (.fa 0 (t 7)), o 82 (.fa 1 (t 81)), o 83 (.load false 1 (t 82)), o 84 (.un .not (t 83)), o 85 (.call K_ref08_truth [(t 84)]), s (.store 5 (t 4) (t 85))]
@[go_sem] def r70_24 : OL := [o 87 (.bin .plain .eql (t 19) (.c (.str [110, 101, 103]))), m 86 87]
@[go_sem] def r70_25 : OL := [m 88 5, o 89 (.bin .plain .eql (t 88) (i 1))]
@[go_sem] def r70_26 : OL := [o 90 (.fa 3 (t 2)), o 91 (.load false 1 (t 90)), o 92 (.ixa 5 (t 91) (i 0)), o 93 (.load true 5 (t 92)), m 94 1, o 95 (.call K_ref08_must [(t 93), (t 94), (.c (.bool false))]), o 8 (.alloc [.bool false, .bool false, .int .i64 0, .int .i64 0, .int .i64 0]), s (.store 5 (t 8) (t 95))]
@[go_sem] def r70_27 : OL := [o 96 (.fa 3 (t 8)), o 97 (.load false 1 (t 96)), o 98 (.bin .plain .neq (t 97) (i 0))]
@[go_sem] def r70_28 : OL := [o 99 (.load true 5 (t 8)), s (.store 5 (t 4) (t 99))]
@[go_sem] def r70_29 : OL := [o 100 (.load true 5 (t 2)), o 101 (.fa 0 (t 8)), o 102 (.fa 2 (t 101)), o 103 (.load false 1 (t 102)), o 104 (.call K_ref08_sum [(t 100), (.c (.str [45])), (i 0), (t 103)]), s (.store 5 (t 4) (t 104))]
@[go_sem] def r70_30 : OL := [o 106 (.bin .plain .eql (t 19) (.c (.str [63]))), m 105 106]
@[go_sem] def r70_31 : OL := [m 107 5, o 108 (.bin .plain .eql (t 107) (i 3))]
@[go_sem] def r70_32 : OL := [o 109 (.fa 3 (t 2)), o 110 (.load false 1 (t 109)), o 111 (.ixa 5 (t 110) (i 0)), o 112 (.load true 5 (t 111)), m 113 1, o 114 (.call K_ref08_must [(t 112), (t 113), (.c (.bool true))]), o 9 (.alloc [.bool false, .bool false, .int .i64 0, .int .i64 0, .int .i64 0]), s (.store 5 (t 9) (t 114))]
@[go_sem] def r70_33 : OL := [o 115 (.fa 3 (t 9)), o 116 (.load false 1 (t 115)), o 117 (.bin .plain .neq (t 116) (i 0))]
@[go_sem] def r70_34 : OL := [o 118 (.load true 5 (t 9)), s (.store 5 (t 4) (t 118))]
@[go_sem] def r70_35 : OL := [o 119 (.fa 0 (t 9)), o 120 (.fa 1 (t 119)), o 121 (.load false 1 (t 120))]
@[go_sem] def r70_36 : OL := [o 122 (.fa 3 (t 2)), o 123 (.load false 1 (t 122)), o 124 (.ixa 5 (t 123) (i 1)), o 125 (.load true 5 (t 124)), m 126 1, o 127 (.call K_ref08_Eval [(t 125), (t 126)]), s (.store 5 (t 4) (t 127))]
@[go_sem] def r70_37 : OL := [o 128 (.fa 3 (t 2)), o 129 (.load false 1 (t 128)), o 130 (.ixa 5 (t 129) (i 2)), o 131 (.load true 5 (t 130)), m 132 1, o 133 (.call K_ref08_Eval [(t 131), (t 132)]), s (.store 5 (t 4) (t 133))]
@[go_sem] def r70_38 : OL := [o 135 (.bin .plain .eql (t 19) (.c (.str [38]))), m 134 135]
@[go_sem] def r70_39 : OL := [o 136 (.bin .plain .eql (t 19) (.c (.str [124]))), m 134 136]
@[go_sem] def r70_40 : OL := [o 137 (.bin .plain .eql (t 19) (.c (.str [61, 62]))), m 134 137]
@[go_sem] def r70_41 : OL := [m 138 5, o 139 (.bin .plain .eql (t 138) (i 2))]
@[go_sem] def r70_42 : OL := [o 140 (.fa 3 (t 2)), o 141 (.load false 1 (t 140)), o 142 (.ixa 5 (t 141) (i 0)), o 143 (.load true 5 (t 142)), m 144 1, o 145 (.call K_ref08_must [(t 143), (t 144), (.c (.bool true))]), o 10 (.alloc [.bool false, .bool false, .int .i64 0, .int .i64 0, .int .i64 0]), s (.store 5 (t 10) (t 145))]
@[go_sem] def r70_43 : OL := [o 146 (.fa 3 (t 10)), o 147 (.load false 1 (t 146)), o 148 (.bin .plain .neq (t 147) (i 0))]
@[go_sem] def r70_44 : OL := [o 149 (.load true 5 (t 10)), s (.store 5 (t 4) (t 149))]
@[go_sem] def r70_45 : OL := [o 150 (.fa 0 (t 2)), o 151 (.load false 1 (t 150)), o 152 (.bin .plain .eql (t 151) (.c (.str [38]))), m 153 152, g 154 (.fa 0 (t 10)) 153 true, g 155 (.fa 1 (t 154)) 153 true, g 156 (.load false 1 (t 155)) 153 true, g 157 (.un .not (t 156)) 153 true, o 158 (.pick (t 153) (t 157) (.c (.bool false))), m 159 158, g 160 (.fa 0 (t 2)) 159 false, g 161 (.load false 1 (t 160)) 159 false, g 162 (.bin .plain .eql (t 161) (.c (.str [124]))) 159 false, g 163 (.mv (t 162)) 159 false, g 164 (.fa 0 (t 10)) 163 true, g 165 (.fa 1 (t 164)) 163 true, g 166 (.load false 1 (t 165)) 163 true, g 167 (.pick (t 163) (t 166) (.c (.bool false))) 159 false, o 168 (.pick (t 159) (.c (.bool true)) (t 167)), m 169 168, g 170 (.fa 0 (t 2)) 169 false, g 171 (.load false 1 (t 170)) 169 false, g 172 (.bin .plain .eql (t 171) (.c (.str [61, 62]))) 169 false, g 173 (.mv (t 172)) 169 false, g 174 (.fa 0 (t 10)) 173 true, g 175 (.fa 1 (t 174)) 173 true, g 176 (.load false 1 (t 175)) 173 true, g 177 (.un .not (t 176)) 173 true, g 178 (.pick (t 173) (t 177) (.c (.bool false))) 169 false, o 179 (.pick (t 169) (.c (.bool true)) (t 178))]
@[go_sem] def r70_46 : OL := [o 180 (.fa 0 (t 2)), o 181 (.load false 1 (t 180)), o 182 (.bin .plain .neq (t 181) (.c (.str [38]))), o 183 (.call K_ref08_truth [(t 182)]), s (.store 5 (t 4) (t 183))]
@[go_sem] def r70_47 : OL := [o 184 (.fa 3 (t 2)), o 185 (.load false 1 (t 184)), o 186 (.ixa 5 (t 185) (i 1)), o 187 (.load true 5 (t 186)), m 188 1, o 189 (.call K_ref08_must [(t 187), (t 188), (.c (.bool true))]), s (.store 5 (t 4) (t 189))]
@[go_sem] def r70_48 : OL := [o 191 (.bin .plain .eql (t 19) (.c (.str [61]))), m 190 191]
@[go_sem] def r70_49 : OL := [o 192 (.bin .plain .eql (t 19) (.c (.str [33, 61]))), m 190 192]
@[go_sem] def r70_50 : OL := [m 193 5, o 194 (.bin .plain .eql (t 193) (i 2))]
@[go_sem] def r70_51 : OL := [o 195 (.fa 3 (t 2)), o 196 (.load false 1 (t 195)), o 197 (.ixa 5 (t 196) (i 0)), o 198 (.load true 5 (t 197)), m 199 1, o 200 (.call K_ref08_Eval [(t 198), (t 199)]), o 11 (.alloc [.bool false, .bool false, .int .i64 0, .int .i64 0, .int .i64 0]), s (.store 5 (t 11) (t 200))]
@[go_sem] def r70_52 : OL := [o 201 (.fa 3 (t 11)), o 202 (.load false 1 (t 201)), o 203 (.bin .plain .neq (t 202) (i 0))]
@[go_sem] def r70_53 : OL := [o 204 (.load true 5 (t 11)), s (.store 5 (t 4) (t 204))]
@[go_sem] def r70_54 : DL := [.val 0 none (o 205 (.fa 3 (t 2))), .val 1 none (o 206 (.load false 1 (t 205))), .val 2 none (o 207 (.ixa 5 (t 206) (i 1))), .val 3 none (o 208 (.load true 5 (t 207))), .val 4 none (m 209 1), .val 5 none (o 210 (.fa 0 (t 11))), .val 6 none (o 211 (.fa 0 (t 210))), .val 7 none (o 212 (.load false 1 (t 211))), .eff [] 8 (o 213 (.call K_ref08_must [(t 208), (t 209), (t 212)])), .eff [(9, 12, [.bool false, .bool false, .int .i64 0, .int .i64 0, .int .i64 0])] 10 (s (.store 5 (t 12) (t 213)))]
@[go_sem] def r70_55 : OL := [o 214 (.fa 3 (t 12)), o 215 (.load false 1 (t 214)), o 216 (.bin .plain .neq (t 215) (i 0))]
@[go_sem] def r70_56 : OL := [o 217 (.load true 5 (t 12)), s (.store 5 (t 4) (t 217))]
@[go_sem] def r70_57 : DL := [.val 0 none (o 218 (.fa 0 (t 11))), .val 1 none (o 219 (.load true 3 (t 218))), .val 2 none (o 220 (.fa 0 (t 12))), .val 3 none (o 221 (.load true 3 (t 220))), .val 4 none (o 222 (.bin .plain .eql (t 219) (t 221))), .val 5 none (o 223 (.fa 0 (t 2))), .val 6 none (o 224 (.load false 1 (t 223))), .val 7 none (o 225 (.bin .plain .eql (t 224) (.c (.str [61])))), .val 8 none (o 226 (.bin .bool .eql (t 222) (t 225))), .eff [] 9 (o 227 (.call K_ref08_truth [(t 226)])), .eff [] 10 (s (.store 5 (t 4) (t 227)))]
@[go_sem] def r70_58 : OL := [o 229 (.bin .plain .eql (t 19) (.c (.str [60]))), m 228 229]
@[go_sem] def r70_59 : OL := [o 230 (.bin .plain .eql (t 19) (.c (.str [60, 61]))), m 228 230]
@[go_sem] def r70_60 : OL := [o 231 (.bin .plain .eql (t 19) (.c (.str [62]))), m 228 231]
@[go_sem] def r70_61 : OL := [o 232 (.bin .plain .eql (t 19) (.c (.str [62, 61]))), m 228 232]
@[go_sem] def r70_62 : OL := [o 233 (.bin .plain .eql (t 19) (.c (.str [43]))), m 228 233]
@[go_sem] def r70_63 : OL := [o 234 (.bin .plain .eql (t 19) (.c (.str [45]))), m 228 234]
@[go_sem] def r70_64 : OL := [o 235 (.bin .plain .eql (t 19) (.c (.str [42]))), m 228 235]
@[go_sem] def r70_65 : OL := [m 236 5, o 237 (.bin .plain .eql (t 236) (i 2))]
@[go_sem] def r70_66 : OL := [o 238 (.fa 3 (t 2)), o 239 (.load false 1 (t 238)), o 240 (.ixa 5 (t 239) (i 0)), o 241 (.load true 5 (t 240)), m 242 1, o 243 (.call K_ref08_must [(t 241), (t 242), (.c (.bool false))]), o 13 (.alloc [.bool false, .bool false, .int .i64 0, .int .i64 0, .int .i64 0]), s (.store 5 (t 13) (t 243))]
@[go_sem] def r70_67 : OL := [o 244 (.fa 3 (t 13)), o 245 (.load false 1 (t 244)), o 246 (.bin .plain .neq (t 245) (i 0))]
@[go_sem] def r70_68 : OL := [o 247 (.load true 5 (t 13)), s (.store 5 (t 4) (t 247))]
@[go_sem] def r70_69 : OL := [o 248 (.fa 3 (t 2)), o 249 (.load false 1 (t 248)), o 250 (.ixa 5 (t 249) (i 1)), o 251 (.load true 5 (t 250)), m 252 1, o 253 (.call K_ref08_must [(t 251), (t 252), (.c (.bool false))]), o 14 (.alloc [.bool false, .bool false, .int .i64 0, .int .i64 0, .int .i64 0]), s (.store 5 (t 14) (t 253))]
@[go_sem] def r70_70 : OL := [o 254 (.fa 3 (t 14)), o 255 (.load false 1 (t 254)), o 256 (.bin .plain .neq (t 255) (i 0))]
@[go_sem] def r70_71 : OL := [o 257 (.load true 5 (t 14)), s (.store 5 (t 4) (t 257))]
@[go_sem] def r70_72 : OL := [o 258 (.load true 5 (t 2)), o 259 (.fa 0 (t 2)), o 260 (.load false 1 (t 259)), o 261 (.fa 0 (t 13)), o 262 (.fa 2 (t 261)), o 263 (.load false 1 (t 262)), o 264 (.fa 0 (t 14)), o 265 (.fa 2 (t 264)), o 266 (.load false 1 (t 265)), o 267 (.call K_ref08_sum [(t 258), (t 260), (t 263), (t 266)]), s (.store 5 (t 4) (t 267))]
@[go_sem] def r70_73 : OL := [o 268 (.load true 5 (t 2)), o 269 (.call K_ref08_wrong [(t 268), (i 1)]), s (.store 5 (t 4) (t 269))]
def L_ref08_Eval_0 : AC := (.seq (.seq (.reg r70_12 [1, 2, 4, 5, 6, 46]) (.cond (.t 46) .skip (.exit 1))) (.seq (.block 2 (.seq (.regd r70_14 [] [1, 2, 4, 5, 6, 56]) (.cond (.t 56) (.seq (.reg r70_15 [4]) .ret) .skip))) (.reg r70_13 [1, 2, 4, 5, 6])))
theorem L_ref08_Eval_0_eq {E : Env} {fr : Fr} {h : AH} (keep : List Nat) : LP E L_ref08_Eval_0 keep fr h = XS E (.seq (.seq (.reg r70_12 [1, 2, 4, 5, 6, 46]) (.cond (.t 46) .skip (.exit 1))) (.seq (.block 2 (.seq (.regd r70_14 [] [1, 2, 4, 5, 6, 56]) (.cond (.t 56) (.seq (.reg r70_15 [4]) .ret) .skip))) (.reg r70_13 [1, 2, 4, 5, 6]))) [.lp L_ref08_Eval_0 keep] (keepFr keep fr) h := LP_XS L_ref08_Eval_0 keep
def F_ref08_Eval : AFn := ⟨270, (.seq (.reg r70_0 [1, 2, 4]) (.seq (.reg r70_1 [1, 2, 4, 5]) (.seq (.seq (.reg r70_2 [1, 2, 4, 5, 19]) (.block 0 (.seq (.seq (.reg r70_3 [1, 2, 4, 5, 19, 20]) (.cond (.t 20) .skip (.reg r70_4 [1, 2, 4, 5, 19, 20]))) (.cond (.t 20) (.seq (.reg r70_5 [2, 4, 24]) (.cond (.t 24) (.seq (.reg r70_6 [4]) .ret) .skip)) (.seq (.reg r70_7 [1, 2, 4, 5, 19, 29]) (.cond (.t 29) (.seq (.reg r70_8 [2, 4, 32]) (.cond (.t 32) (.seq (.reg r70_9 [4]) .ret) .skip)) (.seq (.reg r70_10 [1, 2, 4, 5, 19, 37]) (.cond (.t 37) (.seq (.seq (.reg r70_11 [1, 2, 4, 5, 6]) (.block 1 (.loop L_ref08_Eval_0 [1, 2, 4, 5, 6]))) (.seq (.reg r70_16 [2, 4, 64]) (.cond (.t 64) (.seq (.reg r70_17 [4]) .ret) .skip))) (.seq (.reg r70_18 [1, 2, 4, 5, 19, 67]) (.cond (.t 67) (.seq (.reg r70_19 [1, 2, 4, 70]) (.cond (.t 70) (.seq (.reg r70_20 [4, 7]) (.seq (.seq (.reg r70_21 [4, 7, 79]) (.cond (.t 79) (.seq (.reg r70_22 [4]) .ret) .skip)) (.seq (.reg r70_23 [4]) .ret))) .skip)) (.seq (.reg r70_24 [1, 2, 4, 5, 19, 86]) (.cond (.t 86) (.seq (.reg r70_25 [1, 2, 4, 89]) (.cond (.t 89) (.seq (.reg r70_26 [2, 4, 8]) (.seq (.seq (.reg r70_27 [2, 4, 8, 98]) (.cond (.t 98) (.seq (.reg r70_28 [4]) .ret) .skip)) (.seq (.reg r70_29 [4]) .ret))) .skip)) (.seq (.reg r70_30 [1, 2, 4, 5, 19, 105]) (.cond (.t 105) (.seq (.reg r70_31 [1, 2, 4, 108]) (.cond (.t 108) (.seq (.reg r70_32 [1, 2, 4, 9]) (.seq (.seq
 (.reg r70_33 [1, 2, 4, 9, 117]) (.cond (.t 117) (.seq (.reg r70_34 [4]) .ret) .skip)) (.seq (.seq (.reg r70_35 [1, 2, 4, 121]) (.cond (.t 121) (.seq (.reg r70_36 [4]) .ret) .skip)) (.seq (.reg r70_37 [4]) .ret)))) .skip)) (.seq (.seq (.reg r70_38 [1, 2, 4, 5, 19, 134]) (.cond (.t 134) .skip (.seq (.reg r70_39 [1, 2, 4, 5, 19, 134]) (.cond (.t 134) .skip (.reg r70_40 [1, 2, 4, 5, 19, 134]))))) (.cond (.t 134) (.seq (.reg r70_41 [1, 2, 4, 139]) (.cond (.t 139) (.seq (.reg r70_42 [1, 2, 4, 10]) (.seq (.seq (.reg r70_43 [1, 2, 4, 10, 148]) (.cond (.t 148) (.seq (.reg r70_44 [4]) .ret) .skip)) (.seq (.seq (.reg r70_45 [1, 2, 4, 179]) (.cond (.t 179) (.seq (.reg r70_46 [4]) .ret) .skip)) (.seq (.reg r70_47 [4]) .ret)))) .skip)) (.seq (.seq (.reg r70_48 [1, 2, 4, 5, 19, 190]) (.cond (.t 190) .skip (.reg r70_49 [1, 2, 4, 5, 19, 190]))) (.cond (.t 190) (.seq (.reg r70_50 [1, 2, 4, 194]) (.cond (.t 194) (.seq (.reg r70_51 [1, 2, 4, 11]) (.seq (.seq (.reg r70_52 [1, 2, 4, 11, 203]) (.cond (.t 203) (.seq (.reg r70_53 [4]) .ret) .skip)) (.seq (.regd r70_54 [] [2, 4, 11, 12]) (.seq (.seq (.reg r70_55 [2, 4, 11, 12, 216]) (.cond (.t 216) (.seq (.reg r70_56 [4]) .ret) .skip)) (.seq (.regd r70_57 [] [4]) .ret))))) .skip)) (.seq (.seq (.reg r70_58 [1, 2, 4, 5, 19, 228]) (.cond (.t 228) .skip (.seq (.reg r70_59 [1, 2, 4, 5, 19, 228]) (.cond (.t 228) .skip (.seq (.reg r70_60 [1, 2, 4, 5, 19,
 228]) (.cond (.t 228) .skip (.seq (.reg r70_61 [1, 2, 4, 5, 19, 228]) (.cond (.t 228) .skip (.seq (.reg r70_62 [1, 2, 4, 5, 19, 228]) (.cond (.t 228) .skip (.seq (.reg r70_63 [1, 2, 4, 5, 19, 228]) (.cond (.t 228) .skip (.reg r70_64 [1, 2, 4, 5, 228]))))))))))))) (.cond (.t 228) (.seq (.reg r70_65 [1, 2, 4, 237]) (.cond (.t 237) (.seq (.reg r70_66 [1, 2, 4, 13]) (.seq (.seq (.reg r70_67 [1, 2, 4, 13, 246]) (.cond (.t 246) (.seq (.reg r70_68 [4]) .ret) .skip)) (.seq (.reg r70_69 [2, 4, 13, 14]) (.seq (.seq (.reg r70_70 [2, 4, 13, 14, 256]) (.cond (.t 256) (.seq (.reg r70_71 [4]) .ret) .skip)) (.seq (.reg r70_72 [4]) .ret))))) .skip)) .skip)))))))))))))))))))) (.seq (.reg r70_73 [4]) .ret)))), [.c 4 true 5], true⟩
/-- sortilege/scan.blank -/
@[go_sem] def r75_0 : OL := [o 4 (.mv (i 0))]
@[go_sem] def r75_1 : OL := [m 9 1, m 5 9]
@[go_sem] def r75_2 : OL := [m 10 5, m 11 0, o 12 (.lens (t 11)), o 13 (.bin .plain .lss (t 10) (t 12))]
@[go_sem] def r75_3 : OL := [m 15 0, m 16 5, o 17 (.ix (t 15) (t 16)), o 18 (.bin .plain .eql (t 17) (.c (.int .u8 32))), m 14 18]
@[go_sem] def r75_4 : OL := [m 19 0, m 20 5, o 21 (.ix (t 19) (t 20)), o 22 (.bin .plain .eql (t 21) (.c (.int .u8 9))), m 14 22]
@[go_sem] def r75_5 : OL := [m 23 0, m 24 5, o 25 (.ix (t 23) (t 24)), o 26 (.bin .plain .eql (t 25) (.c (.int .u8 10))), m 14 26]
@[go_sem] def r75_6 : OL := [m 27 0, m 28 5, o 29 (.ix (t 27) (t 28)), o 30 (.bin .plain .eql (t 29) (.c (.int .u8 13))), m 14 30]
@[go_sem] def r75_7 : OL := [m 31 5, o 32 (.bin .plain .add (t 31) (i 1)), m 5 32]
@[go_sem] def r75_8 : OL := [m 34 0, m 35 5, o 36 (.slcs (t 34) (some (t 35)) none), o 37 (.call K_strings_HasPrefix [(t 36), (.c (.str [47, 47]))]), m 33 37]
@[go_sem] def r75_9 : OL := [m 39 0, m 40 5, o 41 (.slcs (t 39) (some (t 40)) none), o 42 (.call K_strings_Cut [(t 41), (.c (.str [10]))]), m 38 42, o 43 (.extr (t 38) 0), o 44 (.extr (t 38) 1), o 45 (.extr (t 38) 2), m 6 43, m 7 44, m 8 45]
@[go_sem] def r75_10 : OL := [m 46 5, m 47 6, o 48 (.lens (t 47)), o 49 (.bin .plain .add (t 46) (t 48)), m 5 49]
@[go_sem] def r75_11 : OL := [m 50 5, m 51 1, o 52 (.bin .plain .sub (t 50) (t 51)), m 4 52]
def L_scan_blank_0 : AC := (.seq (.seq (.reg r75_2 [0, 1, 5, 13]) (.cond (.t 13) .skip (.exit 0))) (.block 1 (.seq (.block 2 (.seq (.seq (.reg r75_3 [0, 1, 5, 14]) (.cond (.t 14) .skip (.seq (.reg r75_4 [0, 1, 5, 14]) (.cond (.t 14) .skip (.seq (.reg r75_5 [0, 1, 5, 14]) (.cond (.t 14) .skip (.reg r75_6 [0, 1, 5, 14]))))))) (.cond (.t 14) (.seq (.reg r75_7 [0, 1, 5]) (.exit 1)) (.seq (.reg r75_8 [0, 1, 5, 33]) (.cond (.t 33) (.seq (.reg r75_9 [0, 1, 5, 6]) (.seq (.reg r75_10 [0, 1, 5]) (.exit 1))) .skip))))) (.exit 0))))
theorem L_scan_blank_0_eq {E : Env} {fr : Fr} {h : AH} (keep : List Nat) : LP E L_scan_blank_0 keep fr h = XS E (.seq (.seq (.reg r75_2 [0, 1, 5, 13]) (.cond (.t 13) .skip (.exit 0))) (.block 1 (.seq (.block 2 (.seq (.seq (.reg r75_3 [0, 1, 5, 14]) (.cond (.t 14) .skip (.seq (.reg r75_4 [0, 1, 5, 14]) (.cond (.t 14) .skip (.seq (.reg r75_5 [0, 1, 5, 14]) (.cond (.t 14) .skip (.reg r75_6 [0, 1, 5, 14]))))))) (.cond (.t 14) (.seq (.reg r75_7 [0, 1, 5]) (.exit 1)) (.seq (.reg r75_8 [0, 1, 5, 33]) (.cond (.t 33) (.seq (.reg r75_9 [0, 1, 5, 6]) (.seq (.reg r75_10 [0, 1, 5]) (.exit 1))) .skip))))) (.exit 0)))) [.lp L_scan_blank_0 keep] (keepFr keep fr) h := LP_XS L_scan_blank_0 keep
def F_scan_blank : AFn := ⟨53, (.seq (.reg r75_0 [0, 1]) (.seq (.reg r75_1 [0, 1, 5]) (.seq (.block 0 (.loop L_scan_blank_0 [0, 1, 5])) (.seq (.reg r75_11 [4]) .ret)))), [.t 4], true⟩
/-- sortilege/scan.one -/
@[go_sem] def r76_0 : OL := [o 4 (.alloc [.int .i64 0, .str [], .int .i64 0]), o 5 (.mv (i 0)), o 6 (.mv (.c .nili))]
@[go_sem] def r76_1 : OL := [m 11 0, m 12 1, o 13 (.ix (t 11) (t 12)), o 14 (.call K_scan_kind [(t 13)]), m 15 1, o 16 (.build [.int .i64 0, .str [], .int .i64 0] [(0, 1, (t 14)), (2, 1, (t 15))]), o 7 (.alloc [.int .i64 0, .str [], .int .i64 0]), s (.store 3 (t 7) (t 16))]
@[go_sem] def r76_2 : OL := [o 8 (.mv (i 0))]
@[go_sem] def r76_3 : OL := [o 17 (.fa 0 (t 7)), o 18 (.load false 1 (t 17))]
@[go_sem] def r76_4 : OL := [o 20 (.bin .plain .eql (t 18) (i 1)), m 19 20]
@[go_sem] def r76_5 : OL := [m 21 0, m 22 1, o 23 (.call K_scan_run [(t 21), (t 22), (.c (.fn K_scan_one_1 [] []))]), m 8 23]
@[go_sem] def r76_6 : OL := [o 25 (.bin .plain .eql (t 18) (i 2)), m 24 25]
@[go_sem] def r76_7 : OL := [m 26 0, m 27 1, o 28 (.call K_scan_run [(t 26), (t 27), (.c (.fn K_scan_one_2 [] []))]), m 8 28]
@[go_sem] def r76_8 : OL := [m 30 0, m 31 1, m 32 1, m 33 8, o 34 (.bin .plain .add (t 32) (t 33)), o 35 (.slcs (t 30) (some (t 31)) (some (t 34))), o 36 (.call K_scan_digits [(t 35)]), m 29 36, o 37 (.extr (t 29) 0), o 38 (.extr (t 29) 1), m 9 37, m 10 38]
@[go_sem] def r76_9 : OL := [m 39 10, o 40 (.un .not (t 39))]
@[go_sem] def r76_10 : OL := [o 41 (.build [.int .i64 0, .str [], .int .i64 0] []), m 42 1, o 43 (.mkI T_api_Errno (i 10)), o 44 (.call K_scan_wrong [(t 42), (t 43)]), s (.store 3 (t 4) (t 41)), o 5 (.mv (i 0)), m 6 44]
@[go_sem] def r76_11 : OL := [o 46 (.bin .plain .eql (t 18) (i 3)), m 45 46]
@[go_sem] def r76_12 : OL := [m 47 0, m 48 1, o 49 (.slcs (t 47) (some (t 48)) none), o 50 (.call K_scan_quoted [(t 49)]), m 8 50]
@[go_sem] def r76_13 : OL := [m 51 8, o 52 (.bin .plain .gtr (t 51) (i 0))]
@[go_sem] def r76_14 : OL := [m 53 0, m 54 1, o 55 (.bin .plain .add (t 54) (i 1)), m 56 1, m 57 8, o 58 (.bin .plain .add (t 56) (t 57)), o 59 (.bin .plain .sub (t 58) (i 1)), o 60 (.slcs (t 53) (some (t 55)) (some (t 59))), o 61 (.fa 1 (t 7)), s (.store 1 (t 61) (t 60))]
@[go_sem] def r76_15 : OL := [o 62 (.load true 3 (t 7)), m 63 8, s (.store 3 (t 4) (t 62)), m 5 63, o 6 (.mv (.c .nili))]
@[go_sem] def r76_16 : OL := [o 65 (.bin .plain .eql (t 18) (i 4)), m 64 65]
@[go_sem] def r76_17 : OL := [m 66 0, m 67 1, o 68 (.slcs (t 66) (some (t 67)) none), o 69 (.call K_scan_mark [(t 68)]), m 8 69]
@[go_sem] def r76_18 : OL := [m 70 8, o 71 (.bin .plain .eql (t 70) (i 0))]
@[go_sem] def r76_19 : OL := [o 72 (.build [.int .i64 0, .str [], .int .i64 0] []), m 73 1, o 74 (.mkI T_api_Errno (i 20)), o 75 (.call K_scan_wrong [(t 73), (t 74)]), s (.store 3 (t 4) (t 72)), o 5 (.mv (i 0)), m 6 75]
@[go_sem] def r76_20 : OL := [m 76 0, m 77 1, m 78 1, m 79 8, o 80 (.bin .plain .add (t 78) (t 79)), o 81 (.slcs (t 76) (some (t 77)) (some (t 80))), o 82 (.fa 1 (t 7)), s (.store 1 (t 82) (t 81))]
@[go_sem] def r76_21 : OL := [o 83 (.load true 3 (t 7)), m 84 8, s (.store 3 (t 4) (t 83)), m 5 84, o 6 (.mv (.c .nili))]
def F_scan_one : AFn := ⟨85, (.seq (.reg r76_0 [0, 1, 4]) (.seq (.reg r76_1 [0, 1, 4, 7]) (.seq (.reg r76_2 [0, 1, 4, 7, 8]) (.seq (.seq (.reg r76_3 [0, 1, 4, 7, 8, 18]) (.block 0 (.seq (.reg r76_4 [0, 1, 4, 7, 8, 18, 19]) (.cond (.t 19) (.reg r76_5 [0, 1, 4, 7, 8]) (.seq (.reg r76_6 [0, 1, 4, 7, 8, 18, 24]) (.cond (.t 24) (.seq (.reg r76_7 [0, 1, 4, 7, 8]) (.seq (.reg r76_8 [0, 1, 4, 7, 8, 10]) (.seq (.reg r76_9 [0, 1, 4, 7, 8, 40]) (.cond (.t 40) (.seq (.reg r76_10 [4, 5, 6]) .ret) .skip)))) (.seq (.reg r76_11 [0, 1, 4, 7, 8, 18, 45]) (.cond (.t 45) (.seq (.reg r76_12 [0, 1, 4, 7, 8]) (.seq (.reg r76_13 [0, 1, 4, 7, 8, 52]) (.cond (.t 52) (.seq (.reg r76_14 [4, 7, 8]) (.seq (.reg r76_15 [4, 5, 6]) .ret)) .skip))) (.seq (.reg r76_16 [0, 1, 4, 7, 8, 64]) (.cond (.t 64) (.reg r76_17 [0, 1, 4, 7, 8]) .skip)))))))))) (.seq (.seq (.reg r76_18 [0, 1, 4, 7, 8, 71]) (.cond (.t 71) (.seq (.reg r76_19 [4, 5, 6]) .ret) .skip)) (.seq (.reg r76_20 [4, 7, 8]) (.seq (.reg r76_21 [4, 5, 6]) .ret))))))), [.c 4 true 3, .t 5, .t 6], true⟩
/-- (*sortilege/expr.parser).imply -/
@[go_sem] def r77_0 : OL := [o 4 (.alloc [.str [], .str [], .int .i64 0, .vs [] .exact, .int .i64 0]), o 5 (.mv (.c .nili))]
@[go_sem] def r77_1 : OL := [m 11 0, m 12 1, o 13 (.call K_expr_parser_chain [(t 11), (i 3), (t 12)]), m 10 13, o 14 (.extr (t 10) 0), o 15 (.extr (t 10) 1), o 6 (.alloc [.str [], .str [], .int .i64 0, .vs [] .exact, .int .i64 0]), s (.store 5 (t 6) (t 14)), m 7 15]
@[go_sem] def r77_2 : OL := [m 16 7, o 17 (.bin .iface .neq (t 16) (.c .nili)), m 18 17, g 19 (.mv (t 0)) 18 false, g 20 (.nilck (t 19)) 18 false, g 21 (.fa 0 (t 20)) 18 false, g 22 (.load false 1 (t 21)) 18 false, g 23 (.call K_scan_Reader_Skip [(t 22), (.c (.str [61, 62]))]) 18 false, g 24 (.un .not (t 23)) 18 false, o 25 (.pick (t 18) (.c (.bool true)) (t 24))]
@[go_sem] def r77_3 : OL := [o 26 (.load true 5 (t 6)), m 27 7, s (.store 5 (t 4) (t 26)), m 5 27]
@[go_sem] def r77_4 : OL := [m 28 0, m 29 1, o 30 (.bin .plain .add (t 29) (i 1)), o 31 (.call K_expr_parser_deep [(t 28), (t 30)]), m 8 31]
@[go_sem] def r77_5 : OL := [m 32 8, o 33 (.bin .iface .neq (t 32) (.c .nili))]
@[go_sem] def r77_6 : OL := [o 34 (.build [.str [], .str [], .int .i64 0, .vs [] .exact, .int .i64 0] []), m 35 8, s (.store 5 (t 4) (t 34)), m 5 35]
@[go_sem] def r77_7 : OL := [m 37 0, m 38 1, o 39 (.bin .plain .add (t 38) (i 1)), o 40 (.call K_expr_parser_imply [(t 37), (t 39)]), m 36 40, o 41 (.extr (t 36) 0), o 42 (.extr (t 36) 1), o 9 (.alloc [.str [], .str [], .int .i64 0, .vs [] .exact, .int .i64 0]), s (.store 5 (t 9) (t 41)), m 7 42]
@[go_sem] def r77_8 : OL := [m 43 7, o 44 (.bin .iface .neq (t 43) (.c .nili))]
@[go_sem] def r77_9 : OL := [o 45 (.build [.str [], .str [], .int .i64 0, .vs [] .exact, .int .i64 0] []), m 46 7, s (.store 5 (t 4) (t 45)), m 5 46]
@[go_sem] def r77_10 : OL := [o 47 (.load true 5 (t 6)), o 48 (.load true 5 (t 9)), o 49 (.call K_expr_two [(.c (.str [61, 62])), (t 47), (t 48)]), s (.store 5 (t 4) (t 49)), o 5 (.mv (.c .nili))]
def F_expr_parser_imply : AFn := ⟨50, (.seq (.reg r77_0 [0, 1, 4]) (.seq (.reg r77_1 [0, 1, 4, 6, 7]) (.seq (.seq (.reg r77_2 [0, 1, 4, 6, 7, 25]) (.cond (.t 25) (.seq (.reg r77_3 [4, 5]) .ret) .skip)) (.seq (.seq (.reg r77_4 [0, 1, 4, 6, 8]) (.seq (.reg r77_5 [0, 1, 4, 6, 8, 33]) (.cond (.t 33) (.seq (.reg r77_6 [4, 5]) .ret) .skip))) (.seq (.reg r77_7 [4, 6, 7, 9]) (.seq (.seq (.reg r77_8 [4, 6, 7, 9, 44]) (.cond (.t 44) (.seq (.reg r77_9 [4, 5]) .ret) .skip)) (.seq (.reg r77_10 [4, 5]) .ret))))))), [.c 4 true 5, .t 5], true⟩
/-- sortilege/check.each -/
@[go_sem] def r78_0 : OL := [o 3 (.boxv (t 0)), o 6 (.mv (.c .nili))]
@[go_sem] def r78_1 : OL := [o 10 (.fa 3 (t 3)), o 11 (.load false 1 (t 10)), o 12 (.lenv (t 11)), o 13 (.mv (i 0))]
@[go_sem] def r78_2 : OL := [o 14 (.bin .plain .lss (t 13) (t 12))]
@[go_sem] def r78_3 : OL := [o 15 (.ixa 5 (t 11) (t 13)), o 16 (.load true 5 (t 15)), o 8 (.alloc [.str [], .str [], .int .i64 0, .vs [] .exact, .int .i64 0]), s (.store 5 (t 8) (t 16))]
@[go_sem] def r78_4 : OL := [o 17 (.load true 5 (t 8)), m 18 1, m 19 2, o 20 (.call K_check_must [(t 17), (t 18), (t 19)]), m 9 20]
@[go_sem] def r78_5 : OL := [m 21 9, o 22 (.bin .iface .neq (t 21) (.c .nili))]
@[go_sem] def r78_6 : OL := [m 23 9, m 6 23]
@[go_sem] def r78_7 : OL := [o 24 (.bin .plain .add (t 13) (i 1)), m 13 24]
@[go_sem] def r78_8 : OL := [o 6 (.mv (.c .nili))]
def L_check_each_0 : AC := (.seq (.reg r78_2 [1, 2, 11, 12, 13, 14]) (.seq (.cond (.t 14) .skip (.exit 0)) (.seq (.block 1 (.seq (.reg r78_3 [1, 2, 8, 11, 12, 13]) (.seq (.reg r78_4 [1, 2, 9, 11, 12, 13]) (.seq (.reg r78_5 [1, 2, 9, 11, 12, 13, 22]) (.cond (.t 22) (.seq (.reg r78_6 [6]) .ret) .skip))))) (.reg r78_7 [1, 2, 11, 12, 13]))))
theorem L_check_each_0_eq {E : Env} {fr : Fr} {h : AH} (keep : List Nat) : LP E L_check_each_0 keep fr h = XS E (.seq (.reg r78_2 [1, 2, 11, 12, 13, 14]) (.seq (.cond (.t 14) .skip (.exit 0)) (.seq (.block 1 (.seq (.reg r78_3 [1, 2, 8, 11, 12, 13]) (.seq (.reg r78_4 [1, 2, 9, 11, 12, 13]) (.seq (.reg r78_5 [1, 2, 9, 11, 12, 13, 22]) (.cond (.t 22) (.seq (.reg r78_6 [6]) .ret) .skip))))) (.reg r78_7 [1, 2, 11, 12, 13])))) [.lp L_check_each_0 keep] (keepFr keep fr) h := LP_XS L_check_each_0 keep
def F_check_each : AFn := ⟨25, (.seq (.reg r78_0 [1, 2, 3]) (.seq (.seq (.reg r78_1 [1, 2, 11, 12, 13]) (.block 0 (.loop L_check_each_0 [1, 2, 11, 12, 13]))) (.seq (.reg r78_8 [6]) .ret))), [.t 6], true⟩
/-- sortilege/check.alike -/
@[go_sem] def r79_0 : OL := [o 3 (.boxv (t 0)), o 4 (.boxv (t 1)), o 6 (.mv (.c (.bool false))), o 7 (.mv (.c .nili))]
@[go_sem] def r79_1 : OL := [o 11 (.load true 5 (t 3)), m 12 2, o 13 (.call K_check_Kind [(t 11), (t 12)]), m 10 13, o 14 (.extr (t 10) 0), o 15 (.extr (t 10) 1), m 8 14, m 9 15]
@[go_sem] def r79_2 : OL := [m 16 9, o 17 (.bin .iface .neq (t 16) (.c .nili))]
@[go_sem] def r79_3 : OL := [m 18 9, o 6 (.mv (.c (.bool false))), m 7 18]
@[go_sem] def r79_4 : OL := [m 19 8, o 20 (.load true 5 (t 4)), m 21 2, m 22 8, o 23 (.call K_check_must [(t 20), (t 21), (t 22)]), m 6 19, m 7 23]
def F_check_alike : AFn := ⟨24, (.seq (.reg r79_0 [2, 3, 4]) (.seq (.reg r79_1 [2, 4, 8, 9]) (.seq (.seq (.reg r79_2 [2, 4, 8, 9, 17]) (.cond (.t 17) (.seq (.reg r79_3 [6, 7]) .ret) .skip)) (.seq (.reg r79_4 [6, 7]) .ret)))), [.t 6, .t 7], true⟩
/-- (*sortilege/scan.Reader).wrong -/
@[go_sem] def r80_0 : OL := [o 2 (.mv (.c .nili))]
@[go_sem] def r80_1 : OL := [m 3 0, o 4 (.bin .ptr .eql (t 3) (.c .nilp))]
@[go_sem] def r80_2 : OL := [o 5 (.mkI T_api_Errno (i 3)), m 2 5]
@[go_sem] def r80_3 : OL := [m 6 0, o 7 (.call K_scan_Reader_Peek [(t 6)]), o 8 (.fld false 2 1 (t 7)), o 9 (.mkI T_api_Errno (i 20)), o 10 (.call K_scan_wrong [(t 8), (t 9)]), m 2 10]
def F_scan_Reader_wrong : AFn := ⟨11, (.seq (.reg r80_0 [0]) (.seq (.seq (.reg r80_1 [0, 4]) (.cond (.t 4) (.seq (.reg r80_2 [2]) .ret) .skip)) (.seq (.reg r80_3 [2]) .ret))), [.t 2], true⟩
/-- sortilege/model.kept -/
@[go_sem] def r81_0 : OL := [o 2 (.mv (.c (.bool false)))]
@[go_sem] def r81_1 : OL := [m 3 0]
@[go_sem] def r81_2 : OL := [o 5 (.bin .plain .eql (t 3) (.c (.str [109, 100, 112]))), m 4 5]
@[go_sem] def r81_3 : OL := [o 6 (.bin .plain .eql (t 3) (.c (.str [99, 111, 110, 115, 116]))), m 4 6]
@[go_sem] def r81_4 : OL := [o 7 (.bin .plain .eql (t 3) (.c (.str [102, 111, 114, 109, 117, 108, 97]))), m 4 7]
@[go_sem] def r81_5 : OL := [o 8 (.bin .plain .eql (t 3) (.c (.str [108, 97, 98, 101, 108]))), m 4 8]
@[go_sem] def r81_6 : OL := [o 10 (.bin .plain .eql (t 3) (.c (.str [109, 111, 100, 117, 108, 101]))), m 9 10]
@[go_sem] def r81_7 : OL := [o 11 (.bin .plain .eql (t 3) (.c (.str [101, 110, 100, 109, 111, 100, 117, 108, 101]))), m 9 11]
@[go_sem] def r81_8 : OL := [o 12 (.bin .plain .eql (t 3) (.c (.str [98, 111, 111, 108]))), m 9 12]
@[go_sem] def r81_9 : OL := [o 13 (.bin .plain .eql (t 3) (.c (.str [105, 110, 105, 116]))), m 9 13]
@[go_sem] def r81_10 : OL := [o 15 (.bin .plain .eql (t 3) (.c (.str [116, 114, 117, 101]))), m 14 15]
@[go_sem] def r81_11 : OL := [o 16 (.bin .plain .eql (t 3) (.c (.str [102, 97, 108, 115, 101]))), m 14 16]
@[go_sem] def r81_12 : OL := [o 2 (.mv (.c (.bool true)))]
@[go_sem] def r81_13 : OL := [o 2 (.mv (.c (.bool false)))]
def F_model_kept : AFn := ⟨17, (.seq (.reg r81_0 [0]) (.seq (.seq (.reg r81_1 [3]) (.block 0 (.seq (.block 3 (.block 2 (.block 1 (.seq (.seq (.seq (.seq (.reg r81_2 [3, 4]) (.cond (.t 4) .skip (.seq (.reg r81_3 [3, 4]) (.cond (.t 4) .skip (.seq (.reg r81_4 [3, 4]) (.cond (.t 4) .skip (.reg r81_5 [3, 4]))))))) (.cond (.t 4) (.exit 1) .skip)) (.seq (.seq (.seq (.reg r81_6 [3, 9]) (.cond (.t 9) .skip (.seq (.reg r81_7 [3, 9]) (.cond (.t 9) .skip (.seq (.reg r81_8 [3, 9]) (.cond (.t 9) .skip (.reg r81_9 [3, 9]))))))) (.cond (.t 9) (.exit 2) .skip)) (.seq (.seq (.reg r81_10 [3, 14]) (.cond (.t 14) .skip (.reg r81_11 [14]))) (.cond (.t 14) (.exit 3) .skip)))) (.exit 0))))) (.seq (.seq (.reg r81_12 [2]) .ret) (.exit 0))))) (.seq (.reg r81_13 [2]) .ret))), [.t 2], true⟩
/-- sortilege/model.split[sortilege/model.Branch] -/
@[go_sem] def r82_0 : OL := [o 6 (.mv (.c (.vs [] .exact)))]
@[go_sem] def r82_1 : OL := [m 8 2, o 9 (.callv (t 8) []), o 10 (.bslice [.int .i64 0, .vs [] .exact, .int .i64 0] 1 [(0, (t 9))]), m 7 10]
@[go_sem] def r82_2 : OL := [m 11 0, m 12 1, o 13 (.call K_model_parser_skip [(t 11), (t 12)])]
@[go_sem] def r82_3 : OL := [m 14 7, m 15 2, o 16 (.callv (t 15) []), o 17 (.bslice [.int .i64 0, .vs [] .exact, .int .i64 0] 1 [(0, (t 16))]), o 18 (.append 3 (t 14) (t 17)), m 7 18]
@[go_sem] def r82_4 : OL := [m 19 7, m 6 19]
def L_model_split_model_Branch_0 : AC := (.seq (.seq (.reg r82_2 [0, 1, 2, 7, 13]) (.cond (.t 13) .skip (.exit 0))) (.block 1 (.reg r82_3 [0, 1, 2, 7])))
theorem L_model_split_model_Branch_0_eq {E : Env} {fr : Fr} {h : AH} (keep : List Nat) : LP E L_model_split_model_Branch_0 keep fr h = XS E (.seq (.seq (.reg r82_2 [0, 1, 2, 7, 13]) (.cond (.t 13) .skip (.exit 0))) (.block 1 (.reg r82_3 [0, 1, 2, 7]))) [.lp L_model_split_model_Branch_0 keep] (keepFr keep fr) h := LP_XS L_model_split_model_Branch_0 keep
def F_model_split_model_Branch : AFn := ⟨20, (.seq (.reg r82_0 [0, 1, 2]) (.seq (.reg r82_1 [0, 1, 2, 7]) (.seq (.block 0 (.loop L_model_split_model_Branch_0 [0, 1, 2, 7])) (.seq (.reg r82_4 [6]) .ret)))), [.t 6], true⟩
/-- (*sortilege/model.parser).branch -/
@[go_sem] def r83_0 : OL := [o 2 (.alloc [.int .i64 0, .vs [] .exact, .int .i64 0])]
@[go_sem] def r83_1 : OL := [m 5 0, o 6 (.nilck (t 5)), o 7 (.fa 0 (t 6)), o 8 (.load false 1 (t 7)), o 9 (.call K_scan_Reader_Peek [(t 8)]), o 3 (.alloc [.int .i64 0, .str [], .int .i64 0]), s (.store 3 (t 3) (t 9))]
@[go_sem] def r83_2 : OL := [o 10 (.fa 2 (t 3)), o 11 (.load false 1 (t 10)), o 12 (.build [.int .i64 0, .vs [] .exact, .int .i64 0] [(0, 1, (i 1)), (2, 1, (t 11))]), o 4 (.alloc [.int .i64 0, .vs [] .exact, .int .i64 0]), s (.store 3 (t 4) (t 12))]
@[go_sem] def r83_3 : OL := [m 13 0, o 14 (.nilck (t 13)), o 15 (.fa 2 (t 14)), o 16 (.load false 1 (t 15)), o 17 (.bin .iface .eql (t 16) (.c .nili)), m 18 17, g 19 (.fa 0 (t 3)) 18 true, g 20 (.load false 1 (t 19)) 18 true, g 21 (.bin .plain .eql (t 20) (i 2)) 18 true, o 22 (.pick (t 18) (t 21) (.c (.bool false)))]
@[go_sem] def r83_4 : OL := [m 24 0, o 25 (.nilck (t 24)), o 26 (.fa 0 (t 25)), o 27 (.load false 1 (t 26)), o 28 (.call K_scan_Reader_Number [(t 27)]), m 23 28, o 29 (.extr (t 23) 0), o 30 (.extr (t 23) 1), o 31 (.fa 0 (t 4)), s (.store 1 (t 31) (t 29))]
@[go_sem] def r83_5 : OL := [o 32 (.fa 0 (t 4)), o 33 (.load false 1 (t 32)), o 34 (.bin .plain .eql (t 33) (i 0))]
@[go_sem] def r83_6 : OL := [m 35 0, o 36 (.fa 2 (t 3)), o 37 (.load false 1 (t 36)), o 38 (.mkI T_api_Errno (i 33)), o 39 (.build [.int .i64 0, .nili] [(0, 1, (t 37)), (1, 1, (t 38))]), o 40 (.boxv (t 39)), o 41 (.mkI T_P_api_At (t 40)), o 42 (.call K_model_parser_fail [(t 35), (t 41)])]
@[go_sem] def r83_7 : OL := [m 43 0, o 44 (.call K_model_parser_want [(t 43), (.c (.str [58]))])]
@[go_sem] def r83_8 : OL := [m 45 0, o 46 (.call K_model_parser_skip [(t 45), (.c (.str [116, 114, 117, 101]))]), o 47 (.un .not (t 46))]
@[go_sem] def r83_9 : OL := [m 48 0, m 49 0, o 50 (.mkF K_model_parser_set [(t 49)] []), o 51 (.call K_model_split_model_Set [(t 48), (.c (.str [38])), (t 50)]), o 52 (.fa 1 (t 4)), s (.store 1 (t 52) (t 51))]
@[go_sem] def r83_10 : OL := [o 53 (.load true 3 (t 4)), s (.store 3 (t 2) (t 53))]
def F_model_parser_branch : AFn := ⟨54, (.seq (.reg r83_0 [0, 2]) (.seq (.reg r83_1 [0, 2, 3]) (.seq (.reg r83_2 [0, 2, 3, 4]) (.seq (.seq (.reg r83_3 [0, 2, 3, 4, 22]) (.cond (.t 22) (.seq (.reg r83_4 [0, 2, 3, 4]) (.seq (.seq (.reg r83_5 [0, 2, 3, 4, 34]) (.cond (.t 34) (.reg r83_6 [0, 2, 4]) .skip)) (.reg r83_7 [0, 2, 4]))) .skip)) (.seq (.seq (.reg r83_8 [0, 2, 4, 47]) (.cond (.t 47) (.reg r83_9 [2, 4]) .skip)) (.seq (.reg r83_10 [2]) .ret)))))), [.c 2 true 3], true⟩
/-- sortilege/fold.begin$1 -/
@[go_sem] def r84_0 : OL := [o 4 (.boxv (t 0))]
@[go_sem] def r84_1 : OL := [o 6 (.load false 1 (t 2)), o 7 (.bin .iface .eql (t 6) (.c .nili))]
@[go_sem] def r84_2 : OL := [o 8 (.load false 1 (t 3)), o 9 (.load true 7 (t 4)), m 10 1, o 11 (.call K_fold_folder_enter [(t 8), (t 9), (t 10)]), s (.store 1 (t 2) (t 11))]
def F_fold_begin_1 : AFn := ⟨12, (.seq (.reg r84_0 [1, 2, 3, 4]) (.seq (.reg r84_1 [1, 2, 3, 4, 7]) (.cond (.t 7) (.reg r84_2 []) .skip))), [], true⟩
/-- (*sortilege/fold.folder).enter -/
@[go_sem] def r85_0 : OL := [o 4 (.boxv (t 1)), o 6 (.mv (.c .nili))]
@[go_sem] def r85_1 : DL := [.val 0 none (m 7 0), .val 1 none (o 8 (.nilck (t 7))), .val 2 none (o 9 (.fa 4 (t 8))), .val 3 none (o 10 (.load false 1 (t 9))), .val 4 none (o 11 (.fa 0 (t 4))), .val 5 none (o 12 (.load false 1 (t 11))), .val 6 none (o 13 (.lookup 1 false (.nilp) (t 10) (t 12))), .val 7 none (o 14 (.bin .ptr .neq (t 13) (.c .nilp)))]
@[go_sem] def r85_2 : OL := [o 15 (.fa 6 (t 4)), o 16 (.load false 1 (t 15)), o 17 (.mkI T_api_Errno (i 30)), o 18 (.call K_fold_at [(t 16), (t 17)]), m 6 18]
@[go_sem] def r85_3 : DL := [.val 6 none (m 25 2), .val 7 none (o 26 (.load true 7 (t 4))), .val 8 none (o 27 (.build [.int .i64 0, .str [], .str [], .str [], .int .i64 0, .vs [] .exact, .int .i64 0, .int .i64 0, .int .i64 0, .bool false, .bool false, .int .i64 0, .str [], .str [], .int .i64 0, .vs [] .exact, .int .i64 0] [(0, 1, (t 25)), (1, 7, (t 26))])), .eff [] 9 (o 28 (.boxm (t 27))), .val 0 none (m 19 0), .val 1 none (o 20 (.nilck (t 19))), .val 2 none (o 21 (.fa 4 (t 20))), .val 3 (some (0, 2)) (o 22 (.load false 1 (t 21))), .val 4 none (o 23 (.fa 0 (t 4))), .val 5 (some (0, 2)) (o 24 (.load false 1 (t 23))), .eff [] 10 (s (.mapset 1 (t 22) (t 24) (t 28)))]
@[go_sem] def r85_4 : OL := [o 6 (.mv (.c .nili))]
def F_fold_folder_enter : AFn := ⟨29, (.seq (.reg r85_0 [0, 2, 4]) (.seq (.seq (.regd r85_1 [] [0, 2, 4, 14]) (.cond (.t 14) (.seq (.reg r85_2 [6]) .ret) .skip)) (.seq (.regd r85_3 [] []) (.seq (.reg r85_4 [6]) .ret)))), [.t 6], true⟩
/-- sortilege/fold.once -/
@[go_sem] def r86_0 : OL := [o 2 (.mv (.c .nili))]
@[go_sem] def r86_1 : OL := [o 6 (.mkMap), m 3 6]
@[go_sem] def r86_2 : OL := [m 7 0, o 8 (.lenv (t 7)), o 9 (.mv (i 0))]
@[go_sem] def r86_3 : OL := [o 10 (.bin .plain .lss (t 9) (t 8))]
@[go_sem] def r86_4 : OL := [o 11 (.ixa 7 (t 7) (t 9)), o 12 (.load true 7 (t 11)), o 5 (.alloc [.str [], .str [], .str [], .int .i64 0, .vs [] .exact, .int .i64 0, .int .i64 0]), s (.store 7 (t 5) (t 12))]
@[go_sem] def r86_5 : OL := [m 13 3, o 14 (.fa 0 (t 5)), o 15 (.load false 1 (t 14)), o 16 (.lookup 1 false (.bool false) (t 13) (t 15))]
@[go_sem] def r86_6 : OL := [o 17 (.fa 6 (t 5)), o 18 (.load false 1 (t 17)), o 19 (.mkI T_api_Errno (i 30)), o 20 (.call K_fold_at [(t 18), (t 19)]), m 2 20]
@[go_sem] def r86_7 : OL := [m 21 3, o 22 (.fa 0 (t 5)), o 23 (.load false 1 (t 22)), s (.mapset 1 (t 21) (t 23) (.c (.bool true)))]
@[go_sem] def r86_8 : OL := [o 24 (.bin .plain .add (t 9) (i 1)), m 9 24]
@[go_sem] def r86_9 : OL := [o 2 (.mv (.c .nili))]
def L_fold_once_0 : AC := (.seq (.reg r86_3 [3, 7, 8, 9, 10]) (.seq (.cond (.t 10) .skip (.exit 0)) (.seq (.block 1 (.seq (.reg r86_4 [3, 5, 7, 8, 9]) (.seq (.seq (.reg r86_5 [3, 5, 7, 8, 9, 16]) (.cond (.t 16) (.seq (.reg r86_6 [2]) .ret) .skip)) (.reg r86_7 [3, 7, 8, 9])))) (.reg r86_8 [3, 7, 8, 9]))))
theorem L_fold_once_0_eq {E : Env} {fr : Fr} {h : AH} (keep : List Nat) : LP E L_fold_once_0 keep fr h = XS E (.seq (.reg r86_3 [3, 7, 8, 9, 10]) (.seq (.cond (.t 10) .skip (.exit 0)) (.seq (.block 1 (.seq (.reg r86_4 [3, 5, 7, 8, 9]) (.seq (.seq (.reg r86_5 [3, 5, 7, 8, 9, 16]) (.cond (.t 16) (.seq (.reg r86_6 [2]) .ret) .skip)) (.reg r86_7 [3, 7, 8, 9])))) (.reg r86_8 [3, 7, 8, 9])))) [.lp L_fold_once_0 keep] (keepFr keep fr) h := LP_XS L_fold_once_0 keep
def F_fold_once : AFn := ⟨25, (.seq (.reg r86_0 [0]) (.seq (.reg r86_1 [0, 3]) (.seq (.seq (.reg r86_2 [3, 7, 8, 9]) (.block 0 (.loop L_fold_once_0 [3, 7, 8, 9]))) (.seq (.reg r86_9 [2]) .ret)))), [.t 2], true⟩
/-- (*sortilege/fold.folder).constant -/
@[go_sem] def r87_0 : OL := [o 4 (.mv (.c .nili))]
@[go_sem] def r87_1 : OL := [m 14 1, o 15 (.nilck (t 14)), o 16 (.fa 8 (t 15)), s (.store 1 (t 16) (i 1))]
@[go_sem] def r87_2 : OL := [o 5 (.mv (.c (.vs [] .exact)))]
@[go_sem] def r87_3 : OL := [m 18 1, o 19 (.nilck (t 18)), o 20 (.fa 1 (t 19)), o 21 (.fa 1 (t 20)), o 22 (.load true 5 (t 21)), m 23 5, o 24 (.call K_value_Eval [(t 22), (t 23)]), m 17 24, o 25 (.extr (t 17) 0), o 26 (.extr (t 17) 1), o 6 (.alloc [.bool false, .bool false, .int .i64 0]), s (.store 3 (t 6) (t 25)), m 7 26]
@[go_sem] def r87_4 : OL := [m 28 7, o 29 (.call K_fold_missing [(t 28)]), m 27 29, o 30 (.extr (t 27) 0), o 31 (.extr (t 27) 1), m 8 30, m 9 31]
@[go_sem] def r87_5 : OL := [m 32 9, o 33 (.un .not (t 32))]
@[go_sem] def r87_6 : OL := [m 34 1, m 35 1, o 36 (.load true 3 (t 6)), o 37 (.nilck (t 34)), o 38 (.fa 9 (t 37)), s (.store 3 (t 38) (t 36)), o 39 (.nilck (t 35)), o 40 (.fa 8 (t 39)), s (.store 1 (t 40) (i 2))]
@[go_sem] def r87_7 : OL := [m 41 7, m 4 41]
@[go_sem] def r87_8 : DL := [.val 0 none (m 43 1), .val 1 none (o 44 (.nilck (t 43))), .val 2 none (o 45 (.fa 1 (t 44))), .val 3 none (o 46 (.fa 1 (t 45))), .val 4 none (o 47 (.load true 5 (t 46))), .val 5 none (m 48 8), .val 6 none (o 49 (.nilck (t 48))), .val 7 none (o 50 (.fa 0 (t 49))), .val 8 none (o 51 (.load false 1 (t 50))), .val 9 none (m 52 5), .eff [] 10 (o 53 (.call K_fold_named [(t 47), (t 51), (t 52)])), .val 11 none (m 42 53), .val 12 none (o 54 (.extr (t 42) 0)), .val 13 none (o 55 (.extr (t 42) 1)), .val 14 none (m 10 54), .val 15 none (m 11 55)]
@[go_sem] def r87_9 : OL := [m 56 0, o 57 (.nilck (t 56)), o 58 (.fa 4 (t 57)), o 59 (.load false 1 (t 58)), m 60 10, o 61 (.lookup 1 false (.nilp) (t 59) (t 60)), m 12 61]
@[go_sem] def r87_10 : OL := [m 63 11, o 64 (.un .not (t 63)), m 65 64, g 66 (.mv (t 12)) 65 false, g 67 (.bin .ptr .eql (t 66) (.c .nilp)) 65 false, o 68 (.pick (t 65) (.c (.bool true)) (t 67)), m 69 68, g 70 (.mv (t 12)) 69 false, g 71 (.nilck (t 70)) 69 false, g 72 (.fa 0 (t 71)) 69 false, g 73 (.load false 1 (t 72)) 69 false, g 74 (.bin .plain .neq (t 73) (i 1)) 69 false, o 75 (.pick (t 69) (.c (.bool true)) (t 74)), m 62 75]
@[go_sem] def r87_11 : OL := [m 76 7, m 4 76]
@[go_sem] def r87_12 : OL := [m 78 12, o 79 (.nilck (t 78)), o 80 (.fa 8 (t 79)), o 81 (.load false 1 (t 80)), o 82 (.bin .plain .eql (t 81) (i 1)), m 77 82]
@[go_sem] def r87_13 : OL := [m 83 8, o 84 (.nilck (t 83)), o 85 (.fa 0 (t 84)), o 86 (.load false 1 (t 85)), o 87 (.mkI T_api_Errno (i 31)), o 88 (.call K_fold_at [(t 86), (t 87)]), m 4 88]
@[go_sem] def r87_14 : OL := [m 90 12, o 91 (.nilck (t 90)), o 92 (.fa 8 (t 91)), o 93 (.load false 1 (t 92)), o 94 (.bin .plain .eql (t 93) (i 0)), m 89 94]
@[go_sem] def r87_15 : OL := [m 95 0, m 96 12, o 97 (.call K_fold_folder_constant [(t 95), (t 96)]), m 13 97]
@[go_sem] def r87_16 : OL := [m 98 13, o 99 (.bin .iface .neq (t 98) (.c .nili))]
@[go_sem] def r87_17 : OL := [m 100 13, m 4 100]
@[go_sem] def r87_18 : OL := [m 101 5, m 102 10, m 103 12, o 104 (.nilck (t 103)), o 105 (.fa 9 (t 104)), o 106 (.load true 3 (t 105)), o 107 (.build [.str [], .bool false, .bool false, .int .i64 0] [(0, 1, (t 102)), (1, 3, (t 106))]), o 108 (.bslice [.str [], .bool false, .bool false, .int .i64 0] 1 [(0, (t 107))]), o 109 (.append 4 (t 101) (t 108)), m 5 109]
def L_fold_folder_constant_0 : AC := (.block 1 (.seq (.reg r87_3 [0, 1, 5, 6, 7]) (.seq (.reg r87_4 [0, 1, 5, 6, 7, 8, 9]) (.seq (.seq (.reg r87_5 [0, 1, 5, 6, 7, 8, 33]) (.cond (.t 33) (.seq (.reg r87_6 [7]) (.seq (.reg r87_7 [4]) .ret)) .skip)) (.seq (.regd r87_8 [] [0, 1, 5, 7, 8, 10, 11]) (.seq (.reg r87_9 [0, 1, 5, 7, 8, 10, 11, 12]) (.seq (.block 2 (.seq (.reg r87_10 [0, 1, 5, 7, 8, 10, 12, 62]) (.cond (.t 62) (.seq (.reg r87_11 [4]) .ret) (.seq (.reg r87_12 [0, 1, 5, 8, 10, 12, 77]) (.cond (.t 77) (.seq (.reg r87_13 [4]) .ret) (.seq (.reg r87_14 [0, 1, 5, 10, 12, 89]) (.cond (.t 89) (.seq (.reg r87_15 [0, 1, 5, 10, 12, 13]) (.seq (.reg r87_16 [0, 1, 5, 10, 12, 13, 99]) (.cond (.t 99) (.seq (.reg r87_17 [4]) .ret) .skip))) .skip))))))) (.reg r87_18 [0, 1, 5]))))))))
theorem L_fold_folder_constant_0_eq {E : Env} {fr : Fr} {h : AH} (keep : List Nat) : LP E L_fold_folder_constant_0 keep fr h = XS E (.block 1 (.seq (.reg r87_3 [0, 1, 5, 6, 7]) (.seq (.reg r87_4 [0, 1, 5, 6, 7, 8, 9]) (.seq (.seq (.reg r87_5 [0, 1, 5, 6, 7, 8, 33]) (.cond (.t 33) (.seq (.reg r87_6 [7]) (.seq (.reg r87_7 [4]) .ret)) .skip)) (.seq (.regd r87_8 [] [0, 1, 5, 7, 8, 10, 11]) (.seq (.reg r87_9 [0, 1, 5, 7, 8, 10, 11, 12]) (.seq (.block 2 (.seq (.reg r87_10 [0, 1, 5, 7, 8, 10, 12, 62]) (.cond (.t 62) (.seq (.reg r87_11 [4]) .ret) (.seq (.reg r87_12 [0, 1, 5, 8, 10, 12, 77]) (.cond (.t 77) (.seq (.reg r87_13 [4]) .ret) (.seq (.reg r87_14 [0, 1, 5, 10, 12, 89]) (.cond (.t 89) (.seq (.reg r87_15 [0, 1, 5, 10, 12, 13]) (.seq (.reg r87_16 [0, 1, 5, 10, 12, 13, 99]) (.cond (.t 99) (.seq (.reg r87_17 [4]) .ret) .skip))) .skip))))))) (.reg r87_18 [0, 1, 5])))))))) [.lp L_fold_folder_constant_0 keep] (keepFr keep fr) h := LP_XS L_fold_folder_constant_0 keep
def F_fold_folder_constant : AFn := ⟨110, (.seq (.reg r87_0 [0, 1]) (.seq (.reg r87_1 [0, 1]) (.seq (.reg r87_2 [0, 1, 5]) (.block 0 (.loop L_fold_folder_constant_0 [0, 1, 5]))))), [.t 4], true⟩
/-- (*sortilege/fold.folder).expand -/
@[go_sem] def r88_0 : OL := [o 4 (.boxv (t 1)), o 6 (.alloc [.str [], .str [], .int .i64 0, .vs [] .exact, .int .i64 0]), o 7 (.mv (.c .nili))]
@[go_sem] def r88_1 : OL := [m 11 0, o 12 (.load true 5 (t 4)), m 13 2, o 14 (.call K_fold_folder_turn [(t 11), (t 12), (t 13)]), m 10 14, o 15 (.extr (t 10) 0), o 16 (.extr (t 10) 1), o 8 (.alloc [.str [], .str [], .int .i64 0, .vs [] .exact, .int .i64 0]), s (.store 5 (t 8) (t 15)), m 9 16]
@[go_sem] def r88_2 : OL := [m 17 9, o 18 (.bin .iface .neq (t 17) (.c .nili))]
@[go_sem] def r88_3 : OL := [o 19 (.build [.str [], .str [], .int .i64 0, .vs [] .exact, .int .i64 0] []), m 20 9, s (.store 5 (t 6) (t 19)), m 7 20]
@[go_sem] def r88_4 : OL := [o 21 (.load true 5 (t 8)), o 22 (.call K_expr_Size [(t 21)]), o 23 (.bin .plain .gtr (t 22) (i 4096))]
@[go_sem] def r88_5 : OL := [o 24 (.build [.str [], .str [], .int .i64 0, .vs [] .exact, .int .i64 0] []), o 25 (.fa 4 (t 4)), o 26 (.load false 1 (t 25)), o 27 (.mkI T_api_Errno (i 2)), o 28 (.call K_fold_at [(t 26), (t 27)]), s (.store 5 (t 6) (t 24)), m 7 28]
@[go_sem] def r88_6 : OL := [o 29 (.load true 5 (t 8)), o 30 (.call K_fold_clone [(t 29)]), s (.store 5 (t 6) (t 30)), o 7 (.mv (.c .nili))]
def F_fold_folder_expand : AFn := ⟨31, (.seq (.reg r88_0 [0, 2, 4, 6]) (.seq (.reg r88_1 [4, 6, 8, 9]) (.seq (.seq (.reg r88_2 [4, 6, 8, 9, 18]) (.cond (.t 18) (.seq (.reg r88_3 [6, 7]) .ret) .skip)) (.seq (.seq (.reg r88_4 [4, 6, 8, 23]) (.cond (.t 23) (.seq (.reg r88_5 [6, 7]) .ret) .skip)) (.seq (.reg r88_6 [6, 7]) .ret))))), [.c 6 true 5, .t 7], true⟩
/-- sortilege/value.Eval -/
@[go_sem] def r89_0 : OL := [o 2 (.boxv (t 0)), o 4 (.alloc [.bool false, .bool false, .int .i64 0]), o 5 (.mv (.c .nili))]
@[go_sem] def r89_1 : DL := [.val 0 none (o 11 (.fa 0 (t 2))), .val 1 none (o 12 (.load false 1 (t 11))), .eff [] 2 (o 13 (.call K_value_kids [(t 12)])), .val 3 none (o 14 (.fa 3 (t 2))), .val 4 (some (0, 2)) (o 15 (.load false 1 (t 14))), .val 5 none (o 16 (.lenv (t 15))), .val 6 none (o 17 (.bin .plain .neq (t 13) (t 16)))]
@[go_sem] def r89_2 : OL := [o 18 (.build [.bool false, .bool false, .int .i64 0] []), o 19 (.load true 5 (t 2)), o 20 (.mkI T_api_Errno (i 1)), o 21 (.call K_value_at [(t 19), (t 20)]), s (.store 3 (t 4) (t 18)), m 5 21]
@[go_sem] def r89_3 : OL := [o 22 (.fa 3 (t 2)), o 23 (.load false 1 (t 22)), o 24 (.lenv (t 23))]
@[go_sem] def r89_4 : OL := [o 26 (.bin .plain .eql (t 24) (i 0)), m 25 26]
@[go_sem] def r89_5 : OL := [o 27 (.load true 5 (t 2)), m 28 1, o 29 (.call K_value_plain [(t 27), (t 28)]), o 30 (.extr (t 29) 0), o 31 (.extr (t 29) 1), s (.store 3 (t 4) (t 30)), m 5 31]
@[go_sem] def r89_6 : OL := [o 33 (.bin .plain .eql (t 24) (i 1)), m 32 33]
@[go_sem] def r89_7 : DL := [.val 0 none (o 35 (.fa 3 (t 2))), .val 1 none (o 36 (.load false 1 (t 35))), .val 2 none (o 37 (.ixa 5 (t 36) (i 0))), .val 3 none (o 38 (.load true 5 (t 37))), .val 4 none (m 39 1), .val 5 none (o 40 (.fa 0 (t 2))), .val 6 none (o 41 (.load false 1 (t 40))), .val 7 none (o 42 (.bin .plain .eql (t 41) (.c (.str [33])))), .eff [] 8 (o 43 (.call K_value_kind [(t 38), (t 39), (t 42)])), .val 9 none (m 34 43), .val 10 none (o 44 (.extr (t 34) 0)), .eff [(12, 6, [.bool false, .bool false, .int .i64 0])] 13 (s (.store 3 (t 6) (t 44))), .val 11 none (o 45 (.extr (t 34) 1)), .val 14 none (m 7 45)]
@[go_sem] def r89_8 : OL := [m 47 7, o 48 (.bin .iface .neq (t 47) (.c .nili)), m 46 48]
@[go_sem] def r89_9 : OL := [o 49 (.build [.bool false, .bool false, .int .i64 0] []), m 50 7, s (.store 3 (t 4) (t 49)), m 5 50]
@[go_sem] def r89_10 : OL := [o 52 (.fa 0 (t 6)), o 53 (.load false 1 (t 52)), m 51 53]
@[go_sem] def r89_11 : OL := [o 54 (.fa 1 (t 6)), o 55 (.load false 1 (t 54)), o 56 (.un .not (t 55)), o 57 (.call K_value_Truth [(t 56)]), s (.store 3 (t 4) (t 57)), o 5 (.mv (.c .nili))]
@[go_sem] def r89_12 : OL := [o 59 (.fa 2 (t 6)), o 60 (.load false 1 (t 59)), o 61 (.call K_safe_Neg [(t 60)]), m 58 61, o 62 (.extr (t 58) 0), o 63 (.extr (t 58) 1), m 8 62, m 7 63]
@[go_sem] def r89_13 : OL := [o 64 (.load true 5 (t 2)), m 65 8, m 66 7, o 67 (.call K_value_number [(t 64), (t 65), (t 66)]), o 68 (.extr (t 67) 0), o 69 (.extr (t 67) 1), s (.store 3 (t 4) (t 68)), m 5 69]
@[go_sem] def r89_14 : OL := [o 71 (.bin .plain .eql (t 24) (i 3)), m 70 71]
@[go_sem] def r89_15 : OL := [o 73 (.fa 3 (t 2)), o 74 (.load false 1 (t 73)), o 75 (.ixa 5 (t 74) (i 0)), o 76 (.load true 5 (t 75)), m 77 1, o 78 (.call K_value_kind [(t 76), (t 77), (.c (.bool true))]), m 72 78, o 79 (.extr (t 72) 0), o 80 (.extr (t 72) 1), o 9 (.alloc [.bool false, .bool false, .int .i64 0]), s (.store 3 (t 9) (t 79)), m 10 80]
@[go_sem] def r89_16 : OL := [m 82 10, o 83 (.bin .iface .neq (t 82) (.c .nili)), m 81 83]
@[go_sem] def r89_17 : OL := [o 84 (.build [.bool false, .bool false, .int .i64 0] []), m 85 10, s (.store 3 (t 4) (t 84)), m 5 85]
@[go_sem] def r89_18 : OL := [o 87 (.fa 1 (t 9)), o 88 (.load false 1 (t 87)), m 86 88]
@[go_sem] def r89_19 : OL := [o 89 (.fa 3 (t 2)), o 90 (.load false 1 (t 89)), o 91 (.ixa 5 (t 90) (i 1)), o 92 (.load true 5 (t 91)), m 93 1, o 94 (.call K_value_Eval [(t 92), (t 93)]), o 95 (.extr (t 94) 0), o 96 (.extr (t 94) 1), s (.store 3 (t 4) (t 95)), m 5 96]
@[go_sem] def r89_20 : OL := [o 97 (.fa 3 (t 2)), o 98 (.load false 1 (t 97)), o 99 (.ixa 5 (t 98) (i 2)), o 100 (.load true 5 (t 99)), m 101 1, o 102 (.call K_value_Eval [(t 100), (t 101)]), o 103 (.extr (t 102) 0), o 104 (.extr (t 102) 1), s (.store 3 (t 4) (t 103)), m 5 104]
@[go_sem] def r89_21 : OL := [o 105 (.fa 0 (t 2)), o 106 (.load false 1 (t 105))]
@[go_sem] def r89_22 : OL := [o 108 (.bin .plain .eql (t 106) (.c (.str [38]))), m 107 108]
@[go_sem] def r89_23 : OL := [o 109 (.bin .plain .eql (t 106) (.c (.str [124]))), m 107 109]
@[go_sem] def r89_24 : OL := [o 110 (.bin .plain .eql (t 106) (.c (.str [61, 62]))), m 107 110]
@[go_sem] def r89_25 : OL := [o 111 (.load true 5 (t 2)), m 112 1, o 113 (.call K_value_join [(t 111), (t 112)]), o 114 (.extr (t 113) 0), o 115 (.extr (t 113) 1), s (.store 3 (t 4) (t 114)), m 5 115]
@[go_sem] def r89_26 : OL := [o 117 (.bin .plain .eql (t 106) (.c (.str [61]))), m 116 117]
@[go_sem] def r89_27 : OL := [o 118 (.bin .plain .eql (t 106) (.c (.str [33, 61]))), m 116 118]
@[go_sem] def r89_28 : OL := [o 119 (.load true 5 (t 2)), m 120 1, o 121 (.call K_value_same [(t 119), (t 120)]), o 122 (.extr (t 121) 0), o 123 (.extr (t 121) 1), s (.store 3 (t 4) (t 122)), m 5 123]
@[go_sem] def r89_29 : OL := [o 124 (.load true 5 (t 2)), m 125 1, o 126 (.call K_value_reckon [(t 124), (t 125)]), o 127 (.extr (t 126) 0), o 128 (.extr (t 126) 1), s (.store 3 (t 4) (t 127)), m 5 128]
def F_value_Eval : AFn := ⟨129, (.seq (.reg r89_0 [1, 2, 4]) (.seq (.seq (.regd r89_1 [] [1, 2, 4, 17]) (.cond (.t 17) (.seq (.reg r89_2 [4, 5]) .ret) .skip)) (.seq (.seq (.reg r89_3 [1, 2, 4, 24]) (.block 0 (.seq (.reg r89_4 [1, 2, 4, 24, 25]) (.cond (.t 25) (.seq (.reg r89_5 [4, 5]) .ret) (.seq (.reg r89_6 [1, 2, 4, 24, 32]) (.cond (.t 32) (.seq (.regd r89_7 [] [2, 4, 6, 7]) (.seq (.block 1 (.seq (.reg r89_8 [2, 4, 6, 7, 46]) (.cond (.t 46) (.seq (.reg r89_9 [4, 5]) .ret) (.seq (.reg r89_10 [2, 4, 6, 51]) (.cond (.t 51) (.seq (.reg r89_11 [4, 5]) .ret) .skip))))) (.seq (.reg r89_12 [2, 4, 7, 8]) (.seq (.reg r89_13 [4, 5]) .ret)))) (.seq (.reg r89_14 [1, 2, 4, 70]) (.cond (.t 70) (.seq (.reg r89_15 [1, 2, 4, 9, 10]) (.seq (.block 2 (.seq (.reg r89_16 [1, 2, 4, 9, 10, 81]) (.cond (.t 81) (.seq (.reg r89_17 [4, 5]) .ret) (.seq (.reg r89_18 [1, 2, 4, 86]) (.cond (.t 86) (.seq (.reg r89_19 [4, 5]) .ret) .skip))))) (.seq (.reg r89_20 [4, 5]) .ret))) .skip)))))))) (.seq (.seq (.reg r89_21 [1, 2, 4, 106]) (.block 3 (.seq (.seq (.reg r89_22 [1, 2, 4, 106, 107]) (.cond (.t 107) .skip (.seq (.reg r89_23 [1, 2, 4, 106, 107]) (.cond (.t 107) .skip (.reg r89_24 [1, 2, 4, 106, 107]))))) (.cond (.t 107) (.seq (.reg r89_25 [4, 5]) .ret) (.seq (.seq (.reg r89_26 [1, 2, 4, 106, 116]) (.cond (.t 116) .skip (.reg r89_27 [1, 2, 4, 116]))) (.cond (.t 116) (.seq (.reg r89_28 [4, 5]) .ret) .skip)))))) (.seq (.reg r89_29 [4, 5]) .ret))))), [.c 4 true 3, .t 5], true⟩
/-- slices.IndexFunc[[]sortilege/check.Slot,sortilege/check.Slot] -/
@[go_sem] def r90_0 : OL := [o 4 (.mv (i 0))]
@[go_sem] def r90_1 : OL := [m 6 0, o 7 (.lenv (t 6)), o 8 (.mv (i 0))]
@[go_sem] def r90_2 : OL := [o 9 (.bin .plain .lss (t 8) (t 7))]
@[go_sem] def r90_3 : OL := [m 10 8, m 5 10]
@[go_sem] def r90_4 : OL := [m 11 1, m 12 0, m 13 5, o 14 (.ixa 6 (t 12) (t 13)), o 15 (.load true 6 (t 14)), o 16 (.callv (t 11) [(t 15)])]
@[go_sem] def r90_5 : OL := [m 17 5, m 4 17]
@[go_sem] def r90_6 : OL := [o 18 (.bin .plain .add (t 8) (i 1)), m 8 18]
@[go_sem] def r90_7 : OL := [o 4 (.mv (i (-1)))]
def L_slices_IndexFunc_check_Slot_check_Slot_0 : AC := (.seq (.reg r90_2 [0, 1, 7, 8, 9]) (.seq (.cond (.t 9) .skip (.exit 0)) (.seq (.block 1 (.seq (.reg r90_3 [0, 1, 5, 7, 8]) (.seq (.reg r90_4 [0, 1, 5, 7, 8, 16]) (.cond (.t 16) (.seq (.reg r90_5 [4]) .ret) .skip)))) (.reg r90_6 [0, 1, 7, 8]))))
theorem L_slices_IndexFunc_check_Slot_check_Slot_0_eq {E : Env} {fr : Fr} {h : AH} (keep : List Nat) : LP E L_slices_IndexFunc_check_Slot_check_Slot_0 keep fr h = XS E (.seq (.reg r90_2 [0, 1, 7, 8, 9]) (.seq (.cond (.t 9) .skip (.exit 0)) (.seq (.block 1 (.seq (.reg r90_3 [0, 1, 5, 7, 8]) (.seq (.reg r90_4 [0, 1, 5, 7, 8, 16]) (.cond (.t 16) (.seq (.reg r90_5 [4]) .ret) .skip)))) (.reg r90_6 [0, 1, 7, 8])))) [.lp L_slices_IndexFunc_check_Slot_check_Slot_0 keep] (keepFr keep fr) h := LP_XS L_slices_IndexFunc_check_Slot_check_Slot_0 keep
def F_slices_IndexFunc_check_Slot_check_Slot : AFn := ⟨19, (.seq (.reg r90_0 [0, 1]) (.seq (.seq (.reg r90_1 [0, 1, 7, 8]) (.block 0 (.loop L_slices_IndexFunc_check_Slot_check_Slot_0 [0, 1, 7, 8]))) (.seq (.reg r90_7 [4]) .ret))), [.t 4], true⟩
/-- sortilege/check.find$1 -/
@[go_sem] def r91_0 : OL := [o 2 (.boxv (t 0)), o 3 (.mv (.c (.bool false)))]
@[go_sem] def r91_1 : OL := [o 4 (.fa 0 (t 2)), o 5 (.load false 1 (t 4)), o 6 (.load false 1 (t 1)), o 7 (.bin .plain .eql (t 5) (t 6)), m 3 7]
def F_check_find_1 : AFn := ⟨8, (.seq (.reg r91_0 [1, 2]) (.seq (.reg r91_1 [3]) .ret)), [.t 3], true⟩
/-- slices.IndexFunc[[]sortilege/check.Set,sortilege/check.Set] -/
@[go_sem] def r92_0 : OL := [o 4 (.mv (i 0))]
@[go_sem] def r92_1 : OL := [m 6 0, o 7 (.lenv (t 6)), o 8 (.mv (i 0))]
@[go_sem] def r92_2 : OL := [o 9 (.bin .plain .lss (t 8) (t 7))]
@[go_sem] def r92_3 : OL := [m 10 8, m 5 10]
@[go_sem] def r92_4 : OL := [m 11 1, m 12 0, m 13 5, o 14 (.ixa 6 (t 12) (t 13)), o 15 (.load true 6 (t 14)), o 16 (.callv (t 11) [(t 15)])]
@[go_sem] def r92_5 : OL := [m 17 5, m 4 17]
@[go_sem] def r92_6 : OL := [o 18 (.bin .plain .add (t 8) (i 1)), m 8 18]
@[go_sem] def r92_7 : OL := [o 4 (.mv (i (-1)))]
def L_slices_IndexFunc_check_Set_check_Set_0 : AC := (.seq (.reg r92_2 [0, 1, 7, 8, 9]) (.seq (.cond (.t 9) .skip (.exit 0)) (.seq (.block 1 (.seq (.reg r92_3 [0, 1, 5, 7, 8]) (.seq (.reg r92_4 [0, 1, 5, 7, 8, 16]) (.cond (.t 16) (.seq (.reg r92_5 [4]) .ret) .skip)))) (.reg r92_6 [0, 1, 7, 8]))))
theorem L_slices_IndexFunc_check_Set_check_Set_0_eq {E : Env} {fr : Fr} {h : AH} (keep : List Nat) : LP E L_slices_IndexFunc_check_Set_check_Set_0 keep fr h = XS E (.seq (.reg r92_2 [0, 1, 7, 8, 9]) (.seq (.cond (.t 9) .skip (.exit 0)) (.seq (.block 1 (.seq (.reg r92_3 [0, 1, 5, 7, 8]) (.seq (.reg r92_4 [0, 1, 5, 7, 8, 16]) (.cond (.t 16) (.seq (.reg r92_5 [4]) .ret) .skip)))) (.reg r92_6 [0, 1, 7, 8])))) [.lp L_slices_IndexFunc_check_Set_check_Set_0 keep] (keepFr keep fr) h := LP_XS L_slices_IndexFunc_check_Set_check_Set_0 keep
def F_slices_IndexFunc_check_Set_check_Set : AFn := ⟨19, (.seq (.reg r92_0 [0, 1]) (.seq (.seq (.reg r92_1 [0, 1, 7, 8]) (.block 0 (.loop L_slices_IndexFunc_check_Set_check_Set_0 [0, 1, 7, 8]))) (.seq (.reg r92_7 [4]) .ret))), [.t 4], true⟩
/-- (*sortilege/sortilegeref09.Book).twice -/
@[go_sem] def r93_0 : OL := [o 4 (.mv (i 0))]
@[go_sem] def r93_1 : OL := [m 5 4, m 6 1, o 7 (.lenv (t 6)), o 8 (.bin .plain .lss (t 5) (t 7))]
@[go_sem] def r93_3 : DL := [.val 0 none (m 11 1), .val 1 none (m 12 4), .val 2 none (o 13 (.slc 7 (t 11) none (some (t 12)) none)), .val 3 none (m 14 1), .val 4 none (m 15 4), .val 5 none (o 16 (.ixa 7 (t 14) (t 15))), .val 6 none (o 17 (.fa 0 (t 16))), .val 7 none (o 18 (.load false 1 (t 17))), .eff [] 8 (o 19 (.call K_ref09_at [(t 13), (t 18)])), .val 9 none (o 20 (.bin .plain .geq (t 19) (i 0)))]
@[go_sem] def r93_4 : OL := [m 21 0, m 22 1, m 23 4, o 24 (.ixa 7 (t 22) (t 23)), o 25 (.fa 6 (t 24)), o 26 (.load false 1 (t 25)), o 27 (.call K_ref09_Book_fail [(t 21), (i 30), (t 26)])]
@[go_sem] def r93_2 : OL := [m 9 4, o 10 (.bin .plain .add (t 9) (i 1)), m 4 10]
def L_ref09_Book_twice_0 : AC := (.seq (.seq (.reg r93_1 [0, 1, 4, 8]) (.cond (.t 8) .skip (.exit 0))) (.seq (.block 1 (.seq (.regd r93_3 [] [0, 1, 4, 20]) (.cond (.t 20) (.reg r93_4 [0, 1, 4]) .skip))) (.reg r93_2 [0, 1, 4])))
theorem L_ref09_Book_twice_0_eq {E : Env} {fr : Fr} {h : AH} (keep : List Nat) : LP E L_ref09_Book_twice_0 keep fr h = XS E (.seq (.seq (.reg r93_1 [0, 1, 4, 8]) (.cond (.t 8) .skip (.exit 0))) (.seq (.block 1 (.seq (.regd r93_3 [] [0, 1, 4, 20]) (.cond (.t 20) (.reg r93_4 [0, 1, 4]) .skip))) (.reg r93_2 [0, 1, 4]))) [.lp L_ref09_Book_twice_0 keep] (keepFr keep fr) h := LP_XS L_ref09_Book_twice_0 keep
def F_ref09_Book_twice : AFn := ⟨28, (.seq (.reg r93_0 [0, 1, 4]) (.block 0 (.loop L_ref09_Book_twice_0 [0, 1, 4]))), [], true⟩
/-- (*sortilege/sortilegeref09.Book).Const -/
@[go_sem] def r94_0 : OL := [m 10 0, o 11 (.nilck (t 10)), o 12 (.fa 9 (t 11)), o 13 (.load false 1 (t 12)), o 14 (.bin .plain .neq (t 13) (i 0)), m 15 14, g 16 (.mv (t 0)) 15 false, g 17 (.nilck (t 16)) 15 false, g 18 (.fa 5 (t 17)) 15 false, g 19 (.load false 1 (t 18)) 15 false, g 20 (.mv (t 1)) 15 false, g 21 (.ixa 1 (t 19) (t 20)) 15 false, g 22 (.load false 1 (t 21)) 15 false, g 23 (.bin .plain .eql (t 22) (i 2)) 15 false, o 24 (.pick (t 15) (.c (.bool true)) (t 23))]
@[go_sem] def r94_1 : OL := [m 25 0, o 26 (.nilck (t 25)), o 27 (.fa 5 (t 26)), o 28 (.load false 1 (t 27)), m 29 1, o 30 (.ixa 1 (t 28) (t 29)), s (.store 1 (t 30) (i 1))]
@[go_sem] def r94_2 : OL := [o 4 (.mv (.c (.vs [] .exact)))]
@[go_sem] def r94_3 : OL := [m 31 0, o 32 (.nilck (t 31)), o 33 (.fa 0 (t 32)), o 34 (.fa 0 (t 33)), o 35 (.load false 1 (t 34)), m 36 1, o 37 (.ixa 7 (t 35) (t 36)), o 38 (.fa 1 (t 37)), o 39 (.load true 5 (t 38)), o 40 (.call K_ref09_names [(t 39)]), m 5 40]
@[go_sem] def r94_4 : OL := [o 6 (.mv (i 0))]
@[go_sem] def r94_5 : OL := [m 41 6, m 42 5, o 43 (.lenv (t 42)), o 44 (.bin .plain .leq (t 41) (t 43))]
@[go_sem] def r94_7 : OL := [m 47 0, o 48 (.nilck (t 47)), o 49 (.fa 0 (t 48)), o 50 (.fa 0 (t 49)), o 51 (.load false 1 (t 50)), m 52 1, o 53 (.ixa 7 (t 51) (t 52)), o 54 (.fa 1 (t 53)), o 55 (.load true 5 (t 54)), m 56 4, o 57 (.call K_ref08_Eval [(t 55), (t 56)]), o 7 (.alloc [.bool false, .bool false, .int .i64 0, .int .i64 0, .int .i64 0]), s (.store 5 (t 7) (t 57))]
@[go_sem] def r94_8 : OL := [o 58 (.fa 3 (t 7)), o 59 (.load false 1 (t 58)), o 60 (.bin .plain .eql (t 59) (i 0))]
@[go_sem] def r94_9 : OL := [m 61 0, o 62 (.nilck (t 61)), o 63 (.fa 5 (t 62)), o 64 (.load false 1 (t 63)), m 65 1, o 66 (.ixa 1 (t 64) (t 65)), s (.store 1 (t 66) (i 2))]
@[go_sem] def r94_10 : DL := [.val 0 none (m 67 0), .val 1 none (o 68 (.nilck (t 67))), .val 2 none (o 69 (.fa 7 (t 68))), .val 3 none (o 70 (.load false 1 (t 69))), .val 4 none (m 71 1), .val 5 none (o 72 (.fa 0 (t 7))), .val 6 none (o 73 (.load true 3 (t 72))), .val 7 none (o 74 (.ixa 3 (t 70) (t 71))), .eff [] 8 (s (.store 3 (t 74) (t 73)))]
@[go_sem] def r94_11 : OL := [o 75 (.fa 3 (t 7)), o 76 (.load false 1 (t 75)), o 77 (.bin .plain .neq (t 76) (i 30))]
@[go_sem] def r94_12 : OL := [m 78 0, o 79 (.fa 3 (t 7)), o 80 (.load false 1 (t 79)), o 81 (.fa 4 (t 7)), o 82 (.load false 1 (t 81)), o 83 (.call K_ref09_Book_fail [(t 78), (t 80), (t 82)])]
@[go_sem] def r94_13 : OL := [o 8 (.mv (i 0))]
@[go_sem] def r94_14 : OL := [m 84 8, m 85 5, o 86 (.lenv (t 85)), o 87 (.bin .plain .lss (t 84) (t 86))]
@[go_sem] def r94_16 : DL := [.val 0 none (m 90 5), .val 1 none (m 91 8), .val 2 none (o 92 (.ixa 7 (t 90) (t 91))), .val 3 none (o 93 (.fa 6 (t 92))), .val 4 none (o 94 (.load false 1 (t 93))), .val 5 none (o 95 (.fa 4 (t 7))), .val 6 none (o 96 (.load false 1 (t 95))), .val 7 none (o 97 (.bin .plain .neq (t 94) (t 96)))]
@[go_sem] def r94_17 : DL := [.val 0 none (m 98 0), .val 1 none (o 99 (.nilck (t 98))), .val 2 none (o 100 (.fa 0 (t 99))), .val 3 none (o 101 (.fa 0 (t 100))), .val 4 none (o 102 (.load false 1 (t 101))), .val 5 none (m 103 5), .val 6 none (m 104 8), .val 7 none (o 105 (.ixa 7 (t 103) (t 104))), .val 8 none (o 106 (.fa 0 (t 105))), .val 9 none (o 107 (.load false 1 (t 106))), .eff [] 10 (o 108 (.call K_ref09_at [(t 102), (t 107)])), .val 11 none (m 9 108)]
@[go_sem] def r94_18 : OL := [m 109 9, o 110 (.bin .plain .lss (t 109) (i 0))]
@[go_sem] def r94_19 : OL := [m 111 0, o 112 (.fa 4 (t 7)), o 113 (.load false 1 (t 112)), o 114 (.call K_ref09_Book_fail [(t 111), (i 30), (t 113)])]
@[go_sem] def r94_20 : OL := [m 115 0, o 116 (.nilck (t 115)), o 117 (.fa 5 (t 116)), o 118 (.load false 1 (t 117)), m 119 9, o 120 (.ixa 1 (t 118) (t 119)), o 121 (.load false 1 (t 120)), o 122 (.bin .plain .eql (t 121) (i 1))]
@[go_sem] def r94_21 : OL := [m 123 0, o 124 (.fa 4 (t 7)), o 125 (.load false 1 (t 124)), o 126 (.call K_ref09_Book_fail [(t 123), (i 31), (t 125)])]
@[go_sem] def r94_22 : OL := [m 127 0, m 128 9, o 129 (.call K_ref09_Book_Const [(t 127), (t 128)])]
@[go_sem] def r94_23 : OL := [m 130 0, o 131 (.nilck (t 130)), o 132 (.fa 9 (t 131)), o 133 (.load false 1 (t 132)), o 134 (.bin .plain .neq (t 133) (i 0))]
@[go_sem] def r94_24 : DL := [.val 0 none (m 135 4), .val 1 none (m 136 5), .val 2 none (m 137 8), .val 3 none (o 138 (.ixa 7 (t 136) (t 137))), .val 4 none (o 139 (.fa 0 (t 138))), .val 5 none (o 140 (.load false 1 (t 139))), .val 6 none (m 141 0), .val 7 none (o 142 (.nilck (t 141))), .val 8 none (o 143 (.fa 7 (t 142))), .val 9 none (o 144 (.load false 1 (t 143))), .val 10 none (m 145 9), .val 11 none (o 146 (.ixa 3 (t 144) (t 145))), .val 12 none (o 147 (.load true 3 (t 146))), .val 13 none (o 148 (.build [.str [], .bool false, .bool false, .int .i64 0] [(0, 1, (t 140)), (1, 3, (t 147))])), .val 14 none (o 149 (.bslice [.str [], .bool false, .bool false, .int .i64 0] 1 [(0, (t 148))])), .eff [] 15 (o 150 (.append 4 (t 135) (t 149))), .val 16 none (m 4 150)]
@[go_sem] def r94_15 : OL := [m 88 8, o 89 (.bin .plain .add (t 88) (i 1)), m 8 89]
@[go_sem] def r94_6 : OL := [m 45 6, o 46 (.bin .plain .add (t 45) (i 1)), m 6 46]
def L_ref09_Book_Const_1 : AC := (.seq (.seq (.reg r94_14 [0, 1, 4, 5, 6, 7, 8, 87]) (.cond (.t 87) .skip (.exit 2))) (.seq (.block 3 (.seq (.seq (.regd r94_16 [] [0, 1, 4, 5, 6, 7, 8, 97]) (.cond (.t 97) (.exit 3) .skip)) (.seq (.regd r94_17 [] [0, 1, 4, 5, 6, 7, 8, 9]) (.seq (.seq (.reg r94_18 [0, 1, 4, 5, 6, 7, 8, 9, 110]) (.cond (.t 110) (.seq (.reg r94_19 []) .ret) .skip)) (.seq (.seq (.reg r94_20 [0, 1, 4, 5, 6, 7, 8, 9, 122]) (.cond (.t 122) (.seq (.reg r94_21 []) .ret) .skip)) (.seq (.reg r94_22 [0, 1, 4, 5, 6, 8, 9]) (.seq (.seq (.reg r94_23 [0, 1, 4, 5, 6, 8, 9, 134]) (.cond (.t 134) .ret .skip)) (.seq (.regd r94_24 [] [0, 1, 4, 5, 6]) (.exit 2))))))))) (.reg r94_15 [0, 1, 4, 5, 6, 7, 8])))
theorem L_ref09_Book_Const_1_eq {E : Env} {fr : Fr} {h : AH} (keep : List Nat) : LP E L_ref09_Book_Const_1 keep fr h = XS E (.seq (.seq (.reg r94_14 [0, 1, 4, 5, 6, 7, 8, 87]) (.cond (.t 87) .skip (.exit 2))) (.seq (.block 3 (.seq (.seq (.regd r94_16 [] [0, 1, 4, 5, 6, 7, 8, 97]) (.cond (.t 97) (.exit 3) .skip)) (.seq (.regd r94_17 [] [0, 1, 4, 5, 6, 7, 8, 9]) (.seq (.seq (.reg r94_18 [0, 1, 4, 5, 6, 7, 8, 9, 110]) (.cond (.t 110) (.seq (.reg r94_19 []) .ret) .skip)) (.seq (.seq (.reg r94_20 [0, 1, 4, 5, 6, 7, 8, 9, 122]) (.cond (.t 122) (.seq (.reg r94_21 []) .ret) .skip)) (.seq (.reg r94_22 [0, 1, 4, 5, 6, 8, 9]) (.seq (.seq (.reg r94_23 [0, 1, 4, 5, 6, 8, 9, 134]) (.cond (.t 134) .ret .skip)) (.seq (.regd r94_24 [] [0, 1, 4, 5, 6]) (.exit 2))))))))) (.reg r94_15 [0, 1, 4, 5, 6, 7, 8]))) [.lp L_ref09_Book_Const_1 keep] (keepFr keep fr) h := LP_XS L_ref09_Book_Const_1 keep
def L_ref09_Book_Const_0 : AC := (.seq (.seq (.reg r94_5 [0, 1, 4, 5, 6, 44]) (.cond (.t 44) .skip (.exit 0))) (.seq (.block 1 (.seq (.reg r94_7 [0, 1, 4, 5, 6, 7]) (.seq (.seq (.reg r94_8 [0, 1, 4, 5, 6, 7, 60]) (.cond (.t 60) (.seq (.reg r94_9 [0, 1, 7]) (.seq (.regd r94_10 [] []) .ret)) .skip)) (.seq (.seq (.reg r94_11 [0, 1, 4, 5, 6, 7, 77]) (.cond (.t 77) (.seq (.reg r94_12 []) .ret) .skip)) (.seq (.reg r94_13 [0, 1, 4, 5, 6, 7, 8]) (.block 2 (.loop L_ref09_Book_Const_1 [0, 1, 4, 5, 6, 7, 8]))))))) (.reg r94_6 [0, 1, 4, 5, 6])))
theorem L_ref09_Book_Const_0_eq {E : Env} {fr : Fr} {h : AH} (keep : List Nat) : LP E L_ref09_Book_Const_0 keep fr h = XS E (.seq (.seq (.reg r94_5 [0, 1, 4, 5, 6, 44]) (.cond (.t 44) .skip (.exit 0))) (.seq (.block 1 (.seq (.reg r94_7 [0, 1, 4, 5, 6, 7]) (.seq (.seq (.reg r94_8 [0, 1, 4, 5, 6, 7, 60]) (.cond (.t 60) (.seq (.reg r94_9 [0, 1, 7]) (.seq (.regd r94_10 [] []) .ret)) .skip)) (.seq (.seq (.reg r94_11 [0, 1, 4, 5, 6, 7, 77]) (.cond (.t 77) (.seq (.reg r94_12 []) .ret) .skip)) (.seq (.reg r94_13 [0, 1, 4, 5, 6, 7, 8]) (.block 2 (.loop L_ref09_Book_Const_1 [0, 1, 4, 5, 6, 7, 8]))))))) (.reg r94_6 [0, 1, 4, 5, 6]))) [.lp L_ref09_Book_Const_0 keep] (keepFr keep fr) h := LP_XS L_ref09_Book_Const_0 keep
def F_ref09_Book_Const : AFn := ⟨151, (.seq (.seq (.reg r94_0 [0, 1, 24]) (.cond (.t 24) .ret .skip)) (.seq (.reg r94_1 [0, 1]) (.seq (.reg r94_2 [0, 1, 4]) (.seq (.reg r94_3 [0, 1, 4, 5]) (.seq (.reg r94_4 [0, 1, 4, 5, 6]) (.block 0 (.loop L_ref09_Book_Const_0 [0, 1, 4, 5, 6]))))))), [], true⟩
/-- (*sortilege/sortilegeref09.Book).turn -/
@[go_sem] def r95_0 : OL := [o 4 (.boxv (t 1)), o 6 (.alloc [.str [], .str [], .int .i64 0, .vs [] .exact, .int .i64 0])]
@[go_sem] def r95_1 : OL := [m 14 0, o 15 (.nilck (t 14)), o 16 (.fa 9 (t 15)), o 17 (.load false 1 (t 16)), o 18 (.bin .plain .neq (t 17) (i 0))]
@[go_sem] def r95_2 : OL := [o 19 (.build [.str [], .str [], .int .i64 0, .vs [] .exact, .int .i64 0] []), s (.store 5 (t 6) (t 19))]
@[go_sem] def r95_3 : OL := [o 20 (.fa 0 (t 4)), o 21 (.load false 1 (t 20)), o 22 (.bin .plain .neq (t 21) (.c (.str [110, 97, 109, 101])))]
@[go_sem] def r95_4 : OL := [o 23 (.load true 5 (t 4)), o 7 (.alloc [.str [], .str [], .int .i64 0, .vs [] .exact, .int .i64 0]), s (.store 5 (t 7) (t 23))]
@[go_sem] def r95_5 : OL := [o 24 (.fa 3 (t 7)), s (.store 1 (t 24) (.c (.vs [] .exact)))]
@[go_sem] def r95_6 : OL := [o 8 (.mv (i 0))]
@[go_sem] def r95_7 : OL := [m 25 8, o 26 (.fa 3 (t 4)), o 27 (.load false 1 (t 26)), o 28 (.lenv (t 27)), o 29 (.bin .plain .lss (t 25) (t 28))]
@[go_sem] def r95_9 : DL := [.val 2 none (m 34 0), .val 3 none (o 35 (.fa 3 (t 4))), .val 4 none (o 36 (.load false 1 (t 35))), .val 5 none (m 37 8), .val 6 none (o 38 (.ixa 5 (t 36) (t 37))), .val 7 none (o 39 (.load true 5 (t 38))), .val 8 none (m 40 2), .eff [] 9 (o 41 (.call K_ref09_Book_turn [(t 34), (t 39), (t 40)])), .val 0 none (o 32 (.fa 3 (t 7))), .val 1 (some (0, 2)) (o 33 (.load false 1 (t 32))), .val 10 none (o 42 (.bslice [.str [], .str [], .int .i64 0, .vs [] .exact, .int .i64 0] 1 [(0, (t 41))])), .eff [] 11 (o 43 (.append 5 (t 33) (t 42))), .val 12 none (o 44 (.fa 3 (t 7))), .eff [] 13 (s (.store 1 (t 44) (t 43)))]
@[go_sem] def r95_8 : OL := [m 30 8, o 31 (.bin .plain .add (t 30) (i 1)), m 8 31]
@[go_sem] def r95_10 : OL := [o 45 (.load true 5 (t 7)), s (.store 5 (t 6) (t 45))]
@[go_sem] def r95_11 : DL := [.val 0 none (m 46 0), .val 1 none (o 47 (.nilck (t 46))), .val 2 none (o 48 (.fa 0 (t 47))), .val 3 none (o 49 (.fa 0 (t 48))), .val 4 none (o 50 (.load false 1 (t 49))), .val 5 none (o 51 (.fa 1 (t 4))), .val 6 none (o 52 (.load false 1 (t 51))), .eff [] 7 (o 53 (.call K_ref09_at [(t 50), (t 52)])), .val 8 none (m 9 53)]
@[go_sem] def r95_12 : OL := [m 54 9, o 55 (.bin .plain .geq (t 54) (i 0))]
@[go_sem] def r95_13 : OL := [m 56 0, o 57 (.nilck (t 56)), o 58 (.fa 7 (t 57)), o 59 (.load false 1 (t 58)), m 60 9, o 61 (.ixa 3 (t 59) (t 60)), o 62 (.load true 3 (t 61)), o 10 (.alloc [.bool false, .bool false, .int .i64 0]), s (.store 3 (t 10) (t 62))]
@[go_sem] def r95_14 : OL := [o 63 (.fa 0 (t 10)), o 64 (.load false 1 (t 63)), o 65 (.un .not (t 64))]
@[go_sem] def r95_15 : OL := [o 66 (.fa 2 (t 10)), o 67 (.load false 1 (t 66)), o 68 (.fa 4 (t 4)), o 69 (.load false 1 (t 68)), o 70 (.build [.str [], .str [], .int .i64 0, .vs [] .exact, .int .i64 0] [(0, 1, (.c (.str [110, 117, 109]))), (2, 1, (t 67)), (4, 1, (t 69))]), s (.store 5 (t 6) (t 70))]
@[go_sem] def r95_16 : OL := [o 71 (.fa 1 (t 10)), o 72 (.load false 1 (t 71))]
@[go_sem] def r95_17 : OL := [o 73 (.fa 4 (t 4)), o 74 (.load false 1 (t 73)), o 75 (.build [.str [], .str [], .int .i64 0, .vs [] .exact, .int .i64 0] [(0, 1, (.c (.str [116, 114, 117, 101]))), (4, 1, (t 74))]), s (.store 5 (t 6) (t 75))]
@[go_sem] def r95_18 : OL := [o 76 (.fa 4 (t 4)), o 77 (.load false 1 (t 76)), o 78 (.build [.str [], .str [], .int .i64 0, .vs [] .exact, .int .i64 0] [(0, 1, (.c (.str [102, 97, 108, 115, 101]))), (4, 1, (t 77))]), s (.store 5 (t 6) (t 78))]
@[go_sem] def r95_19 : DL := [.val 0 none (m 79 0), .val 1 none (o 80 (.nilck (t 79))), .val 2 none (o 81 (.fa 0 (t 80))), .val 3 none (o 82 (.fa 1 (t 81))), .val 4 none (o 83 (.load false 1 (t 82))), .val 5 none (o 84 (.fa 1 (t 4))), .val 6 none (o 85 (.load false 1 (t 84))), .eff [] 7 (o 86 (.call K_ref09_at [(t 83), (t 85)])), .val 8 none (m 11 86)]
@[go_sem] def r95_20 : OL := [m 87 2, m 88 87, g 89 (.mv (t 11)) 88 false, g 90 (.bin .plain .lss (t 89) (i 0)) 88 false, o 91 (.pick (t 88) (.c (.bool true)) (t 90))]
@[go_sem] def r95_21 : OL := [o 12 (.mv (i 0))]
@[go_sem] def r95_22 : OL := [m 92 12, m 93 0, o 94 (.nilck (t 93)), o 95 (.fa 4 (t 94)), o 96 (.load false 1 (t 95)), o 97 (.lenv (t 96)), o 98 (.bin .plain .lss (t 92) (t 97)), m 99 98, g 100 (.mv (t 2)) 99 true, g 101 (.un .not (t 100)) 99 true, o 102 (.pick (t 99) (t 101) (.c (.bool false)))]
@[go_sem] def r95_24 : DL := [.val 0 none (m 105 0), .val 1 none (o 106 (.nilck (t 105))), .val 2 none (o 107 (.fa 4 (t 106))), .val 3 none (o 108 (.load false 1 (t 107))), .val 4 none (m 109 12), .val 5 none (o 110 (.ixa 1 (t 108) (t 109))), .val 6 none (o 111 (.load false 1 (t 110))), .val 7 none (o 112 (.fa 1 (t 4))), .val 8 none (o 113 (.load false 1 (t 112))), .val 9 none (o 114 (.bin .plain .eql (t 111) (t 113)))]
@[go_sem] def r95_25 : OL := [o 115 (.load true 5 (t 4)), s (.store 5 (t 6) (t 115))]
@[go_sem] def r95_23 : OL := [m 103 12, o 104 (.bin .plain .add (t 103) (i 1)), m 12 104]
@[go_sem] def r95_26 : OL := [m 116 0, o 117 (.fa 4 (t 4)), o 118 (.load false 1 (t 117)), o 119 (.call K_ref09_Book_fail [(t 116), (i 30), (t 118)])]
@[go_sem] def r95_27 : OL := [o 120 (.build [.str [], .str [], .int .i64 0, .vs [] .exact, .int .i64 0] []), s (.store 5 (t 6) (t 120))]
@[go_sem] def r95_28 : OL := [m 121 0, o 122 (.nilck (t 121)), o 123 (.fa 6 (t 122)), o 124 (.load false 1 (t 123)), m 125 11, o 126 (.ixa 1 (t 124) (t 125)), o 127 (.load false 1 (t 126)), o 128 (.bin .plain .eql (t 127) (i 1))]
@[go_sem] def r95_29 : OL := [m 129 0, o 130 (.fa 4 (t 4)), o 131 (.load false 1 (t 130)), o 132 (.call K_ref09_Book_fail [(t 129), (i 31), (t 131)])]
@[go_sem] def r95_30 : OL := [o 133 (.build [.str [], .str [], .int .i64 0, .vs [] .exact, .int .i64 0] []), s (.store 5 (t 6) (t 133))]
@[go_sem] def r95_31 : OL := [m 134 0, m 135 11, o 136 (.call K_ref09_Book_Formula [(t 134), (t 135)])]
@[go_sem] def r95_32 : OL := [m 137 0, o 138 (.nilck (t 137)), o 139 (.fa 8 (t 138)), o 140 (.load false 1 (t 139)), m 141 11, o 142 (.ixa 5 (t 140) (t 141)), o 143 (.load true 5 (t 142)), o 13 (.alloc [.str [], .str [], .int .i64 0, .vs [] .exact, .int .i64 0]), s (.store 5 (t 13) (t 143))]
@[go_sem] def r95_33 : OL := [o 144 (.fa 4 (t 4)), o 145 (.load false 1 (t 144)), o 146 (.fa 4 (t 13)), s (.store 1 (t 146) (t 145))]
@[go_sem] def r95_34 : OL := [o 147 (.load true 5 (t 13)), s (.store 5 (t 6) (t 147))]
def L_ref09_Book_turn_0 : AC := (.seq (.seq (.reg r95_7 [0, 2, 4, 6, 7, 8, 29]) (.cond (.t 29) .skip (.exit 0))) (.seq (.block 1 (.regd r95_9 [] [0, 2, 4, 6, 7, 8])) (.reg r95_8 [0, 2, 4, 6, 7, 8])))
theorem L_ref09_Book_turn_0_eq {E : Env} {fr : Fr} {h : AH} (keep : List Nat) : LP E L_ref09_Book_turn_0 keep fr h = XS E (.seq (.seq (.reg r95_7 [0, 2, 4, 6, 7, 8, 29]) (.cond (.t 29) .skip (.exit 0))) (.seq (.block 1 (.regd r95_9 [] [0, 2, 4, 6, 7, 8])) (.reg r95_8 [0, 2, 4, 6, 7, 8]))) [.lp L_ref09_Book_turn_0 keep] (keepFr keep fr) h := LP_XS L_ref09_Book_turn_0 keep
def L_ref09_Book_turn_1 : AC := (.seq (.seq (.reg r95_22 [0, 2, 4, 6, 12, 102]) (.cond (.t 102) .skip (.exit 2))) (.seq (.block 3 (.seq (.regd r95_24 [] [0, 2, 4, 6, 12, 114]) (.cond (.t 114) (.seq (.reg r95_25 [6]) .ret) .skip))) (.reg r95_23 [0, 2, 4, 6, 12])))
theorem L_ref09_Book_turn_1_eq {E : Env} {fr : Fr} {h : AH} (keep : List Nat) : LP E L_ref09_Book_turn_1 keep fr h = XS E (.seq (.seq (.reg r95_22 [0, 2, 4, 6, 12, 102]) (.cond (.t 102) .skip (.exit 2))) (.seq (.block 3 (.seq (.regd r95_24 [] [0, 2, 4, 6, 12, 114]) (.cond (.t 114) (.seq (.reg r95_25 [6]) .ret) .skip))) (.reg r95_23 [0, 2, 4, 6, 12]))) [.lp L_ref09_Book_turn_1 keep] (keepFr keep fr) h := LP_XS L_ref09_Book_turn_1 keep
def F_ref09_Book_turn : AFn := ⟨148, (.seq (.reg r95_0 [0, 2, 4, 6]) (.seq (.seq (.reg r95_1 [0, 2, 4, 6, 18]) (.cond (.t 18) (.seq (.reg r95_2 [6]) .ret) .skip)) (.seq (.seq (.reg r95_3 [0, 2, 4, 6, 22]) (.cond (.t 22) (.seq (.reg r95_4 [0, 2, 4, 6, 7]) (.seq (.reg r95_5 [0, 2, 4, 6, 7]) (.seq (.seq (.reg r95_6 [0, 2, 4, 6, 7, 8]) (.block 0 (.loop L_ref09_Book_turn_0 [0, 2, 4, 6, 7, 8]))) (.seq (.reg r95_10 [6]) .ret)))) .skip)) (.seq (.regd r95_11 [] [0, 2, 4, 6, 9]) (.seq (.seq (.reg r95_12 [0, 2, 4, 6, 9, 55]) (.cond (.t 55) (.seq (.reg r95_13 [4, 6, 10]) (.seq (.seq (.reg r95_14 [4, 6, 10, 65]) (.cond (.t 65) (.seq (.reg r95_15 [6]) .ret) .skip)) (.seq (.seq (.reg r95_16 [4, 6, 72]) (.cond (.t 72) (.seq (.reg r95_17 [6]) .ret) .skip)) (.seq (.reg r95_18 [6]) .ret)))) .skip)) (.seq (.regd r95_19 [] [0, 2, 4, 6, 11]) (.seq (.seq (.reg r95_20 [0, 2, 4, 6, 11, 91]) (.cond (.t 91) (.seq (.seq (.reg r95_21 [0, 2, 4, 6, 12]) (.block 2 (.loop L_ref09_Book_turn_1 [0, 2, 4, 6, 12]))) (.seq (.reg r95_26 [6]) (.seq (.reg r95_27 [6]) .ret))) .skip)) (.seq (.seq (.reg r95_28 [0, 4, 6, 11, 128]) (.cond (.t 128) (.seq (.reg r95_29 [6]) (.seq (.reg r95_30 [6]) .ret)) .skip)) (.seq (.reg r95_31 [0, 4, 6, 11]) (.seq (.reg r95_32 [4, 6, 13]) (.seq (.reg r95_33 [6, 13]) (.seq (.reg r95_34 [6]) .ret)))))))))))), [.c 6 true 5], true⟩
/-- sortilege/sortilegeref05.Size -/
@[go_sem] def r96_0 : OL := [o 1 (.boxv (t 0)), o 2 (.mv (i 0))]
@[go_sem] def r96_1 : OL := [o 3 (.mv (i 1))]
@[go_sem] def r96_2 : OL := [o 4 (.mv (i 0))]
@[go_sem] def r96_3 : OL := [m 5 4, o 6 (.fa 3 (t 1)), o 7 (.load false 1 (t 6)), o 8 (.lenv (t 7)), o 9 (.bin .plain .lss (t 5) (t 8))]
@[go_sem] def r96_5 : OL := [m 12 3, o 13 (.fa 3 (t 1)), o 14 (.load false 1 (t 13)), m 15 4, o 16 (.ixa 5 (t 14) (t 15)), o 17 (.load true 5 (t 16)), o 18 (.call K_ref05_Size [(t 17)]), o 19 (.bin .plain .add (t 12) (t 18)), m 3 19]
@[go_sem] def r96_4 : OL := [m 10 4, o 11 (.bin .plain .add (t 10) (i 1)), m 4 11]
@[go_sem] def r96_6 : OL := [m 20 3, m 2 20]
def L_ref05_Size_0 : AC := (.seq (.seq (.reg r96_3 [1, 3, 4, 9]) (.cond (.t 9) .skip (.exit 0))) (.seq (.block 1 (.reg r96_5 [1, 3, 4])) (.reg r96_4 [1, 3, 4])))
theorem L_ref05_Size_0_eq {E : Env} {fr : Fr} {h : AH} (keep : List Nat) : LP E L_ref05_Size_0 keep fr h = XS E (.seq (.seq (.reg r96_3 [1, 3, 4, 9]) (.cond (.t 9) .skip (.exit 0))) (.seq (.block 1 (.reg r96_5 [1, 3, 4])) (.reg r96_4 [1, 3, 4]))) [.lp L_ref05_Size_0 keep] (keepFr keep fr) h := LP_XS L_ref05_Size_0 keep
def F_ref05_Size : AFn := ⟨21, (.seq (.reg r96_0 [1]) (.seq (.reg r96_1 [1, 3]) (.seq (.seq (.reg r96_2 [1, 3, 4]) (.block 0 (.loop L_ref05_Size_0 [1, 3, 4]))) (.seq (.reg r96_6 [2]) .ret)))), [.t 2], true⟩
/-- (*sortilege/sortilegeref09.Book).fail -/
@[go_sem] def r97_0 : OL := [m 6 0, o 7 (.nilck (t 6)), o 8 (.fa 9 (t 7)), o 9 (.load false 1 (t 8)), o 10 (.bin .plain .eql (t 9) (i 0))]
@[go_sem] def r97_1 : OL := [m 11 0, m 12 1, o 13 (.nilck (t 11)), o 14 (.fa 9 (t 13)), s (.store 1 (t 14) (t 12))]
@[go_sem] def r97_2 : OL := [m 15 0, m 16 2, o 17 (.nilck (t 15)), o 18 (.fa 10 (t 17)), s (.store 1 (t 18) (t 16))]
def F_ref09_Book_fail : AFn := ⟨19, (.seq (.reg r97_0 [0, 1, 2, 10]) (.cond (.t 10) (.seq (.reg r97_1 [0, 2]) (.reg r97_2 [])) .skip)), [], true⟩
/-- sortilege/sortilegeref08.truth -/
@[go_sem] def r98_0 : OL := [o 2 (.alloc [.bool false, .bool false, .int .i64 0, .int .i64 0, .int .i64 0])]
@[go_sem] def r98_1 : OL := [m 3 0, o 4 (.build [.bool false, .bool false, .int .i64 0] [(0, 1, (.c (.bool true))), (1, 1, (t 3))]), o 5 (.build [.bool false, .bool false, .int .i64 0, .int .i64 0, .int .i64 0] [(0, 3, (t 4))]), s (.store 5 (t 2) (t 5))]
def F_ref08_truth : AFn := ⟨6, (.seq (.reg r98_0 [0, 2]) (.seq (.reg r98_1 [2]) .ret)), [.c 2 true 5], true⟩
/-- sortilege/sortilegeref08.wrong -/
@[go_sem] def r99_0 : OL := [o 2 (.boxv (t 0)), o 4 (.alloc [.bool false, .bool false, .int .i64 0, .int .i64 0, .int .i64 0])]
@[go_sem] def r99_1 : OL := [m 5 1, o 6 (.fa 4 (t 2)), o 7 (.load false 1 (t 6)), o 8 (.build [.bool false, .bool false, .int .i64 0, .int .i64 0, .int .i64 0] [(3, 1, (t 5)), (4, 1, (t 7))]), s (.store 5 (t 4) (t 8))]
def F_ref08_wrong : AFn := ⟨9, (.seq (.reg r99_0 [1, 2, 4]) (.seq (.reg r99_1 [4]) .ret)), [.c 4 true 5], true⟩
/-- sortilege/sortilegeref08.must -/
@[go_sem] def r100_0 : OL := [o 3 (.boxv (t 0)), o 6 (.alloc [.bool false, .bool false, .int .i64 0, .int .i64 0, .int .i64 0])]
@[go_sem] def r100_1 : OL := [o 8 (.load true 5 (t 3)), m 9 1, o 10 (.call K_ref08_Eval [(t 8), (t 9)]), o 7 (.alloc [.bool false, .bool false, .int .i64 0, .int .i64 0, .int .i64 0]), s (.store 5 (t 7) (t 10))]
@[go_sem] def r100_2 : OL := [o 11 (.fa 3 (t 7)), o 12 (.load false 1 (t 11)), o 13 (.bin .plain .eql (t 12) (i 0)), m 14 13, g 15 (.fa 0 (t 7)) 14 true, g 16 (.fa 0 (t 15)) 14 true, g 17 (.load false 1 (t 16)) 14 true, g 18 (.mv (t 2)) 14 true, g 19 (.bin .bool .neq (t 17) (t 18)) 14 true, o 20 (.pick (t 14) (t 19) (.c (.bool false)))]
@[go_sem] def r100_3 : OL := [o 21 (.load true 5 (t 3)), o 22 (.call K_ref08_wrong [(t 21), (i 32)]), s (.store 5 (t 6) (t 22))]
@[go_sem] def r100_4 : OL := [o 23 (.load true 5 (t 7)), s (.store 5 (t 6) (t 23))]
def F_ref08_must : AFn := ⟨24, (.seq (.reg r100_0 [1, 2, 3, 6]) (.seq (.reg r100_1 [2, 3, 6, 7]) (.seq (.seq (.reg r100_2 [3, 6, 7, 20]) (.cond (.t 20) (.seq (.reg r100_3 [6]) .ret) .skip)) (.seq (.reg r100_4 [6]) .ret)))), [.c 6 true 5], true⟩
/-- sortilege/sortilegeref08.sum -/
@[go_sem] def r101_0 : OL := [o 4 (.boxv (t 0)), o 8 (.alloc [.bool false, .bool false, .int .i64 0, .int .i64 0, .int .i64 0])]
@[go_sem] def r101_1 : OL := [o 9 (.mv (i 0))]
@[go_sem] def r101_2 : OL := [o 10 (.mv (.c (.bool true)))]
@[go_sem] def r101_3 : OL := [m 11 1]
@[go_sem] def r101_5 : OL := [o 19 (.bin .plain .eql (t 11) (.c (.str [60]))), m 18 19]
@[go_sem] def r101_6 : OL := [m 20 2, m 21 3, o 22 (.bin .plain .lss (t 20) (t 21)), o 23 (.call K_ref08_truth [(t 22)]), s (.store 5 (t 8) (t 23))]
@[go_sem] def r101_7 : OL := [o 25 (.bin .plain .eql (t 11) (.c (.str [60, 61]))), m 24 25]
@[go_sem] def r101_8 : OL := [m 26 2, m 27 3, o 28 (.bin .plain .leq (t 26) (t 27)), o 29 (.call K_ref08_truth [(t 28)]), s (.store 5 (t 8) (t 29))]
@[go_sem] def r101_9 : OL := [o 31 (.bin .plain .eql (t 11) (.c (.str [62]))), m 30 31]
@[go_sem] def r101_10 : OL := [m 32 2, m 33 3, o 34 (.bin .plain .gtr (t 32) (t 33)), o 35 (.call K_ref08_truth [(t 34)]), s (.store 5 (t 8) (t 35))]
@[go_sem] def r101_11 : OL := [o 37 (.bin .plain .eql (t 11) (.c (.str [62, 61]))), m 36 37]
@[go_sem] def r101_12 : OL := [m 38 2, m 39 3, o 40 (.bin .plain .geq (t 38) (t 39)), o 41 (.call K_ref08_truth [(t 40)]), s (.store 5 (t 8) (t 41))]
@[go_sem] def r101_13 : OL := [o 43 (.bin .plain .eql (t 11) (.c (.str [43]))), m 42 43]
@[go_sem] def r101_14 : OL := [m 45 2, m 46 3, o 47 (.call K_ref03_Add [(t 45), (t 46)]), m 44 47, o 48 (.extr (t 44) 0), o 49 (.extr (t 44) 1), m 9 48, m 10 49]
@[go_sem] def r101_15 : OL := [o 51 (.bin .plain .eql (t 11) (.c (.str [45]))), m 50 51]
@[go_sem] def r101_16 : OL := [m 53 2, m 54 3, o 55 (.call K_ref03_Sub [(t 53), (t 54)]), m 52 55, o 56 (.extr (t 52) 0), o 57 (.extr (t 52) 1), m 9 56, m 10 57]
@[go_sem] def r101_4 : OL := [m 13 2, m 14 3, o 15 (.call K_ref03_Mul [(t 13), (t 14)]), m 12 15, o 16 (.extr (t 12) 0), o 17 (.extr (t 12) 1), m 9 16, m 10 17]
@[go_sem] def r101_17 : OL := [m 58 10, o 59 (.un .not (t 58))]
@[go_sem] def r101_18 : OL := [o 60 (.load true 5 (t 4)), o 61 (.call K_ref08_wrong [(t 60), (i 10)]), s (.store 5 (t 8) (t 61))]
@[go_sem] def r101_19 : OL := [m 62 9, o 63 (.build [.bool false, .bool false, .int .i64 0] [(2, 1, (t 62))]), o 64 (.build [.bool false, .bool false, .int .i64 0, .int .i64 0, .int .i64 0] [(0, 3, (t 63))]), s (.store 5 (t 8) (t 64))]
def F_ref08_sum : AFn := ⟨65, (.seq (.reg r101_0 [1, 2, 3, 4, 8]) (.seq (.reg r101_1 [1, 2, 3, 4, 8]) (.seq (.reg r101_2 [1, 2, 3, 4, 8]) (.seq (.seq (.reg r101_3 [2, 3, 4, 8, 11]) (.block 0 (.seq (.reg r101_5 [2, 3, 4, 8, 11, 18]) (.cond (.t 18) (.seq (.reg r101_6 [8]) .ret) (.seq (.reg r101_7 [2, 3, 4, 8, 11, 24]) (.cond (.t 24) (.seq (.reg r101_8 [8]) .ret) (.seq (.reg r101_9 [2, 3, 4, 8, 11, 30]) (.cond (.t 30) (.seq (.reg r101_10 [8]) .ret) (.seq (.reg r101_11 [2, 3, 4, 8, 11, 36]) (.cond (.t 36) (.seq (.reg r101_12 [8]) .ret) (.seq (.reg r101_13 [2, 3, 4, 8, 11, 42]) (.cond (.t 42) (.reg r101_14 [4, 8, 9, 10]) (.seq (.reg r101_15 [2, 3, 4, 8, 50]) (.cond (.t 50) (.reg r101_16 [4, 8, 9, 10]) (.reg r101_4 [4, 8, 9, 10]))))))))))))))) (.seq (.seq (.reg r101_17 [4, 8, 9, 59]) (.cond (.t 59) (.seq (.reg r101_18 [8]) .ret) .skip)) (.seq (.reg r101_19 [8]) .ret)))))), [.c 8 true 5], true⟩
/-- strings.HasPrefix -/
@[go_sem] def r105_0 : OL := [o 4 (.mv (.c (.bool false)))]
@[go_sem] def r105_1 : OL := [m 5 0, m 6 1, o 7 (.call K_internal_stringslite_HasPrefix [(t 5), (t 6)]), m 4 7]
def F_strings_HasPrefix : AFn := ⟨8, (.seq (.reg r105_0 [0, 1]) (.seq (.reg r105_1 [4]) .ret)), [.t 4], true⟩
/-- strings.Cut -/
@[go_sem] def r106_0 : OL := [o 4 (.mv (.c (.str []))), o 5 (.mv (.c (.str []))), o 6 (.mv (.c (.bool false)))]
@[go_sem] def r106_1 : OL := [m 7 0, m 8 1, o 9 (.call K_internal_stringslite_Cut [(t 7), (t 8)]), o 10 (.extr (t 9) 0), o 11 (.extr (t 9) 1), o 12 (.extr (t 9) 2), m 4 10, m 5 11, m 6 12]
def F_strings_Cut : AFn := ⟨13, (.seq (.reg r106_0 [0, 1]) (.seq (.reg r106_1 [4, 5, 6]) .ret)), [.t 4, .t 5, .t 6], true⟩
/-- sortilege/scan.kind -/
@[go_sem] def r107_0 : OL := [o 2 (.mv (i 0))]
@[go_sem] def r107_1 : OL := [m 4 0, o 5 (.bin .plain .geq (t 4) (.c (.int .u8 97))), m 6 5, g 7 (.mv (t 0)) 6 true, g 8 (.bin .plain .leq (t 7) (.c (.int .u8 122))) 6 true, o 9 (.pick (t 6) (t 8) (.c (.bool false))), m 3 9]
@[go_sem] def r107_2 : OL := [m 11 0, o 12 (.bin .plain .geq (t 11) (.c (.int .u8 65))), m 13 12, g 14 (.mv (t 0)) 13 true, g 15 (.bin .plain .leq (t 14) (.c (.int .u8 90))) 13 true, o 16 (.pick (t 13) (t 15) (.c (.bool false))), m 10 16]
@[go_sem] def r107_3 : OL := [m 18 0, o 19 (.bin .plain .eql (t 18) (.c (.int .u8 95))), m 17 19]
@[go_sem] def r107_4 : OL := [m 21 0, o 22 (.bin .plain .geq (t 21) (.c (.int .u8 48))), m 23 22, g 24 (.mv (t 0)) 23 true, g 25 (.bin .plain .leq (t 24) (.c (.int .u8 57))) 23 true, o 26 (.pick (t 23) (t 25) (.c (.bool false))), m 20 26]
@[go_sem] def r107_5 : OL := [m 28 0, o 29 (.bin .plain .eql (t 28) (.c (.int .u8 34))), m 27 29]
@[go_sem] def r107_6 : OL := [m 31 0, o 32 (.call K_strings_IndexByte [(.c (.str [45, 60, 62, 33, 61, 46, 91, 93, 40, 41, 58, 59, 44, 43, 42, 38, 124, 63, 39])), (t 31)]), o 33 (.bin .plain .geq (t 32) (i 0)), m 30 33]
@[go_sem] def r107_7 : OL := [o 2 (.mv (i 1))]
@[go_sem] def r107_8 : OL := [o 2 (.mv (i 2))]
@[go_sem] def r107_9 : OL := [o 2 (.mv (i 3))]
@[go_sem] def r107_10 : OL := [o 2 (.mv (i 4))]
@[go_sem] def r107_11 : OL := [o 2 (.mv (i (-1)))]
def F_scan_kind : AFn := ⟨34, (.seq (.reg r107_0 [0]) (.seq (.block 0 (.seq (.block 6 (.seq (.block 5 (.seq (.block 4 (.seq (.block 3 (.block 2 (.block 1 (.seq (.seq (.seq (.reg r107_1 [0, 3]) (.cond (.t 3) (.exit 1) .skip)) (.seq (.seq (.reg r107_2 [0, 10]) (.cond (.t 10) (.exit 2) .skip)) (.seq (.seq (.reg r107_3 [0, 17]) (.cond (.t 17) (.exit 3) .skip)) (.seq (.seq (.reg r107_4 [0, 20]) (.cond (.t 20) (.exit 4) .skip)) (.seq (.seq (.reg r107_5 [0, 27]) (.cond (.t 27) (.exit 5) .skip)) (.seq (.reg r107_6 [30]) (.cond (.t 30) (.exit 6) .skip))))))) (.exit 0))))) (.seq (.seq (.reg r107_7 [2]) .ret) (.exit 0)))) (.seq (.seq (.reg r107_8 [2]) .ret) (.exit 0)))) (.seq (.seq (.reg r107_9 [2]) .ret) (.exit 0)))) (.seq (.seq (.reg r107_10 [2]) .ret) (.exit 0)))) (.seq (.reg r107_11 [2]) .ret))), [.t 2], true⟩
/-- sortilege/scan.run -/
@[go_sem] def r108_0 : OL := [o 6 (.mv (i 0))]
@[go_sem] def r108_1 : OL := [o 7 (.mv (i 0))]
@[go_sem] def r108_2 : OL := [m 8 1, m 9 7, o 10 (.bin .plain .add (t 8) (t 9)), m 11 0, o 12 (.lens (t 11)), o 13 (.bin .plain .lss (t 10) (t 12)), m 14 13, g 15 (.mv (t 2)) 14 true, g 16 (.mv (t 0)) 14 true, g 17 (.mv (t 1)) 14 true, g 18 (.mv (t 7)) 14 true, g 19 (.bin .plain .add (t 17) (t 18)) 14 true, g 20 (.ix (t 16) (t 19)) 14 true, g 21 (.call K_scan_kind [(t 20)]) 14 true, g 22 (.callv (t 15) [(t 21)]) 14 true, o 23 (.pick (t 14) (t 22) (.c (.bool false)))]
@[go_sem] def r108_3 : OL := [m 24 7, o 25 (.bin .plain .add (t 24) (i 1)), m 7 25]
@[go_sem] def r108_4 : OL := [m 26 7, m 6 26]
def L_scan_run_0 : AC := (.seq (.seq (.reg r108_2 [0, 1, 2, 7, 23]) (.cond (.t 23) .skip (.exit 0))) (.block 1 (.reg r108_3 [0, 1, 2, 7])))
theorem L_scan_run_0_eq {E : Env} {fr : Fr} {h : AH} (keep : List Nat) : LP E L_scan_run_0 keep fr h = XS E (.seq (.seq (.reg r108_2 [0, 1, 2, 7, 23]) (.cond (.t 23) .skip (.exit 0))) (.block 1 (.reg r108_3 [0, 1, 2, 7]))) [.lp L_scan_run_0 keep] (keepFr keep fr) h := LP_XS L_scan_run_0 keep
def F_scan_run : AFn := ⟨27, (.seq (.reg r108_0 [0, 1, 2]) (.seq (.reg r108_1 [0, 1, 2, 7]) (.seq (.block 0 (.loop L_scan_run_0 [0, 1, 2, 7])) (.seq (.reg r108_4 [6]) .ret)))), [.t 6], true⟩
/-- sortilege/scan.one$1 -/
@[go_sem] def r109_0 : OL := [o 2 (.mv (.c (.bool false)))]
@[go_sem] def r109_1 : OL := [m 3 0, o 4 (.bin .plain .eql (t 3) (i 1)), m 5 4, g 6 (.mv (t 0)) 5 false, g 7 (.bin .plain .eql (t 6) (i 2)) 5 false, o 8 (.pick (t 5) (.c (.bool true)) (t 7)), m 2 8]
def F_scan_one_1 : AFn := ⟨9, (.seq (.reg r109_0 [0]) (.seq (.reg r109_1 [2]) .ret)), [.t 2], true⟩
/-- sortilege/scan.one$2 -/
@[go_sem] def r110_0 : OL := [o 2 (.mv (.c (.bool false)))]
@[go_sem] def r110_1 : OL := [m 3 0, o 4 (.bin .plain .eql (t 3) (i 2)), m 2 4]
def F_scan_one_2 : AFn := ⟨5, (.seq (.reg r110_0 [0]) (.seq (.reg r110_1 [2]) .ret)), [.t 2], true⟩
/-- sortilege/scan.digits -/
@[go_sem] def r111_0 : OL := [o 2 (.mv (i 0)), o 3 (.mv (.c (.bool false)))]
@[go_sem] def r111_1 : OL := [o 4 (.mv (i 0))]
@[go_sem] def r111_2 : OL := [m 7 0, o 8 (.lens (t 7)), o 9 (.mv (i 0))]
@[go_sem] def r111_3 : OL := [o 10 (.bin .plain .lss (t 9) (t 8))]
@[go_sem] def r111_4 : OL := [m 11 9, m 5 11]
@[go_sem] def r111_5 : OL := [m 12 0, m 13 5, o 14 (.ix (t 12) (t 13)), o 15 (.bin .plain .sub (t 14) (.c (.int .u8 48))), o 16 (.conv .i64 (t 15)), m 6 16]
@[go_sem] def r111_6 : OL := [m 17 4, m 18 6, o 19 (.bin .plain .sub (i 9223372036854775807) (t 18)), o 20 (.bin .plain .quo (t 19) (i 10)), o 21 (.bin .plain .gtr (t 17) (t 20))]
@[go_sem] def r111_7 : OL := [o 2 (.mv (i 0)), o 3 (.mv (.c (.bool false)))]
@[go_sem] def r111_8 : OL := [m 22 4, o 23 (.bin .plain .mul (i 10) (t 22)), m 24 6, o 25 (.bin .plain .add (t 23) (t 24)), m 4 25]
@[go_sem] def r111_9 : OL := [o 26 (.bin .plain .add (t 9) (i 1)), m 9 26]
@[go_sem] def r111_10 : OL := [m 27 4, m 2 27, o 3 (.mv (.c (.bool true)))]
def L_scan_digits_0 : AC := (.seq (.reg r111_3 [0, 4, 8, 9, 10]) (.seq (.cond (.t 10) .skip (.exit 0)) (.seq (.block 1 (.seq (.reg r111_4 [0, 4, 5, 8, 9]) (.seq (.reg r111_5 [0, 4, 6, 8, 9]) (.seq (.seq (.reg r111_6 [0, 4, 6, 8, 9, 21]) (.cond (.t 21) (.seq (.reg r111_7 [2, 3]) .ret) .skip)) (.reg r111_8 [0, 4, 8, 9]))))) (.reg r111_9 [0, 4, 8, 9]))))
theorem L_scan_digits_0_eq {E : Env} {fr : Fr} {h : AH} (keep : List Nat) : LP E L_scan_digits_0 keep fr h = XS E (.seq (.reg r111_3 [0, 4, 8, 9, 10]) (.seq (.cond (.t 10) .skip (.exit 0)) (.seq (.block 1 (.seq (.reg r111_4 [0, 4, 5, 8, 9]) (.seq (.reg r111_5 [0, 4, 6, 8, 9]) (.seq (.seq (.reg r111_6 [0, 4, 6, 8, 9, 21]) (.cond (.t 21) (.seq (.reg r111_7 [2, 3]) .ret) .skip)) (.reg r111_8 [0, 4, 8, 9]))))) (.reg r111_9 [0, 4, 8, 9])))) [.lp L_scan_digits_0 keep] (keepFr keep fr) h := LP_XS L_scan_digits_0 keep
def F_scan_digits : AFn := ⟨28, (.seq (.reg r111_0 [0]) (.seq (.reg r111_1 [0, 4]) (.seq (.seq (.reg r111_2 [0, 4, 8, 9]) (.block 0 (.loop L_scan_digits_0 [0, 4, 8, 9]))) (.seq (.reg r111_10 [2, 3]) .ret)))), [.t 2, .t 3], true⟩
/-- sortilege/scan.wrong -/
@[go_sem] def r112_0 : OL := [o 4 (.mv (.c .nili))]
@[go_sem] def r112_1 : OL := [m 5 0, m 6 1, o 7 (.build [.int .i64 0, .nili] [(0, 1, (t 5)), (1, 1, (t 6))]), o 8 (.boxv (t 7)), o 9 (.mkI T_P_api_At (t 8)), m 4 9]
def F_scan_wrong : AFn := ⟨10, (.seq (.reg r112_0 [0, 1]) (.seq (.reg r112_1 [4]) .ret)), [.t 4], true⟩
/-- sortilege/scan.quoted -/
@[go_sem] def r113_0 : OL := [o 2 (.mv (i 0))]
@[go_sem] def r113_1 : OL := [m 5 0, o 6 (.slcs (t 5) (some (i 1)) none), o 7 (.call K_strings_IndexByte [(t 6), (.c (.int .u8 34))]), m 3 7]
@[go_sem] def r113_2 : OL := [m 8 3, o 9 (.bin .plain .lss (t 8) (i 1)), m 10 9, g 11 (.mv (t 3)) 10 false, g 12 (.bin .plain .gtr (t 11) (i 32)) 10 false, o 13 (.pick (t 10) (.c (.bool true)) (t 12))]
@[go_sem] def r113_3 : OL := [o 2 (.mv (i 0))]
@[go_sem] def r113_4 : OL := [o 4 (.mv (i 1))]
@[go_sem] def r113_5 : OL := [m 14 4, m 15 3, o 16 (.bin .plain .leq (t 14) (t 15))]
@[go_sem] def r113_7 : OL := [m 19 0, m 20 4, o 21 (.ix (t 19) (t 20)), o 22 (.bin .plain .lss (t 21) (.c (.int .u8 32))), m 23 22, g 24 (.mv (t 0)) 23 false, g 25 (.mv (t 4)) 23 false, g 26 (.ix (t 24) (t 25)) 23 false, g 27 (.bin .plain .gtr (t 26) (.c (.int .u8 126))) 23 false, o 28 (.pick (t 23) (.c (.bool true)) (t 27))]
@[go_sem] def r113_8 : OL := [o 2 (.mv (i 0))]
@[go_sem] def r113_6 : OL := [m 17 4, o 18 (.bin .plain .add (t 17) (i 1)), m 4 18]
@[go_sem] def r113_9 : OL := [m 29 3, o 30 (.bin .plain .add (t 29) (i 2)), m 2 30]
def L_scan_quoted_0 : AC := (.seq (.seq (.reg r113_5 [0, 3, 4, 16]) (.cond (.t 16) .skip (.exit 0))) (.seq (.block 1 (.seq (.reg r113_7 [0, 3, 4, 28]) (.cond (.t 28) (.seq (.reg r113_8 [2]) .ret) .skip))) (.reg r113_6 [0, 3, 4])))
theorem L_scan_quoted_0_eq {E : Env} {fr : Fr} {h : AH} (keep : List Nat) : LP E L_scan_quoted_0 keep fr h = XS E (.seq (.seq (.reg r113_5 [0, 3, 4, 16]) (.cond (.t 16) .skip (.exit 0))) (.seq (.block 1 (.seq (.reg r113_7 [0, 3, 4, 28]) (.cond (.t 28) (.seq (.reg r113_8 [2]) .ret) .skip))) (.reg r113_6 [0, 3, 4]))) [.lp L_scan_quoted_0 keep] (keepFr keep fr) h := LP_XS L_scan_quoted_0 keep
def F_scan_quoted : AFn := ⟨31, (.seq (.reg r113_0 [0]) (.seq (.reg r113_1 [0, 3]) (.seq (.seq (.reg r113_2 [0, 3, 13]) (.cond (.t 13) (.seq (.reg r113_3 [2]) .ret) .skip)) (.seq (.seq (.reg r113_4 [0, 3, 4]) (.block 0 (.loop L_scan_quoted_0 [0, 3, 4]))) (.seq (.reg r113_9 [2]) .ret))))), [.t 2], true⟩
/-- sortilege/scan.mark -/
@[go_sem] def r114_0 : OL := [o 2 (.mv (i 0))]
@[go_sem] def r114_1 : OL := [o 5 (.build [.str [], .str [], .str [], .str [], .str [], .str []] [(0, 1, (.c (.str [45, 62]))), (1, 1, (.c (.str [60, 61]))), (2, 1, (.c (.str [62, 61]))), (3, 1, (.c (.str [33, 61]))), (4, 1, (.c (.str [61, 62]))), (5, 1, (.c (.str [46, 46])))]), o 6 (.mv (i 0))]
@[go_sem] def r114_2 : OL := [o 7 (.bin .plain .lss (t 6) (i 6))]
@[go_sem] def r114_3 : OL := [o 8 (.ixagg false 6 1 (t 5) (t 6)), m 4 8]
@[go_sem] def r114_4 : OL := [m 9 0, m 10 4, o 11 (.call K_strings_HasPrefix [(t 9), (t 10)])]
@[go_sem] def r114_5 : OL := [m 12 4, o 13 (.lens (t 12)), m 2 13]
@[go_sem] def r114_6 : OL := [o 14 (.bin .plain .add (t 6) (i 1)), m 6 14]
@[go_sem] def r114_7 : OL := [m 15 0, o 16 (.ix (t 15) (i 0)), o 17 (.bin .plain .eql (t 16) (.c (.int .u8 46)))]
@[go_sem] def r114_8 : OL := [o 2 (.mv (i 0))]
@[go_sem] def r114_9 : OL := [o 2 (.mv (i 1))]
def L_scan_mark_0 : AC := (.seq (.reg r114_2 [0, 5, 6, 7]) (.seq (.cond (.t 7) .skip (.exit 0)) (.seq (.block 1 (.seq (.reg r114_3 [0, 4, 5, 6]) (.seq (.reg r114_4 [0, 4, 5, 6, 11]) (.cond (.t 11) (.seq (.reg r114_5 [2]) .ret) .skip)))) (.reg r114_6 [0, 5, 6]))))
theorem L_scan_mark_0_eq {E : Env} {fr : Fr} {h : AH} (keep : List Nat) : LP E L_scan_mark_0 keep fr h = XS E (.seq (.reg r114_2 [0, 5, 6, 7]) (.seq (.cond (.t 7) .skip (.exit 0)) (.seq (.block 1 (.seq (.reg r114_3 [0, 4, 5, 6]) (.seq (.reg r114_4 [0, 4, 5, 6, 11]) (.cond (.t 11) (.seq (.reg r114_5 [2]) .ret) .skip)))) (.reg r114_6 [0, 5, 6])))) [.lp L_scan_mark_0 keep] (keepFr keep fr) h := LP_XS L_scan_mark_0 keep
def F_scan_mark : AFn := ⟨18, (.seq (.reg r114_0 [0]) (.seq (.seq (.reg r114_1 [0, 5, 6]) (.block 0 (.loop L_scan_mark_0 [0, 5, 6]))) (.seq (.seq (.reg r114_7 [17]) (.cond (.t 17) (.seq (.reg r114_8 [2]) .ret) .skip)) (.seq (.reg r114_9 [2]) .ret)))), [.t 2], true⟩
/-- (*sortilege/expr.parser).chain -/
@[go_sem] def r115_0 : OL := [o 6 (.alloc [.str [], .str [], .int .i64 0, .vs [] .exact, .int .i64 0]), o 7 (.mv (.c .nili))]
@[go_sem] def r115_1 : OL := [m 14 0, m 15 1, m 16 2, o 17 (.call K_expr_parser_part [(t 14), (t 15), (t 16)]), m 13 17, o 18 (.extr (t 13) 0), o 19 (.extr (t 13) 1), o 8 (.alloc [.str [], .str [], .int .i64 0, .vs [] .exact, .int .i64 0]), s (.store 5 (t 8) (t 18)), m 9 19]
@[go_sem] def r115_2 : OL := [m 20 9, o 21 (.bin .iface .neq (t 20) (.c .nili))]
@[go_sem] def r115_3 : OL := [o 22 (.build [.str [], .str [], .int .i64 0, .vs [] .exact, .int .i64 0] []), m 23 9, s (.store 5 (t 6) (t 22)), m 7 23]
@[go_sem] def r115_4 : OL := [m 24 0, m 25 1, o 26 (.call K_expr_parser_sign [(t 24), (t 25)]), m 10 26]
@[go_sem] def r115_5 : OL := [m 27 10, o 28 (.bin .plain .eql (t 27) (.c (.str [])))]
@[go_sem] def r115_6 : OL := [o 29 (.load true 5 (t 8)), s (.store 5 (t 6) (t 29)), o 7 (.mv (.c .nili))]
@[go_sem] def r115_7 : OL := [m 31 0, m 32 1, m 33 2, o 34 (.call K_expr_parser_part [(t 31), (t 32), (t 33)]), m 30 34, o 35 (.extr (t 30) 0), o 36 (.extr (t 30) 1), o 11 (.alloc [.str [], .str [], .int .i64 0, .vs [] .exact, .int .i64 0]), s (.store 5 (t 11) (t 35)), m 12 36]
@[go_sem] def r115_8 : OL := [m 37 12, o 38 (.bin .iface .neq (t 37) (.c .nili))]
@[go_sem] def r115_9 : OL := [o 39 (.build [.str [], .str [], .int .i64 0, .vs [] .exact, .int .i64 0] []), m 40 12, s (.store 5 (t 6) (t 39)), m 7 40]
@[go_sem] def r115_10 : OL := [m 41 10, o 42 (.load true 5 (t 8)), o 43 (.load true 5 (t 11)), o 44 (.call K_expr_two [(t 41), (t 42), (t 43)]), s (.store 5 (t 8) (t 44))]
def L_expr_parser_chain_0 : AC := (.block 1 (.seq (.reg r115_4 [0, 1, 2, 6, 8, 10]) (.seq (.seq (.reg r115_5 [0, 1, 2, 6, 8, 10, 28]) (.cond (.t 28) (.seq (.reg r115_6 [6, 7]) .ret) .skip)) (.seq (.reg r115_7 [0, 1, 2, 6, 8, 10, 11, 12]) (.seq (.seq (.reg r115_8 [0, 1, 2, 6, 8, 10, 11, 12, 38]) (.cond (.t 38) (.seq (.reg r115_9 [6, 7]) .ret) .skip)) (.reg r115_10 [0, 1, 2, 6, 8]))))))
theorem L_expr_parser_chain_0_eq {E : Env} {fr : Fr} {h : AH} (keep : List Nat) : LP E L_expr_parser_chain_0 keep fr h = XS E (.block 1 (.seq (.reg r115_4 [0, 1, 2, 6, 8, 10]) (.seq (.seq (.reg r115_5 [0, 1, 2, 6, 8, 10, 28]) (.cond (.t 28) (.seq (.reg r115_6 [6, 7]) .ret) .skip)) (.seq (.reg r115_7 [0, 1, 2, 6, 8, 10, 11, 12]) (.seq (.seq (.reg r115_8 [0, 1, 2, 6, 8, 10, 11, 12, 38]) (.cond (.t 38) (.seq (.reg r115_9 [6, 7]) .ret) .skip)) (.reg r115_10 [0, 1, 2, 6, 8])))))) [.lp L_expr_parser_chain_0 keep] (keepFr keep fr) h := LP_XS L_expr_parser_chain_0 keep
def F_expr_parser_chain : AFn := ⟨45, (.seq (.reg r115_0 [0, 1, 2, 6]) (.seq (.reg r115_1 [0, 1, 2, 6, 8, 9]) (.seq (.seq (.reg r115_2 [0, 1, 2, 6, 8, 9, 21]) (.cond (.t 21) (.seq (.reg r115_3 [6, 7]) .ret) .skip)) (.block 0 (.loop L_expr_parser_chain_0 [0, 1, 2, 6, 8]))))), [.c 6 true 5, .t 7], true⟩
/-- (*sortilege/expr.parser).deep -/
@[go_sem] def r116_0 : OL := [o 4 (.mv (.c .nili))]
@[go_sem] def r116_1 : OL := [m 5 1, m 6 0, o 7 (.nilck (t 6)), o 8 (.fa 1 (t 7)), o 9 (.load false 1 (t 8)), o 10 (.bin .plain .gtr (t 5) (t 9))]
@[go_sem] def r116_2 : OL := [m 11 0, o 12 (.nilck (t 11)), o 13 (.fa 0 (t 12)), o 14 (.load false 1 (t 13)), o 15 (.call K_scan_Reader_Peek [(t 14)]), o 16 (.fld false 2 1 (t 15)), o 17 (.mkI T_api_Errno (i 21)), o 18 (.build [.int .i64 0, .nili] [(0, 1, (t 16)), (1, 1, (t 17))]), o 19 (.boxv (t 18)), o 20 (.mkI T_P_api_At (t 19)), m 4 20]
@[go_sem] def r116_3 : OL := [o 4 (.mv (.c .nili))]
def F_expr_parser_deep : AFn := ⟨21, (.seq (.reg r116_0 [0, 1]) (.seq (.seq (.reg r116_1 [0, 10]) (.cond (.t 10) (.seq (.reg r116_2 [4]) .ret) .skip)) (.seq (.reg r116_3 [4]) .ret))), [.t 4], true⟩
/-- sortilege/expr.two -/
@[go_sem] def r117_0 : OL := [o 4 (.boxv (t 1)), o 5 (.boxv (t 2)), o 6 (.alloc [.str [], .str [], .int .i64 0, .vs [] .exact, .int .i64 0])]
@[go_sem] def r117_1 : OL := [m 7 0, o 8 (.load true 5 (t 4)), o 9 (.load true 5 (t 5)), o 10 (.bslice [.str [], .str [], .int .i64 0, .vs [] .exact, .int .i64 0] 2 [(0, (t 8)), (1, (t 9))]), o 11 (.fa 4 (t 4)), o 12 (.load false 1 (t 11)), o 13 (.build [.str [], .str [], .int .i64 0, .vs [] .exact, .int .i64 0] [(0, 1, (t 7)), (3, 1, (t 10)), (4, 1, (t 12))]), s (.store 5 (t 6) (t 13))]
def F_expr_two : AFn := ⟨14, (.seq (.reg r117_0 [0, 4, 5, 6]) (.seq (.reg r117_1 [6]) .ret)), [.c 6 true 5], true⟩
/-- (*sortilege/scan.Reader).Number -/
@[go_sem] def r118_0 : OL := [o 2 (.mv (i 0)), o 3 (.mv (.c .nili))]
@[go_sem] def r118_1 : OL := [m 6 0, o 7 (.call K_scan_Reader_Peek [(t 6)]), o 8 (.fld false 0 1 (t 7)), o 9 (.bin .plain .neq (t 8) (i 2))]
@[go_sem] def r118_2 : OL := [m 10 0, o 11 (.call K_scan_Reader_wrong [(t 10)]), o 2 (.mv (i 0)), m 3 11]
@[go_sem] def r118_3 : OL := [m 13 0, o 14 (.call K_scan_Reader_Take [(t 13)]), o 15 (.fld false 1 1 (t 14)), o 16 (.call K_scan_digits [(t 15)]), m 12 16, o 17 (.extr (t 12) 0), o 18 (.extr (t 12) 1), m 4 17, m 5 18]
@[go_sem] def r118_4 : OL := [m 19 4, m 2 19, o 3 (.mv (.c .nili))]
def F_scan_Reader_Number : AFn := ⟨20, (.seq (.reg r118_0 [0]) (.seq (.seq (.reg r118_1 [0, 9]) (.cond (.t 9) (.seq (.reg r118_2 [2, 3]) .ret) .skip)) (.seq (.reg r118_3 [4]) (.seq (.reg r118_4 [2, 3]) .ret)))), [.t 2, .t 3], true⟩
/-- sortilege/model.split[sortilege/model.Set] -/
@[go_sem] def r119_0 : OL := [o 6 (.mv (.c (.vs [] .exact)))]
@[go_sem] def r119_1 : OL := [m 8 2, o 9 (.callv (t 8) []), o 10 (.bslice [.str [], .str [], .str [], .int .i64 0, .vs [] .exact, .int .i64 0, .int .i64 0] 1 [(0, (t 9))]), m 7 10]
@[go_sem] def r119_2 : OL := [m 11 0, m 12 1, o 13 (.call K_model_parser_skip [(t 11), (t 12)])]
@[go_sem] def r119_3 : OL := [m 14 7, m 15 2, o 16 (.callv (t 15) []), o 17 (.bslice [.str [], .str [], .str [], .int .i64 0, .vs [] .exact, .int .i64 0, .int .i64 0] 1 [(0, (t 16))]), o 18 (.append 7 (t 14) (t 17)), m 7 18]
@[go_sem] def r119_4 : OL := [m 19 7, m 6 19]
def L_model_split_model_Set_0 : AC := (.seq (.seq (.reg r119_2 [0, 1, 2, 7, 13]) (.cond (.t 13) .skip (.exit 0))) (.block 1 (.reg r119_3 [0, 1, 2, 7])))
theorem L_model_split_model_Set_0_eq {E : Env} {fr : Fr} {h : AH} (keep : List Nat) : LP E L_model_split_model_Set_0 keep fr h = XS E (.seq (.seq (.reg r119_2 [0, 1, 2, 7, 13]) (.cond (.t 13) .skip (.exit 0))) (.block 1 (.reg r119_3 [0, 1, 2, 7]))) [.lp L_model_split_model_Set_0 keep] (keepFr keep fr) h := LP_XS L_model_split_model_Set_0 keep
def F_model_split_model_Set : AFn := ⟨20, (.seq (.reg r119_0 [0, 1, 2]) (.seq (.reg r119_1 [0, 1, 2, 7]) (.seq (.block 0 (.loop L_model_split_model_Set_0 [0, 1, 2, 7])) (.seq (.reg r119_4 [6]) .ret)))), [.t 6], true⟩
/-- (*sortilege/model.parser).set -/
@[go_sem] def r120_0 : OL := [o 2 (.alloc [.str [], .str [], .str [], .int .i64 0, .vs [] .exact, .int .i64 0, .int .i64 0])]
@[go_sem] def r120_1 : OL := [o 3 (.alloc [.str [], .str [], .str [], .int .i64 0, .vs [] .exact, .int .i64 0, .int .i64 0])]
@[go_sem] def r120_2 : OL := [m 4 0, o 5 (.call K_model_parser_want [(t 4), (.c (.str [40]))])]
@[go_sem] def r120_3 : OL := [m 7 0, o 8 (.call K_model_parser_name [(t 7)]), m 6 8, o 9 (.extr (t 6) 0), o 10 (.extr (t 6) 1), o 11 (.fa 0 (t 3)), s (.store 1 (t 11) (t 9)), o 12 (.fa 6 (t 3)), s (.store 1 (t 12) (t 10))]
@[go_sem] def r120_4 : OL := [m 13 0, o 14 (.call K_model_parser_want [(t 13), (.c (.str [39]))])]
@[go_sem] def r120_5 : OL := [m 15 0, o 16 (.call K_model_parser_want [(t 15), (.c (.str [61]))])]
@[go_sem] def r120_6 : OL := [m 17 0, o 18 (.call K_model_parser_expr [(t 17)]), o 19 (.fa 1 (t 3)), s (.store 5 (t 19) (t 18))]
@[go_sem] def r120_7 : OL := [m 20 0, o 21 (.call K_model_parser_want [(t 20), (.c (.str [41]))])]
@[go_sem] def r120_8 : OL := [o 22 (.load true 7 (t 3)), s (.store 7 (t 2) (t 22))]
def F_model_parser_set : AFn := ⟨23, (.seq (.reg r120_0 [0, 2]) (.seq (.reg r120_1 [0, 2, 3]) (.seq (.reg r120_2 [0, 2, 3]) (.seq (.reg r120_3 [0, 2, 3]) (.seq (.reg r120_4 [0, 2, 3]) (.seq (.reg r120_5 [0, 2, 3]) (.seq (.reg r120_6 [0, 2, 3]) (.seq (.reg r120_7 [2, 3]) (.seq (.reg r120_8 [2]) .ret))))))))), [.c 2 true 7], true⟩
/-- sortilege/fold.at -/
@[go_sem] def r121_0 : OL := [o 4 (.mv (.c .nili))]
@[go_sem] def r121_1 : OL := [m 5 0, m 6 1, o 7 (.build [.int .i64 0, .nili] [(0, 1, (t 5)), (1, 1, (t 6))]), o 8 (.boxv (t 7)), o 9 (.mkI T_P_api_At (t 8)), m 4 9]
def F_fold_at : AFn := ⟨10, (.seq (.reg r121_0 [0, 1]) (.seq (.reg r121_1 [4]) .ret)), [.t 4], true⟩
/-- sortilege/fold.missing -/
@[go_sem] def r122_0 : OL := [o 2 (.mv (.c .nilp)), o 3 (.mv (.c (.bool false)))]
@[go_sem] def r122_1 : OL := [o 4 (.alloc [.nilp])]
@[go_sem] def r122_2 : OL := [m 5 0, o 6 (.mkI T_api_Errno (i 30)), o 7 (.call K_errors_Is [(t 5), (t 6)]), o 8 (.un .not (t 7)), m 9 8, g 10 (.mv (t 0)) 9 false, g 11 (.mkI T_P_P_api_At (t 4)) 9 false, g 12 (.call K_errors_As [(t 10), (t 11)]) 9 false, g 13 (.un .not (t 12)) 9 false, o 14 (.pick (t 9) (.c (.bool true)) (t 13))]
@[go_sem] def r122_3 : OL := [o 2 (.mv (.c .nilp)), o 3 (.mv (.c (.bool false)))]
@[go_sem] def r122_4 : OL := [o 15 (.load false 1 (t 4)), m 2 15, o 3 (.mv (.c (.bool true)))]
def F_fold_missing : AFn := ⟨16, (.seq (.reg r122_0 [0]) (.seq (.reg r122_1 [0, 4]) (.seq (.seq (.reg r122_2 [4, 14]) (.cond (.t 14) (.seq (.reg r122_3 [2, 3]) .ret) .skip)) (.seq (.reg r122_4 [2, 3]) .ret)))), [.t 2, .t 3], true⟩
/-- sortilege/fold.named -/
@[go_sem] def r123_0 : OL := [o 3 (.boxv (t 0)), o 6 (.mv (.c (.str []))), o 7 (.mv (.c (.bool false)))]
@[go_sem] def r123_1 : OL := [o 12 (.fa 0 (t 3)), o 13 (.load false 1 (t 12)), o 14 (.bin .plain .eql (t 13) (.c (.str [110, 97, 109, 101]))), m 15 14, g 16 (.fa 4 (t 3)) 15 true, g 17 (.load false 1 (t 16)) 15 true, g 18 (.mv (t 1)) 15 true, g 19 (.bin .plain .eql (t 17) (t 18)) 15 true, o 20 (.pick (t 15) (t 19) (.c (.bool false))), m 21 20, g 22 (.mv (t 2)) 21 true, g 23 (.mkF K_fold_named_1 [] [(t 3)]) 21 true, g 24 (.call K_slices_ContainsFunc_value_Bind_value_Bind [(t 22), (t 23)]) 21 true, g 25 (.un .not (t 24)) 21 true, o 26 (.pick (t 21) (t 25) (.c (.bool false)))]
@[go_sem] def r123_2 : OL := [o 27 (.fa 1 (t 3)), o 28 (.load false 1 (t 27)), m 6 28, o 7 (.mv (.c (.bool true)))]
@[go_sem] def r123_3 : OL := [o 29 (.fa 3 (t 3)), o 30 (.load false 1 (t 29)), o 31 (.lenv (t 30)), o 32 (.mv (i 0))]
@[go_sem] def r123_4 : OL := [o 33 (.bin .plain .lss (t 32) (t 31))]
@[go_sem] def r123_5 : OL := [o 34 (.ixa 5 (t 30) (t 32)), o 35 (.load true 5 (t 34)), o 9 (.alloc [.str [], .str [], .int .i64 0, .vs [] .exact, .int .i64 0]), s (.store 5 (t 9) (t 35))]
@[go_sem] def r123_6 : OL := [o 37 (.load true 5 (t 9)), m 38 1, m 39 2, o 40 (.call K_fold_named [(t 37), (t 38), (t 39)]), m 36 40, o 41 (.extr (t 36) 0), o 42 (.extr (t 36) 1), m 10 41, m 11 42]
@[go_sem] def r123_7 : OL := [m 43 11]
@[go_sem] def r123_8 : OL := [m 44 10, m 6 44, o 7 (.mv (.c (.bool true)))]
@[go_sem] def r123_9 : OL := [o 45 (.bin .plain .add (t 32) (i 1)), m 32 45]
@[go_sem] def r123_10 : OL := [o 6 (.mv (.c (.str []))), o 7 (.mv (.c (.bool false)))]
def L_fold_named_0 : AC := (.seq (.reg r123_4 [1, 2, 30, 31, 32, 33]) (.seq (.cond (.t 33) .skip (.exit 0)) (.seq (.block 1 (.seq (.reg r123_5 [1, 2, 9, 30, 31, 32]) (.seq (.reg r123_6 [1, 2, 10, 11, 30, 31, 32]) (.seq (.reg r123_7 [1, 2, 10, 30, 31, 32, 43]) (.cond (.t 43) (.seq (.reg r123_8 [6, 7]) .ret) .skip))))) (.reg r123_9 [1, 2, 30, 31, 32]))))
theorem L_fold_named_0_eq {E : Env} {fr : Fr} {h : AH} (keep : List Nat) : LP E L_fold_named_0 keep fr h = XS E (.seq (.reg r123_4 [1, 2, 30, 31, 32, 33]) (.seq (.cond (.t 33) .skip (.exit 0)) (.seq (.block 1 (.seq (.reg r123_5 [1, 2, 9, 30, 31, 32]) (.seq (.reg r123_6 [1, 2, 10, 11, 30, 31, 32]) (.seq (.reg r123_7 [1, 2, 10, 30, 31, 32, 43]) (.cond (.t 43) (.seq (.reg r123_8 [6, 7]) .ret) .skip))))) (.reg r123_9 [1, 2, 30, 31, 32])))) [.lp L_fold_named_0 keep] (keepFr keep fr) h := LP_XS L_fold_named_0 keep
def F_fold_named : AFn := ⟨46, (.seq (.reg r123_0 [1, 2, 3]) (.seq (.seq (.reg r123_1 [1, 2, 3, 26]) (.cond (.t 26) (.seq (.reg r123_2 [6, 7]) .ret) .skip)) (.seq (.seq (.reg r123_3 [1, 2, 30, 31, 32]) (.block 0 (.loop L_fold_named_0 [1, 2, 30, 31, 32]))) (.seq (.reg r123_10 [6, 7]) .ret)))), [.t 6, .t 7], true⟩
/-- (*sortilege/fold.folder).turn -/
@[go_sem] def r124_0 : OL := [o 4 (.boxm (t 1)), o 6 (.alloc [.str [], .str [], .int .i64 0, .vs [] .exact, .int .i64 0]), o 7 (.mv (.c .nili))]
@[go_sem] def r124_1 : OL := [o 13 (.fa 0 (t 4)), o 14 (.load false 1 (t 13)), o 15 (.bin .plain .eql (t 14) (.c (.str [110, 97, 109, 101])))]
@[go_sem] def r124_2 : OL := [m 16 0, o 17 (.load true 5 (t 4)), m 18 2, o 19 (.call K_fold_folder_name [(t 16), (t 17), (t 18)]), o 20 (.extr (t 19) 0), o 21 (.extr (t 19) 1), s (.store 5 (t 6) (t 20)), m 7 21]
@[go_sem] def r124_3 : OL := [o 8 (.mv (.c (.vs [] .exact)))]
@[go_sem] def r124_4 : OL := [o 22 (.fa 3 (t 4)), o 23 (.load false 1 (t 22)), o 24 (.lenv (t 23)), o 25 (.mv (i 0))]
@[go_sem] def r124_5 : OL := [o 26 (.bin .plain .lss (t 25) (t 24))]
@[go_sem] def r124_6 : OL := [o 27 (.ixa 5 (t 23) (t 25)), o 28 (.load true 5 (t 27)), o 10 (.alloc [.str [], .str [], .int .i64 0, .vs [] .exact, .int .i64 0]), s (.store 5 (t 10) (t 28))]
@[go_sem] def r124_7 : OL := [m 30 0, o 31 (.load true 5 (t 10)), m 32 2, o 33 (.call K_fold_folder_turn [(t 30), (t 31), (t 32)]), m 29 33, o 34 (.extr (t 29) 0), o 35 (.extr (t 29) 1), o 11 (.alloc [.str [], .str [], .int .i64 0, .vs [] .exact, .int .i64 0]), s (.store 5 (t 11) (t 34)), m 12 35]
@[go_sem] def r124_8 : OL := [m 36 12, o 37 (.bin .iface .neq (t 36) (.c .nili))]
@[go_sem] def r124_9 : OL := [o 38 (.build [.str [], .str [], .int .i64 0, .vs [] .exact, .int .i64 0] []), m 39 12, s (.store 5 (t 6) (t 38)), m 7 39]
@[go_sem] def r124_10 : OL := [m 40 8, o 41 (.load true 5 (t 11)), o 42 (.bslice [.str [], .str [], .int .i64 0, .vs [] .exact, .int .i64 0] 1 [(0, (t 41))]), o 43 (.append 5 (t 40) (t 42)), m 8 43]
@[go_sem] def r124_11 : OL := [o 44 (.bin .plain .add (t 25) (i 1)), m 25 44]
@[go_sem] def r124_12 : OL := [m 45 8, o 46 (.fa 3 (t 4)), s (.store 1 (t 46) (t 45))]
@[go_sem] def r124_13 : OL := [o 47 (.load true 5 (t 4)), s (.store 5 (t 6) (t 47)), o 7 (.mv (.c .nili))]
def L_fold_folder_turn_0 : AC := (.seq (.reg r124_5 [0, 2, 4, 6, 8, 23, 24, 25, 26]) (.seq (.cond (.t 26) .skip (.exit 0)) (.seq (.block 1 (.seq (.reg r124_6 [0, 2, 4, 6, 8, 10, 23, 24, 25]) (.seq (.reg r124_7 [0, 2, 4, 6, 8, 11, 12, 23, 24, 25]) (.seq (.seq (.reg r124_8 [0, 2, 4, 6, 8, 11, 12, 23, 24, 25, 37]) (.cond (.t 37) (.seq (.reg r124_9 [6, 7]) .ret) .skip)) (.reg r124_10 [0, 2, 4, 6, 8, 23, 24, 25]))))) (.reg r124_11 [0, 2, 4, 6, 8, 23, 24, 25]))))
theorem L_fold_folder_turn_0_eq {E : Env} {fr : Fr} {h : AH} (keep : List Nat) : LP E L_fold_folder_turn_0 keep fr h = XS E (.seq (.reg r124_5 [0, 2, 4, 6, 8, 23, 24, 25, 26]) (.seq (.cond (.t 26) .skip (.exit 0)) (.seq (.block 1 (.seq (.reg r124_6 [0, 2, 4, 6, 8, 10, 23, 24, 25]) (.seq (.reg r124_7 [0, 2, 4, 6, 8, 11, 12, 23, 24, 25]) (.seq (.seq (.reg r124_8 [0, 2, 4, 6, 8, 11, 12, 23, 24, 25, 37]) (.cond (.t 37) (.seq (.reg r124_9 [6, 7]) .ret) .skip)) (.reg r124_10 [0, 2, 4, 6, 8, 23, 24, 25]))))) (.reg r124_11 [0, 2, 4, 6, 8, 23, 24, 25])))) [.lp L_fold_folder_turn_0 keep] (keepFr keep fr) h := LP_XS L_fold_folder_turn_0 keep
def F_fold_folder_turn : AFn := ⟨48, (.seq (.reg r124_0 [0, 2, 4, 6]) (.seq (.seq (.reg r124_1 [0, 2, 4, 6, 15]) (.cond (.t 15) (.seq (.reg r124_2 [6, 7]) .ret) .skip)) (.seq (.reg r124_3 [0, 2, 4, 6, 8]) (.seq (.seq (.reg r124_4 [0, 2, 4, 6, 8, 23, 24, 25]) (.block 0 (.loop L_fold_folder_turn_0 [0, 2, 4, 6, 8, 23, 24, 25]))) (.seq (.reg r124_12 [4, 6]) (.seq (.reg r124_13 [6, 7]) .ret)))))), [.c 6 true 5, .t 7], true⟩
/-- sortilege/expr.Size -/
@[go_sem] def r125_0 : OL := [o 1 (.boxv (t 0)), o 2 (.mv (i 0))]
@[go_sem] def r125_1 : OL := [o 3 (.mv (i 1))]
@[go_sem] def r125_2 : OL := [o 6 (.fa 3 (t 1)), o 7 (.load false 1 (t 6)), o 8 (.lenv (t 7)), o 9 (.mv (i 0))]
@[go_sem] def r125_3 : OL := [o 10 (.bin .plain .lss (t 9) (t 8))]
@[go_sem] def r125_4 : OL := [o 11 (.ixa 5 (t 7) (t 9)), o 12 (.load true 5 (t 11)), o 5 (.alloc [.str [], .str [], .int .i64 0, .vs [] .exact, .int .i64 0]), s (.store 5 (t 5) (t 12))]
@[go_sem] def r125_5 : OL := [m 13 3, o 14 (.bin .plain .leq (t 13) (i 4096))]
@[go_sem] def r125_6 : OL := [m 15 3, o 16 (.load true 5 (t 5)), o 17 (.call K_expr_Size [(t 16)]), o 18 (.bin .plain .add (t 15) (t 17)), o 19 (.imin (t 18) (i 4097)), m 3 19]
@[go_sem] def r125_7 : OL := [o 20 (.bin .plain .add (t 9) (i 1)), m 9 20]
@[go_sem] def r125_8 : OL := [m 21 3, m 2 21]
def L_expr_Size_0 : AC := (.seq (.reg r125_3 [3, 7, 8, 9, 10]) (.seq (.cond (.t 10) .skip (.exit 0)) (.seq (.block 1 (.seq (.reg r125_4 [3, 5, 7, 8, 9]) (.seq (.reg r125_5 [3, 5, 7, 8, 9, 14]) (.cond (.t 14) (.reg r125_6 [3, 7, 8, 9]) .skip)))) (.reg r125_7 [3, 7, 8, 9]))))
theorem L_expr_Size_0_eq {E : Env} {fr : Fr} {h : AH} (keep : List Nat) : LP E L_expr_Size_0 keep fr h = XS E (.seq (.reg r125_3 [3, 7, 8, 9, 10]) (.seq (.cond (.t 10) .skip (.exit 0)) (.seq (.block 1 (.seq (.reg r125_4 [3, 5, 7, 8, 9]) (.seq (.reg r125_5 [3, 5, 7, 8, 9, 14]) (.cond (.t 14) (.reg r125_6 [3, 7, 8, 9]) .skip)))) (.reg r125_7 [3, 7, 8, 9])))) [.lp L_expr_Size_0 keep] (keepFr keep fr) h := LP_XS L_expr_Size_0 keep
def F_expr_Size : AFn := ⟨22, (.seq (.reg r125_0 [1]) (.seq (.reg r125_1 [1, 3]) (.seq (.seq (.reg r125_2 [3, 7, 8, 9]) (.block 0 (.loop L_expr_Size_0 [3, 7, 8, 9]))) (.seq (.reg r125_8 [2]) .ret)))), [.t 2], true⟩
/-- sortilege/fold.clone -/
@[go_sem] def r126_0 : OL := [o 1 (.boxm (t 0)), o 2 (.alloc [.str [], .str [], .int .i64 0, .vs [] .exact, .int .i64 0])]
@[go_sem] def r126_1 : OL := [o 3 (.mv (.c (.vs [] .exact)))]
@[go_sem] def r126_2 : OL := [o 6 (.fa 3 (t 1)), o 7 (.load false 1 (t 6)), o 8 (.lenv (t 7)), o 9 (.mv (i 0))]
@[go_sem] def r126_3 : OL := [o 10 (.bin .plain .lss (t 9) (t 8))]
@[go_sem] def r126_4 : OL := [o 11 (.ixa 5 (t 7) (t 9)), o 12 (.load true 5 (t 11)), o 5 (.alloc [.str [], .str [], .int .i64 0, .vs [] .exact, .int .i64 0]), s (.store 5 (t 5) (t 12))]
@[go_sem] def r126_5 : OL := [m 13 3, o 14 (.load true 5 (t 5)), o 15 (.call K_fold_clone [(t 14)]), o 16 (.bslice [.str [], .str [], .int .i64 0, .vs [] .exact, .int .i64 0] 1 [(0, (t 15))]), o 17 (.append 5 (t 13) (t 16)), m 3 17]
@[go_sem] def r126_6 : OL := [o 18 (.bin .plain .add (t 9) (i 1)), m 9 18]
@[go_sem] def r126_7 : OL := [m 19 3, o 20 (.fa 3 (t 1)), s (.store 1 (t 20) (t 19))]
@[go_sem] def r126_8 : OL := [o 21 (.load true 5 (t 1)), s (.store 5 (t 2) (t 21))]
def L_fold_clone_0 : AC := (.seq (.reg r126_3 [1, 2, 3, 7, 8, 9, 10]) (.seq (.cond (.t 10) .skip (.exit 0)) (.seq (.block 1 (.seq (.reg r126_4 [1, 2, 3, 5, 7, 8, 9]) (.reg r126_5 [1, 2, 3, 7, 8, 9]))) (.reg r126_6 [1, 2, 3, 7, 8, 9]))))
theorem L_fold_clone_0_eq {E : Env} {fr : Fr} {h : AH} (keep : List Nat) : LP E L_fold_clone_0 keep fr h = XS E (.seq (.reg r126_3 [1, 2, 3, 7, 8, 9, 10]) (.seq (.cond (.t 10) .skip (.exit 0)) (.seq (.block 1 (.seq (.reg r126_4 [1, 2, 3, 5, 7, 8, 9]) (.reg r126_5 [1, 2, 3, 7, 8, 9]))) (.reg r126_6 [1, 2, 3, 7, 8, 9])))) [.lp L_fold_clone_0 keep] (keepFr keep fr) h := LP_XS L_fold_clone_0 keep
def F_fold_clone : AFn := ⟨22, (.seq (.reg r126_0 [1, 2]) (.seq (.reg r126_1 [1, 2, 3]) (.seq (.seq (.reg r126_2 [1, 2, 3, 7, 8, 9]) (.block 0 (.loop L_fold_clone_0 [1, 2, 3, 7, 8, 9]))) (.seq (.reg r126_7 [1, 2]) (.seq (.reg r126_8 [2]) .ret))))), [.c 2 true 5], true⟩
/-- sortilege/value.kids -/
@[go_sem] def r127_0 : OL := [o 2 (.mv (i 0))]
@[go_sem] def r127_1 : OL := [m 3 0]
@[go_sem] def r127_2 : OL := [o 5 (.bin .plain .eql (t 3) (.c (.str [110, 117, 109]))), m 4 5]
@[go_sem] def r127_3 : OL := [o 6 (.bin .plain .eql (t 3) (.c (.str [110, 97, 109, 101]))), m 4 6]
@[go_sem] def r127_4 : OL := [o 7 (.bin .plain .eql (t 3) (.c (.str [116, 114, 117, 101]))), m 4 7]
@[go_sem] def r127_5 : OL := [o 8 (.bin .plain .eql (t 3) (.c (.str [102, 97, 108, 115, 101]))), m 4 8]
@[go_sem] def r127_6 : OL := [o 10 (.bin .plain .eql (t 3) (.c (.str [110, 101, 103]))), m 9 10]
@[go_sem] def r127_7 : OL := [o 11 (.bin .plain .eql (t 3) (.c (.str [33]))), m 9 11]
@[go_sem] def r127_8 : OL := [o 13 (.bin .plain .eql (t 3) (.c (.str [63]))), m 12 13]
@[go_sem] def r127_9 : OL := [o 15 (.bin .plain .eql (t 3) (.c (.str [38]))), m 14 15]
@[go_sem] def r127_10 : OL := [o 16 (.bin .plain .eql (t 3) (.c (.str [124]))), m 14 16]
@[go_sem] def r127_11 : OL := [o 17 (.bin .plain .eql (t 3) (.c (.str [61, 62]))), m 14 17]
@[go_sem] def r127_12 : OL := [o 19 (.bin .plain .eql (t 3) (.c (.str [61]))), m 18 19]
@[go_sem] def r127_13 : OL := [o 20 (.bin .plain .eql (t 3) (.c (.str [33, 61]))), m 18 20]
@[go_sem] def r127_14 : OL := [o 21 (.bin .plain .eql (t 3) (.c (.str [60]))), m 18 21]
@[go_sem] def r127_15 : OL := [o 22 (.bin .plain .eql (t 3) (.c (.str [60, 61]))), m 18 22]
@[go_sem] def r127_16 : OL := [o 23 (.bin .plain .eql (t 3) (.c (.str [62]))), m 18 23]
@[go_sem] def r127_17 : OL := [o 24 (.bin .plain .eql (t 3) (.c (.str [62, 61]))), m 18 24]
@[go_sem] def r127_18 : OL := [o 26 (.bin .plain .eql (t 3) (.c (.str [43]))), m 25 26]
@[go_sem] def r127_19 : OL := [o 27 (.bin .plain .eql (t 3) (.c (.str [45]))), m 25 27]
@[go_sem] def r127_20 : OL := [o 28 (.bin .plain .eql (t 3) (.c (.str [42]))), m 25 28]
@[go_sem] def r127_21 : OL := [o 2 (.mv (i 0))]
@[go_sem] def r127_22 : OL := [o 2 (.mv (i 1))]
@[go_sem] def r127_23 : OL := [o 2 (.mv (i 3))]
@[go_sem] def r127_24 : OL := [o 2 (.mv (i 2))]
@[go_sem] def r127_25 : OL := [o 2 (.mv (i (-1)))]
def F_value_kids : AFn := ⟨29, (.seq (.reg r127_0 [0]) (.seq (.seq (.reg r127_1 [3]) (.block 0 (.seq (.block 6 (.block 5 (.block 4 (.seq (.block 3 (.seq (.block 2 (.seq (.block 1 (.seq (.seq (.seq (.seq (.reg r127_2 [3, 4]) (.cond (.t 4) .skip (.seq (.reg r127_3 [3, 4]) (.cond (.t 4) .skip (.seq (.reg r127_4 [3, 4]) (.cond (.t 4) .skip (.reg r127_5 [3, 4]))))))) (.cond (.t 4) (.exit 1) .skip)) (.seq (.seq (.seq (.reg r127_6 [3, 9]) (.cond (.t 9) .skip (.reg r127_7 [3, 9]))) (.cond (.t 9) (.exit 2) .skip)) (.seq (.seq (.reg r127_8 [3, 12]) (.cond (.t 12) (.exit 3) .skip)) (.seq (.seq (.seq (.reg r127_9 [3, 14]) (.cond (.t 14) .skip (.seq (.reg r127_10 [3, 14]) (.cond (.t 14) .skip (.reg r127_11 [3, 14]))))) (.cond (.t 14) (.exit 4) .skip)) (.seq (.seq (.seq (.reg r127_12 [3, 18]) (.cond (.t 18) .skip (.seq (.reg r127_13 [3, 18]) (.cond (.t 18) .skip (.seq (.reg r127_14 [3, 18]) (.cond (.t 18) .skip (.seq (.reg r127_15 [3, 18]) (.cond (.t 18) .skip (.seq (.reg r127_16 [3, 18]) (.cond (.t 18) .skip (.reg r127_17 [3, 18]))))))))))) (.cond (.t 18) (.exit 5) .skip)) (.seq (.seq (.reg r127_18 [3, 25]) (.cond (.t 25) .skip (.seq (.reg r127_19 [3, 25]) (.cond (.t 25) .skip (.reg r127_20 [25]))))) (.cond (.t 25) (.exit 6) .skip))))))) (.exit 0))) (.seq (.seq (.reg r127_21 [2]) .ret) (.exit 0)))) (.seq (.seq (.reg r127_22 [2]) .ret) (.exit 0)))) (.seq (.seq (.reg r127_23 [2]) .ret)
 (.exit 0)))))) (.seq (.seq (.reg r127_24 [2]) .ret) (.exit 0))))) (.seq (.reg r127_25 [2]) .ret))), [.t 2], true⟩
/-- sortilege/value.at -/
@[go_sem] def r128_0 : OL := [o 2 (.boxv (t 0)), o 4 (.mv (.c .nili))]
@[go_sem] def r128_1 : OL := [o 5 (.fa 4 (t 2)), o 6 (.load false 1 (t 5)), m 7 1, o 8 (.build [.int .i64 0, .nili] [(0, 1, (t 6)), (1, 1, (t 7))]), o 9 (.boxv (t 8)), o 10 (.mkI T_P_api_At (t 9)), m 4 10]
def F_value_at : AFn := ⟨11, (.seq (.reg r128_0 [1, 2]) (.seq (.reg r128_1 [4]) .ret)), [.t 4], true⟩
/-- sortilege/value.plain -/
@[go_sem] def r129_0 : OL := [o 2 (.boxv (t 0)), o 4 (.alloc [.bool false, .bool false, .int .i64 0]), o 5 (.mv (.c .nili))]
@[go_sem] def r129_1 : OL := [o 7 (.fa 0 (t 2)), o 8 (.load false 1 (t 7))]
@[go_sem] def r129_2 : OL := [o 10 (.bin .plain .eql (t 8) (.c (.str [110, 117, 109]))), m 9 10]
@[go_sem] def r129_3 : OL := [o 11 (.fa 2 (t 2)), o 12 (.load false 1 (t 11)), o 13 (.call K_value_Number [(t 12)]), s (.store 3 (t 4) (t 13)), o 5 (.mv (.c .nili))]
@[go_sem] def r129_4 : OL := [o 15 (.bin .plain .eql (t 8) (.c (.str [110, 97, 109, 101]))), m 14 15]
@[go_sem] def r129_5 : OL := [m 16 1, o 17 (.mkF K_value_plain_1 [] [(t 2)]), o 18 (.call K_slices_IndexFunc_value_Bind_value_Bind [(t 16), (t 17)]), m 6 18]
@[go_sem] def r129_6 : OL := [m 19 6, o 20 (.bin .plain .lss (t 19) (i 0))]
@[go_sem] def r129_7 : OL := [o 21 (.build [.bool false, .bool false, .int .i64 0] []), o 22 (.load true 5 (t 2)), o 23 (.mkI T_api_Errno (i 30)), o 24 (.call K_value_at [(t 22), (t 23)]), s (.store 3 (t 4) (t 21)), m 5 24]
@[go_sem] def r129_8 : OL := [m 25 1, m 26 6, o 27 (.ixa 4 (t 25) (t 26)), o 28 (.fa 1 (t 27)), o 29 (.load true 3 (t 28)), s (.store 3 (t 4) (t 29)), o 5 (.mv (.c .nili))]
@[go_sem] def r129_9 : OL := [o 30 (.fa 0 (t 2)), o 31 (.load false 1 (t 30)), o 32 (.bin .plain .eql (t 31) (.c (.str [116, 114, 117, 101]))), o 33 (.call K_value_Truth [(t 32)]), s (.store 3 (t 4) (t 33)), o 5 (.mv (.c .nili))]
def F_value_plain : AFn := ⟨34, (.seq (.reg r129_0 [1, 2, 4]) (.seq (.seq (.reg r129_1 [1, 2, 4, 8]) (.block 0 (.seq (.reg r129_2 [1, 2, 4, 8, 9]) (.cond (.t 9) (.seq (.reg r129_3 [4, 5]) .ret) (.seq (.reg r129_4 [1, 2, 4, 14]) (.cond (.t 14) (.seq (.reg r129_5 [1, 2, 4, 6]) (.seq (.seq (.reg r129_6 [1, 2, 4, 6, 20]) (.cond (.t 20) (.seq (.reg r129_7 [4, 5]) .ret) .skip)) (.seq (.reg r129_8 [4, 5]) .ret))) .skip)))))) (.seq (.reg r129_9 [4, 5]) .ret))), [.c 4 true 3, .t 5], true⟩
/-- sortilege/value.kind -/
@[go_sem] def r130_0 : OL := [o 3 (.boxv (t 0)), o 6 (.alloc [.bool false, .bool false, .int .i64 0]), o 7 (.mv (.c .nili))]
@[go_sem] def r130_1 : OL := [o 11 (.load true 5 (t 3)), m 12 1, o 13 (.call K_value_Eval [(t 11), (t 12)]), m 10 13, o 14 (.extr (t 10) 0), o 15 (.extr (t 10) 1), o 8 (.alloc [.bool false, .bool false, .int .i64 0]), s (.store 3 (t 8) (t 14)), m 9 15]
@[go_sem] def r130_2 : OL := [m 17 9, o 18 (.bin .iface .neq (t 17) (.c .nili)), m 16 18]
@[go_sem] def r130_3 : OL := [o 19 (.build [.bool false, .bool false, .int .i64 0] []), m 20 9, s (.store 3 (t 6) (t 19)), m 7 20]
@[go_sem] def r130_4 : OL := [o 22 (.fa 0 (t 8)), o 23 (.load false 1 (t 22)), m 24 2, o 25 (.bin .bool .neq (t 23) (t 24)), m 21 25]
@[go_sem] def r130_5 : OL := [o 26 (.build [.bool false, .bool false, .int .i64 0] []), o 27 (.load true 5 (t 3)), o 28 (.mkI T_api_Errno (i 32)), o 29 (.call K_value_at [(t 27), (t 28)]), s (.store 3 (t 6) (t 26)), m 7 29]
@[go_sem] def r130_6 : OL := [o 30 (.load true 3 (t 8)), s (.store 3 (t 6) (t 30)), o 7 (.mv (.c .nili))]
def F_value_kind : AFn := ⟨31, (.seq (.reg r130_0 [1, 2, 3, 6]) (.seq (.reg r130_1 [2, 3, 6, 8, 9]) (.seq (.block 0 (.seq (.reg r130_2 [2, 3, 6, 8, 9, 16]) (.cond (.t 16) (.seq (.reg r130_3 [6, 7]) .ret) (.seq (.reg r130_4 [3, 6, 8, 21]) (.cond (.t 21) (.seq (.reg r130_5 [6, 7]) .ret) .skip))))) (.seq (.reg r130_6 [6, 7]) .ret)))), [.c 6 true 3, .t 7], true⟩
/-- sortilege/value.Truth -/
@[go_sem] def r131_0 : OL := [o 2 (.alloc [.bool false, .bool false, .int .i64 0])]
@[go_sem] def r131_1 : OL := [m 3 0, o 4 (.build [.bool false, .bool false, .int .i64 0] [(0, 1, (.c (.bool true))), (1, 1, (t 3))]), s (.store 3 (t 2) (t 4))]
def F_value_Truth : AFn := ⟨5, (.seq (.reg r131_0 [0, 2]) (.seq (.reg r131_1 [2]) .ret)), [.c 2 true 3], true⟩
/-- sortilege/safe.Neg -/
@[go_sem] def r132_0 : OL := [o 2 (.mv (i 0)), o 3 (.mv (.c .nili))]
@[go_sem] def r132_1 : OL := [m 4 0, o 5 (.call K_safe_Sub [(i 0), (t 4)]), o 6 (.extr (t 5) 0), o 7 (.extr (t 5) 1), m 2 6, m 3 7]
def F_safe_Neg : AFn := ⟨8, (.seq (.reg r132_0 [0]) (.seq (.reg r132_1 [2, 3]) .ret)), [.t 2, .t 3], true⟩
/-- sortilege/value.number -/
@[go_sem] def r133_0 : OL := [o 3 (.boxv (t 0)), o 6 (.alloc [.bool false, .bool false, .int .i64 0]), o 7 (.mv (.c .nili))]
@[go_sem] def r133_1 : OL := [m 8 2, o 9 (.bin .iface .neq (t 8) (.c .nili))]
@[go_sem] def r133_2 : OL := [o 10 (.build [.bool false, .bool false, .int .i64 0] []), o 11 (.load true 5 (t 3)), m 12 2, o 13 (.call K_value_at [(t 11), (t 12)]), s (.store 3 (t 6) (t 10)), m 7 13]
@[go_sem] def r133_3 : OL := [m 14 1, o 15 (.call K_value_Number [(t 14)]), s (.store 3 (t 6) (t 15)), o 7 (.mv (.c .nili))]
def F_value_number : AFn := ⟨16, (.seq (.reg r133_0 [1, 2, 3, 6]) (.seq (.seq (.reg r133_1 [1, 2, 3, 6, 9]) (.cond (.t 9) (.seq (.reg r133_2 [6, 7]) .ret) .skip)) (.seq (.reg r133_3 [6, 7]) .ret))), [.c 6 true 3, .t 7], true⟩
/-- sortilege/value.join -/
@[go_sem] def r134_0 : OL := [o 2 (.boxv (t 0)), o 4 (.alloc [.bool false, .bool false, .int .i64 0]), o 5 (.mv (.c .nili))]
@[go_sem] def r134_1 : OL := [o 9 (.fa 3 (t 2)), o 10 (.load false 1 (t 9)), o 11 (.ixa 5 (t 10) (i 0)), o 12 (.load true 5 (t 11)), m 13 1, o 14 (.call K_value_kind [(t 12), (t 13), (.c (.bool true))]), m 8 14, o 15 (.extr (t 8) 0), o 16 (.extr (t 8) 1), o 6 (.alloc [.bool false, .bool false, .int .i64 0]), s (.store 3 (t 6) (t 15)), m 7 16]
@[go_sem] def r134_2 : OL := [m 18 7, o 19 (.bin .iface .neq (t 18) (.c .nili)), m 17 19]
@[go_sem] def r134_3 : OL := [o 21 (.fa 0 (t 2)), o 22 (.load false 1 (t 21)), o 23 (.bin .plain .eql (t 22) (.c (.str [38]))), m 24 23, g 25 (.fa 1 (t 6)) 24 true, g 26 (.load false 1 (t 25)) 24 true, g 27 (.un .not (t 26)) 24 true, o 28 (.pick (t 24) (t 27) (.c (.bool false))), m 20 28]
@[go_sem] def r134_4 : OL := [o 30 (.fa 0 (t 2)), o 31 (.load false 1 (t 30)), o 32 (.bin .plain .eql (t 31) (.c (.str [124]))), m 33 32, g 34 (.fa 1 (t 6)) 33 true, g 35 (.load false 1 (t 34)) 33 true, o 36 (.pick (t 33) (t 35) (.c (.bool false))), m 29 36]
@[go_sem] def r134_5 : OL := [o 38 (.fa 0 (t 2)), o 39 (.load false 1 (t 38)), o 40 (.bin .plain .eql (t 39) (.c (.str [61, 62]))), m 41 40, g 42 (.fa 1 (t 6)) 41 true, g 43 (.load false 1 (t 42)) 41 true, g 44 (.un .not (t 43)) 41 true, o 45 (.pick (t 41) (t 44) (.c (.bool false))), m 37 45]
@[go_sem] def r134_6 : OL := [o 46 (.build [.bool false, .bool false, .int .i64 0] []), m 47 7, s (.store 3 (t 4) (t 46)), m 5 47]
@[go_sem] def r134_7 : OL := [o 48 (.call K_value_Truth [(.c (.bool false))]), s (.store 3 (t 4) (t 48)), o 5 (.mv (.c .nili))]
@[go_sem] def r134_8 : OL := [o 49 (.call K_value_Truth [(.c (.bool true))]), s (.store 3 (t 4) (t 49)), o 5 (.mv (.c .nili))]
@[go_sem] def r134_9 : OL := [o 50 (.fa 3 (t 2)), o 51 (.load false 1 (t 50)), o 52 (.ixa 5 (t 51) (i 1)), o 53 (.load true 5 (t 52)), m 54 1, o 55 (.call K_value_kind [(t 53), (t 54), (.c (.bool true))]), o 56 (.extr (t 55) 0), o 57 (.extr (t 55) 1), s (.store 3 (t 4) (t 56)), m 5 57]
def F_value_join : AFn := ⟨58, (.seq (.reg r134_0 [1, 2, 4]) (.seq (.reg r134_1 [1, 2, 4, 6, 7]) (.seq (.block 0 (.seq (.block 4 (.block 3 (.seq (.block 2 (.seq (.block 1 (.seq (.seq (.seq (.reg r134_2 [1, 2, 4, 6, 7, 17]) (.cond (.t 17) (.exit 1) .skip)) (.seq (.seq (.reg r134_3 [1, 2, 4, 6, 20]) (.cond (.t 20) (.exit 2) .skip)) (.seq (.seq (.reg r134_4 [1, 2, 4, 6, 29]) (.cond (.t 29) (.exit 3) .skip)) (.seq (.reg r134_5 [1, 2, 4, 37]) (.cond (.t 37) (.exit 4) .skip))))) (.exit 0))) (.seq (.seq (.reg r134_6 [4, 5]) .ret) (.exit 0)))) (.seq (.seq (.reg r134_7 [4, 5]) .ret) (.exit 0))))) (.seq (.seq (.reg r134_8 [4, 5]) .ret) (.exit 0)))) (.seq (.reg r134_9 [4, 5]) .ret)))), [.c 4 true 3, .t 5], true⟩
/-- sortilege/value.same -/
@[go_sem] def r135_0 : OL := [o 2 (.boxv (t 0)), o 4 (.alloc [.bool false, .bool false, .int .i64 0]), o 5 (.mv (.c .nili))]
@[go_sem] def r135_1 : OL := [o 10 (.fa 3 (t 2)), o 11 (.load false 1 (t 10)), o 12 (.ixa 5 (t 11) (i 0)), o 13 (.load true 5 (t 12)), m 14 1, o 15 (.call K_value_Eval [(t 13), (t 14)]), m 9 15, o 16 (.extr (t 9) 0), o 17 (.extr (t 9) 1), o 6 (.alloc [.bool false, .bool false, .int .i64 0]), s (.store 3 (t 6) (t 16)), m 7 17]
@[go_sem] def r135_2 : OL := [m 18 7, o 19 (.bin .iface .neq (t 18) (.c .nili))]
@[go_sem] def r135_3 : OL := [o 20 (.build [.bool false, .bool false, .int .i64 0] []), m 21 7, s (.store 3 (t 4) (t 20)), m 5 21]
@[go_sem] def r135_4 : DL := [.val 0 none (o 23 (.fa 3 (t 2))), .val 1 none (o 24 (.load false 1 (t 23))), .val 2 none (o 25 (.ixa 5 (t 24) (i 1))), .val 3 none (o 26 (.load true 5 (t 25))), .val 4 none (m 27 1), .val 5 none (o 28 (.fa 0 (t 6))), .val 6 none (o 29 (.load false 1 (t 28))), .eff [] 7 (o 30 (.call K_value_kind [(t 26), (t 27), (t 29)])), .val 8 none (m 22 30), .val 9 none (o 31 (.extr (t 22) 0)), .eff [(11, 8, [.bool false, .bool false, .int .i64 0])] 12 (s (.store 3 (t 8) (t 31))), .val 10 none (o 32 (.extr (t 22) 1)), .val 13 none (m 7 32)]
@[go_sem] def r135_5 : OL := [m 33 7, o 34 (.bin .iface .neq (t 33) (.c .nili))]
@[go_sem] def r135_6 : OL := [o 35 (.build [.bool false, .bool false, .int .i64 0] []), m 36 7, s (.store 3 (t 4) (t 35)), m 5 36]
@[go_sem] def r135_7 : OL := [o 37 (.fa 1 (t 6)), o 38 (.load false 1 (t 37)), o 39 (.fa 1 (t 8)), o 40 (.load false 1 (t 39)), o 41 (.bin .bool .eql (t 38) (t 40)), m 42 41, g 43 (.fa 2 (t 6)) 42 true, g 44 (.load false 1 (t 43)) 42 true, g 45 (.fa 2 (t 8)) 42 true, g 46 (.load false 1 (t 45)) 42 true, g 47 (.bin .plain .eql (t 44) (t 46)) 42 true, o 48 (.pick (t 42) (t 47) (.c (.bool false))), o 49 (.fa 0 (t 2)), o 50 (.load false 1 (t 49)), o 51 (.bin .plain .eql (t 50) (.c (.str [61]))), o 52 (.bin .bool .eql (t 48) (t 51)), o 53 (.call K_value_Truth [(t 52)]), s (.store 3 (t 4) (t 53)), o 5 (.mv (.c .nili))]
def F_value_same : AFn := ⟨54, (.seq (.reg r135_0 [1, 2, 4]) (.seq (.reg r135_1 [1, 2, 4, 6, 7]) (.seq (.seq (.reg r135_2 [1, 2, 4, 6, 7, 19]) (.cond (.t 19) (.seq (.reg r135_3 [4, 5]) .ret) .skip)) (.seq (.regd r135_4 [] [2, 4, 6, 7, 8]) (.seq (.seq (.reg r135_5 [2, 4, 6, 7, 8, 34]) (.cond (.t 34) (.seq (.reg r135_6 [4, 5]) .ret) .skip)) (.seq (.reg r135_7 [4, 5]) .ret)))))), [.c 4 true 3, .t 5], true⟩
/-- sortilege/value.reckon -/
@[go_sem] def r136_0 : OL := [o 2 (.boxv (t 0)), o 4 (.alloc [.bool false, .bool false, .int .i64 0]), o 5 (.mv (.c .nili))]
@[go_sem] def r136_1 : OL := [o 13 (.fa 3 (t 2)), o 14 (.load false 1 (t 13)), o 15 (.ixa 5 (t 14) (i 0)), o 16 (.load true 5 (t 15)), m 17 1, o 18 (.call K_value_kind [(t 16), (t 17), (.c (.bool false))]), m 12 18, o 19 (.extr (t 12) 0), o 20 (.extr (t 12) 1), o 6 (.alloc [.bool false, .bool false, .int .i64 0]), s (.store 3 (t 6) (t 19)), m 7 20]
@[go_sem] def r136_2 : OL := [m 21 7, o 22 (.bin .iface .neq (t 21) (.c .nili))]
@[go_sem] def r136_3 : OL := [o 23 (.build [.bool false, .bool false, .int .i64 0] []), m 24 7, s (.store 3 (t 4) (t 23)), m 5 24]
@[go_sem] def r136_4 : OL := [o 26 (.fa 3 (t 2)), o 27 (.load false 1 (t 26)), o 28 (.ixa 5 (t 27) (i 1)), o 29 (.load true 5 (t 28)), m 30 1, o 31 (.call K_value_kind [(t 29), (t 30), (.c (.bool false))]), m 25 31, o 32 (.extr (t 25) 0), o 33 (.extr (t 25) 1), o 8 (.alloc [.bool false, .bool false, .int .i64 0]), s (.store 3 (t 8) (t 32)), m 7 33]
@[go_sem] def r136_5 : OL := [m 34 7, o 35 (.bin .iface .neq (t 34) (.c .nili))]
@[go_sem] def r136_6 : OL := [o 36 (.build [.bool false, .bool false, .int .i64 0] []), m 37 7, s (.store 3 (t 4) (t 36)), m 5 37]
@[go_sem] def r136_7 : DL := [.val 0 none (o 38 (.fa 2 (t 6))), .val 1 none (o 39 (.load false 1 (t 38))), .val 2 none (o 40 (.fa 2 (t 8))), .val 3 none (o 41 (.load false 1 (t 40))), .val 4 none (m 9 39), .val 5 none (m 10 41)]
@[go_sem] def r136_8 : OL := [o 11 (.mv (i 0))]
@[go_sem] def r136_9 : OL := [o 42 (.fa 0 (t 2)), o 43 (.load false 1 (t 42))]
@[go_sem] def r136_11 : OL := [o 49 (.bin .plain .eql (t 43) (.c (.str [43]))), m 48 49]
@[go_sem] def r136_12 : OL := [m 51 9, m 52 10, o 53 (.call K_safe_Add [(t 51), (t 52)]), m 50 53, o 54 (.extr (t 50) 0), o 55 (.extr (t 50) 1), m 11 54, m 7 55]
@[go_sem] def r136_13 : OL := [o 57 (.bin .plain .eql (t 43) (.c (.str [45]))), m 56 57]
@[go_sem] def r136_14 : OL := [m 59 9, m 60 10, o 61 (.call K_safe_Sub [(t 59), (t 60)]), m 58 61, o 62 (.extr (t 58) 0), o 63 (.extr (t 58) 1), m 11 62, m 7 63]
@[go_sem] def r136_15 : OL := [o 65 (.bin .plain .eql (t 43) (.c (.str [42]))), m 64 65]
@[go_sem] def r136_16 : OL := [m 67 9, m 68 10, o 69 (.call K_safe_Mul [(t 67), (t 68)]), m 66 69, o 70 (.extr (t 66) 0), o 71 (.extr (t 66) 1), m 11 70, m 7 71]
@[go_sem] def r136_17 : OL := [o 73 (.bin .plain .eql (t 43) (.c (.str [60]))), m 72 73]
@[go_sem] def r136_18 : OL := [m 74 9, m 75 10, o 76 (.bin .plain .lss (t 74) (t 75)), o 77 (.call K_value_Truth [(t 76)]), s (.store 3 (t 4) (t 77)), o 5 (.mv (.c .nili))]
@[go_sem] def r136_19 : OL := [o 79 (.bin .plain .eql (t 43) (.c (.str [60, 61]))), m 78 79]
@[go_sem] def r136_20 : OL := [m 80 9, m 81 10, o 82 (.bin .plain .leq (t 80) (t 81)), o 83 (.call K_value_Truth [(t 82)]), s (.store 3 (t 4) (t 83)), o 5 (.mv (.c .nili))]
@[go_sem] def r136_21 : OL := [o 85 (.bin .plain .eql (t 43) (.c (.str [62]))), m 84 85]
@[go_sem] def r136_22 : OL := [m 86 9, m 87 10, o 88 (.bin .plain .gtr (t 86) (t 87)), o 89 (.call K_value_Truth [(t 88)]), s (.store 3 (t 4) (t 89)), o 5 (.mv (.c .nili))]
@[go_sem] def r136_10 : OL := [m 44 9, m 45 10, o 46 (.bin .plain .geq (t 44) (t 45)), o 47 (.call K_value_Truth [(t 46)]), s (.store 3 (t 4) (t 47)), o 5 (.mv (.c .nili))]
@[go_sem] def r136_23 : OL := [o 90 (.load true 5 (t 2)), m 91 11, m 92 7, o 93 (.call K_value_number [(t 90), (t 91), (t 92)]), o 94 (.extr (t 93) 0), o 95 (.extr (t 93) 1), s (.store 3 (t 4) (t 94)), m 5 95]
def F_value_reckon : AFn := ⟨96, (.seq (.reg r136_0 [1, 2, 4]) (.seq (.reg r136_1 [1, 2, 4, 6, 7]) (.seq (.seq (.reg r136_2 [1, 2, 4, 6, 7, 22]) (.cond (.t 22) (.seq (.reg r136_3 [4, 5]) .ret) .skip)) (.seq (.reg r136_4 [2, 4, 6, 7, 8]) (.seq (.seq (.reg r136_5 [2, 4, 6, 7, 8, 35]) (.cond (.t 35) (.seq (.reg r136_6 [4, 5]) .ret) .skip)) (.seq (.regd r136_7 [] [2, 4, 9, 10]) (.seq (.reg r136_8 [2, 4, 9, 10]) (.seq (.seq (.reg r136_9 [2, 4, 9, 10, 43]) (.block 0 (.seq (.reg r136_11 [2, 4, 9, 10, 43, 48]) (.cond (.t 48) (.reg r136_12 [2, 4, 7, 11]) (.seq (.reg r136_13 [2, 4, 9, 10, 43, 56]) (.cond (.t 56) (.reg r136_14 [2, 4, 7, 11]) (.seq (.reg r136_15 [2, 4, 9, 10, 43, 64]) (.cond (.t 64) (.reg r136_16 [2, 4, 7, 11]) (.seq (.reg r136_17 [4, 9, 10, 43, 72]) (.cond (.t 72) (.seq (.reg r136_18 [4, 5]) .ret) (.seq (.reg r136_19 [4, 9, 10, 43, 78]) (.cond (.t 78) (.seq (.reg r136_20 [4, 5]) .ret) (.seq (.reg r136_21 [4, 9, 10, 84]) (.cond (.t 84) (.seq (.reg r136_22 [4, 5]) .ret) (.seq (.reg r136_10 [4, 5]) .ret))))))))))))))) (.seq (.reg r136_23 [4, 5]) .ret))))))))), [.c 4 true 3, .t 5], true⟩
/-- sortilege/sortilegeref09.at -/
@[go_sem] def r137_0 : OL := [o 4 (.mv (i 0))]
@[go_sem] def r137_1 : OL := [o 5 (.mv (i 0))]
@[go_sem] def r137_2 : OL := [m 6 5, m 7 0, o 8 (.lenv (t 7)), o 9 (.bin .plain .lss (t 6) (t 8))]
@[go_sem] def r137_4 : OL := [m 12 0, m 13 5, o 14 (.ixa 7 (t 12) (t 13)), o 15 (.fa 0 (t 14)), o 16 (.load false 1 (t 15)), m 17 1, o 18 (.bin .plain .eql (t 16) (t 17))]
@[go_sem] def r137_5 : OL := [m 19 5, m 4 19]
@[go_sem] def r137_3 : OL := [m 10 5, o 11 (.bin .plain .add (t 10) (i 1)), m 5 11]
@[go_sem] def r137_6 : OL := [o 4 (.mv (i (-1)))]
def L_ref09_at_0 : AC := (.seq (.seq (.reg r137_2 [0, 1, 5, 9]) (.cond (.t 9) .skip (.exit 0))) (.seq (.block 1 (.seq (.reg r137_4 [0, 1, 5, 18]) (.cond (.t 18) (.seq (.reg r137_5 [4]) .ret) .skip))) (.reg r137_3 [0, 1, 5])))
theorem L_ref09_at_0_eq {E : Env} {fr : Fr} {h : AH} (keep : List Nat) : LP E L_ref09_at_0 keep fr h = XS E (.seq (.seq (.reg r137_2 [0, 1, 5, 9]) (.cond (.t 9) .skip (.exit 0))) (.seq (.block 1 (.seq (.reg r137_4 [0, 1, 5, 18]) (.cond (.t 18) (.seq (.reg r137_5 [4]) .ret) .skip))) (.reg r137_3 [0, 1, 5]))) [.lp L_ref09_at_0 keep] (keepFr keep fr) h := LP_XS L_ref09_at_0 keep
def F_ref09_at : AFn := ⟨20, (.seq (.reg r137_0 [0, 1]) (.seq (.seq (.reg r137_1 [0, 1, 5]) (.block 0 (.loop L_ref09_at_0 [0, 1, 5]))) (.seq (.reg r137_6 [4]) .ret))), [.t 4], true⟩
/-- sortilege/sortilegeref09.names -/
@[go_sem] def r138_0 : OL := [o 1 (.boxv (t 0)), o 2 (.mv (.c (.vs [] .exact)))]
@[go_sem] def r138_1 : OL := [o 5 (.fa 0 (t 1)), o 6 (.load false 1 (t 5)), o 7 (.bin .plain .eql (t 6) (.c (.str [110, 97, 109, 101])))]
@[go_sem] def r138_2 : OL := [o 8 (.fa 1 (t 1)), o 9 (.load false 1 (t 8)), o 10 (.fa 4 (t 1)), o 11 (.load false 1 (t 10)), o 12 (.build [.str [], .str [], .str [], .int .i64 0, .vs [] .exact, .int .i64 0, .int .i64 0] [(0, 1, (t 9)), (6, 1, (t 11))]), o 13 (.bslice [.str [], .str [], .str [], .int .i64 0, .vs [] .exact, .int .i64 0, .int .i64 0] 1 [(0, (t 12))]), m 2 13]
@[go_sem] def r138_3 : OL := [o 3 (.mv (.c (.vs [] .exact)))]
@[go_sem] def r138_4 : OL := [o 4 (.mv (i 0))]
@[go_sem] def r138_5 : OL := [m 14 4, o 15 (.fa 3 (t 1)), o 16 (.load false 1 (t 15)), o 17 (.lenv (t 16)), o 18 (.bin .plain .lss (t 14) (t 17))]
@[go_sem] def r138_7 : OL := [m 21 3, o 22 (.fa 3 (t 1)), o 23 (.load false 1 (t 22)), m 24 4, o 25 (.ixa 5 (t 23) (t 24)), o 26 (.load true 5 (t 25)), o 27 (.call K_ref09_names [(t 26)]), o 28 (.append 7 (t 21) (t 27)), m 3 28]
@[go_sem] def r138_6 : OL := [m 19 4, o 20 (.bin .plain .add (t 19) (i 1)), m 4 20]
@[go_sem] def r138_8 : OL := [m 29 3, m 2 29]
def L_ref09_names_0 : AC := (.seq (.seq (.reg r138_5 [1, 3, 4, 18]) (.cond (.t 18) .skip (.exit 0))) (.seq (.block 1 (.reg r138_7 [1, 3, 4])) (.reg r138_6 [1, 3, 4])))
theorem L_ref09_names_0_eq {E : Env} {fr : Fr} {h : AH} (keep : List Nat) : LP E L_ref09_names_0 keep fr h = XS E (.seq (.seq (.reg r138_5 [1, 3, 4, 18]) (.cond (.t 18) .skip (.exit 0))) (.seq (.block 1 (.reg r138_7 [1, 3, 4])) (.reg r138_6 [1, 3, 4]))) [.lp L_ref09_names_0 keep] (keepFr keep fr) h := LP_XS L_ref09_names_0 keep
def F_ref09_names : AFn := ⟨30, (.seq (.reg r138_0 [1]) (.seq (.seq (.reg r138_1 [1, 7]) (.cond (.t 7) (.seq (.reg r138_2 [2]) .ret) .skip)) (.seq (.reg r138_3 [1, 3]) (.seq (.seq (.reg r138_4 [1, 3, 4]) (.block 0 (.loop L_ref09_names_0 [1, 3, 4]))) (.seq (.reg r138_8 [2]) .ret))))), [.t 2], true⟩
/-- sortilege/sortilegeref03.Add -/
@[go_sem] def r139_0 : OL := [o 4 (.mv (i 0)), o 5 (.mv (.c (.bool false)))]
@[go_sem] def r139_1 : OL := [m 10 0, o 11 (.bin .plain .lss (t 10) (i 0)), m 12 1, o 13 (.bin .plain .lss (t 12) (i 0)), o 14 (.bin .bool .eql (t 11) (t 13))]
@[go_sem] def r139_2 : OL := [m 16 0, o 17 (.call K_ref03_size [(t 16)]), m 18 1, o 19 (.call K_ref03_size [(t 18)]), o 20 (.call K_math_bits_Add64 [(t 17), (t 19), (.c (.int .u64 0))]), m 15 20, o 21 (.extr (t 15) 0), o 22 (.extr (t 15) 1), m 6 21, m 7 22]
@[go_sem] def r139_3 : OL := [m 23 7, m 24 6, m 25 0, o 26 (.bin .plain .lss (t 25) (i 0)), o 27 (.build [.int .u64 0, .int .u64 0, .bool false] [(0, 1, (t 23)), (1, 1, (t 24)), (2, 1, (t 26))]), o 28 (.call K_ref03_Wide_Fits [(t 27)]), o 29 (.extr (t 28) 0), o 30 (.extr (t 28) 1), m 4 29, m 5 30]
@[go_sem] def r139_4 : OL := [m 31 0, o 32 (.call K_ref03_size [(t 31)]), m 33 1, o 34 (.call K_ref03_size [(t 33)]), m 8 32, m 9 34]
@[go_sem] def r139_5 : OL := [m 35 8, m 36 9, o 37 (.bin .plain .geq (t 35) (t 36))]
@[go_sem] def r139_6 : OL := [m 38 8, m 39 9, o 40 (.bin .plain .sub (t 38) (t 39)), m 41 0, o 42 (.bin .plain .lss (t 41) (i 0)), o 43 (.build [.int .u64 0, .int .u64 0, .bool false] [(0, 1, (.c (.int .u64 0))), (1, 1, (t 40)), (2, 1, (t 42))]), o 44 (.call K_ref03_Wide_Fits [(t 43)]), o 45 (.extr (t 44) 0), o 46 (.extr (t 44) 1), m 4 45, m 5 46]
@[go_sem] def r139_7 : OL := [m 47 9, m 48 8, o 49 (.bin .plain .sub (t 47) (t 48)), m 50 1, o 51 (.bin .plain .lss (t 50) (i 0)), o 52 (.build [.int .u64 0, .int .u64 0, .bool false] [(0, 1, (.c (.int .u64 0))), (1, 1, (t 49)), (2, 1, (t 51))]), o 53 (.call K_ref03_Wide_Fits [(t 52)]), o 54 (.extr (t 53) 0), o 55 (.extr (t 53) 1), m 4 54, m 5 55]
def F_ref03_Add : AFn := ⟨56, (.seq (.reg r139_0 [0, 1]) (.seq (.seq (.reg r139_1 [0, 1, 14]) (.cond (.t 14) (.seq (.reg r139_2 [0, 6, 7]) (.seq (.reg r139_3 [4, 5]) .ret)) .skip)) (.seq (.reg r139_4 [0, 1, 8, 9]) (.seq (.seq (.reg r139_5 [0, 1, 8, 9, 37]) (.cond (.t 37) (.seq (.reg r139_6 [4, 5]) .ret) .skip)) (.seq (.reg r139_7 [4, 5]) .ret))))), [.t 4, .t 5], true⟩
/-- sortilege/sortilegeref03.Sub -/
@[go_sem] def r140_0 : OL := [o 4 (.mv (i 0)), o 5 (.mv (.c (.bool false)))]
@[go_sem] def r140_1 : OL := [m 6 1, o 7 (.bin .plain .eql (t 6) (i (-9223372036854775808)))]
@[go_sem] def r140_2 : OL := [m 8 0, o 9 (.bin .plain .geq (t 8) (i 0))]
@[go_sem] def r140_3 : OL := [o 4 (.mv (i 0)), o 5 (.mv (.c (.bool false)))]
@[go_sem] def r140_4 : OL := [m 10 0, o 11 (.call K_ref03_size [(t 10)]), o 12 (.bin .plain .sub (.c (.int .u64 9223372036854775808)) (t 11)), o 13 (.build [.int .u64 0, .int .u64 0, .bool false] [(0, 1, (.c (.int .u64 0))), (1, 1, (t 12)), (2, 1, (.c (.bool false)))]), o 14 (.call K_ref03_Wide_Fits [(t 13)]), o 15 (.extr (t 14) 0), o 16 (.extr (t 14) 1), m 4 15, m 5 16]
@[go_sem] def r140_5 : OL := [m 17 0, m 18 1, o 19 (.un .neg (t 18)), o 20 (.call K_ref03_Add [(t 17), (t 19)]), o 21 (.extr (t 20) 0), o 22 (.extr (t 20) 1), m 4 21, m 5 22]
def F_ref03_Sub : AFn := ⟨23, (.seq (.reg r140_0 [0, 1]) (.seq (.seq (.reg r140_1 [0, 1, 7]) (.cond (.t 7) (.seq (.seq (.reg r140_2 [0, 9]) (.cond (.t 9) (.seq (.reg r140_3 [4, 5]) .ret) .skip)) (.seq (.reg r140_4 [4, 5]) .ret)) .skip)) (.seq (.reg r140_5 [4, 5]) .ret))), [.t 4, .t 5], true⟩
/-- sortilege/sortilegeref03.Mul -/
@[go_sem] def r141_0 : OL := [o 4 (.mv (i 0)), o 5 (.mv (.c (.bool false)))]
@[go_sem] def r141_1 : OL := [m 9 0, o 10 (.call K_ref03_size [(t 9)]), m 11 1, o 12 (.call K_ref03_size [(t 11)]), o 13 (.call K_math_bits_Mul64 [(t 10), (t 12)]), m 8 13, o 14 (.extr (t 8) 0), o 15 (.extr (t 8) 1), m 6 14, m 7 15]
@[go_sem] def r141_2 : OL := [m 16 6, m 17 7, m 18 0, o 19 (.bin .plain .lss (t 18) (i 0)), m 20 1, o 21 (.bin .plain .lss (t 20) (i 0)), o 22 (.bin .bool .neq (t 19) (t 21)), o 23 (.build [.int .u64 0, .int .u64 0, .bool false] [(0, 1, (t 16)), (1, 1, (t 17)), (2, 1, (t 22))]), o 24 (.call K_ref03_Wide_Fits [(t 23)]), o 25 (.extr (t 24) 0), o 26 (.extr (t 24) 1), m 4 25, m 5 26]
def F_ref03_Mul : AFn := ⟨27, (.seq (.reg r141_0 [0, 1]) (.seq (.reg r141_1 [0, 1, 6, 7]) (.seq (.reg r141_2 [4, 5]) .ret))), [.t 4, .t 5], true⟩
/-- internal/stringslite.HasPrefix -/
@[go_sem] def r142_0 : OL := [o 4 (.mv (.c (.bool false)))]
@[go_sem] def r142_1 : OL := [m 5 0, o 6 (.lens (t 5)), m 7 1, o 8 (.lens (t 7)), o 9 (.bin .plain .geq (t 6) (t 8)), m 10 9, g 11 (.mv (t 0)) 10 true, g 12 (.mv (t 1)) 10 true, g 13 (.lens (t 12)) 10 true, g 14 (.slcs (t 11) none (some (t 13))) 10 true, g 15 (.mv (t 1)) 10 true, g 16 (.bin .plain .eql (t 14) (t 15)) 10 true, o 17 (.pick (t 10) (t 16) (.c (.bool false))), m 4 17]
def F_internal_stringslite_HasPrefix : AFn := ⟨18, (.seq (.reg r142_0 [0, 1]) (.seq (.reg r142_1 [4]) .ret)), [.t 4], true⟩
/-- internal/stringslite.Cut -/
@[go_sem] def r143_0 : OL := [o 4 (.mv (.c (.str []))), o 5 (.mv (.c (.str []))), o 6 (.mv (.c (.bool false)))]
@[go_sem] def r143_1 : OL := [m 8 0, m 9 1, o 10 (.call K_internal_stringslite_Index [(t 8), (t 9)]), m 7 10]
@[go_sem] def r143_2 : OL := [m 11 7, o 12 (.bin .plain .geq (t 11) (i 0))]
@[go_sem] def r143_3 : DL := [.val 0 none (m 13 0), .val 1 none (m 14 7), .val 2 none (o 15 (.slcs (t 13) none (some (t 14)))), .val 3 none (m 16 0), .val 4 none (m 17 7), .val 5 none (m 18 1), .val 6 none (o 19 (.lens (t 18))), .val 7 none (o 20 (.bin .plain .add (t 17) (t 19))), .val 8 none (o 21 (.slcs (t 16) (some (t 20)) none)), .val 9 none (m 4 15), .val 10 none (m 5 21), .val 11 none (o 6 (.mv (.c (.bool true))))]
@[go_sem] def r143_4 : OL := [m 22 0, m 4 22, o 5 (.mv (.c (.str []))), o 6 (.mv (.c (.bool false)))]
def F_internal_stringslite_Cut : AFn := ⟨23, (.seq (.reg r143_0 [0, 1]) (.seq (.seq (.reg r143_1 [0, 1, 7]) (.seq (.reg r143_2 [0, 1, 7, 12]) (.cond (.t 12) (.seq (.regd r143_3 [] [4, 5, 6]) .ret) .skip))) (.seq (.reg r143_4 [4, 5, 6]) .ret))), [.t 4, .t 5, .t 6], true⟩
/-- strings.IndexByte -/
@[go_sem] def r144_0 : OL := [o 4 (.mv (i 0))]
@[go_sem] def r144_1 : OL := [m 5 0, m 6 1, o 7 (.call K_internal_stringslite_IndexByte [(t 5), (t 6)]), m 4 7]
def F_strings_IndexByte : AFn := ⟨8, (.seq (.reg r144_0 [0, 1]) (.seq (.reg r144_1 [4]) .ret)), [.t 4], true⟩
/-- (*sortilege/expr.parser).part -/
@[go_sem] def r145_0 : OL := [o 6 (.alloc [.str [], .str [], .int .i64 0, .vs [] .exact, .int .i64 0]), o 7 (.mv (.c .nili))]
@[go_sem] def r145_1 : OL := [m 8 1]
@[go_sem] def r145_2 : OL := [o 10 (.bin .plain .eql (t 8) (i 3)), m 9 10]
@[go_sem] def r145_3 : OL := [m 11 0, m 12 2, o 13 (.call K_expr_parser_chain [(t 11), (i 4), (t 12)]), o 14 (.extr (t 13) 0), o 15 (.extr (t 13) 1), s (.store 5 (t 6) (t 14)), m 7 15]
@[go_sem] def r145_4 : OL := [o 17 (.bin .plain .eql (t 8) (i 4)), m 16 17]
@[go_sem] def r145_5 : OL := [m 18 0, m 19 2, o 20 (.call K_expr_parser_not [(t 18), (t 19)]), o 21 (.extr (t 20) 0), o 22 (.extr (t 20) 1), s (.store 5 (t 6) (t 21)), m 7 22]
@[go_sem] def r145_6 : OL := [o 24 (.bin .plain .eql (t 8) (i 7)), m 23 24]
@[go_sem] def r145_7 : OL := [m 25 0, m 26 2, o 27 (.call K_expr_parser_chain [(t 25), (i 8), (t 26)]), o 28 (.extr (t 27) 0), o 29 (.extr (t 27) 1), s (.store 5 (t 6) (t 28)), m 7 29]
@[go_sem] def r145_8 : OL := [m 30 0, m 31 2, o 32 (.call K_expr_parser_minus [(t 30), (t 31)]), o 33 (.extr (t 32) 0), o 34 (.extr (t 32) 1), s (.store 5 (t 6) (t 33)), m 7 34]
def F_expr_parser_part : AFn := ⟨35, (.seq (.reg r145_0 [0, 1, 2, 6]) (.seq (.seq (.reg r145_1 [0, 2, 6, 8]) (.block 0 (.seq (.reg r145_2 [0, 2, 6, 8, 9]) (.cond (.t 9) (.seq (.reg r145_3 [6, 7]) .ret) (.seq (.reg r145_4 [0, 2, 6, 8, 16]) (.cond (.t 16) (.seq (.reg r145_5 [6, 7]) .ret) (.seq (.reg r145_6 [0, 2, 6, 23]) (.cond (.t 23) (.seq (.reg r145_7 [6, 7]) .ret) .skip)))))))) (.seq (.reg r145_8 [6, 7]) .ret))), [.c 6 true 5, .t 7], true⟩
end Go.Proofs.YtfahpmlckobpmaaGreatDoor.Pi
