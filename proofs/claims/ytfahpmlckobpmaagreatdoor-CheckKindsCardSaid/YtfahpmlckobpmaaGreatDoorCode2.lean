/- The code of the functions, for the abstract run: written by gen.py. -/
import Derived.Test.YtfahpmlckobpmaaGreatDoorNames
namespace Go.Proofs.YtfahpmlckobpmaaGreatDoor.Pi
open Go Cd
/-- (*sortilege/expr.parser).sign -/
@[go_sem] def r146_0 : OL := [o 4 (.mv (.c (.str [])))]
@[go_sem] def r146_1 : OL := [m 6 1, o 7 (.bin .plain .eql (t 6) (i 3)), m 8 7, g 9 (.mv (t 0)) 8 true, g 10 (.nilck (t 9)) 8 true, g 11 (.fa 0 (t 10)) 8 true, g 12 (.load false 1 (t 11)) 8 true, g 13 (.call K_scan_Reader_Skip [(t 12), (.c (.str [124]))]) 8 true, o 14 (.pick (t 8) (t 13) (.c (.bool false))), m 5 14]
@[go_sem] def r146_2 : OL := [o 4 (.mv (.c (.str [124])))]
@[go_sem] def r146_3 : OL := [m 16 1, o 17 (.bin .plain .eql (t 16) (i 4)), m 18 17, g 19 (.mv (t 0)) 18 true, g 20 (.nilck (t 19)) 18 true, g 21 (.fa 0 (t 20)) 18 true, g 22 (.load false 1 (t 21)) 18 true, g 23 (.call K_scan_Reader_Skip [(t 22), (.c (.str [38]))]) 18 true, o 24 (.pick (t 18) (t 23) (.c (.bool false))), m 15 24]
@[go_sem] def r146_4 : OL := [o 4 (.mv (.c (.str [38])))]
@[go_sem] def r146_5 : OL := [m 26 1, o 27 (.bin .plain .eql (t 26) (i 7)), m 28 27, g 29 (.mv (t 0)) 28 true, g 30 (.nilck (t 29)) 28 true, g 31 (.fa 0 (t 30)) 28 true, g 32 (.load false 1 (t 31)) 28 true, g 33 (.call K_scan_Reader_Skip [(t 32), (.c (.str [43]))]) 28 true, o 34 (.pick (t 28) (t 33) (.c (.bool false))), m 25 34]
@[go_sem] def r146_6 : OL := [o 4 (.mv (.c (.str [43])))]
@[go_sem] def r146_7 : OL := [m 36 1, o 37 (.bin .plain .eql (t 36) (i 7)), m 38 37, g 39 (.mv (t 0)) 38 true, g 40 (.nilck (t 39)) 38 true, g 41 (.fa 0 (t 40)) 38 true, g 42 (.load false 1 (t 41)) 38 true, g 43 (.call K_scan_Reader_Skip [(t 42), (.c (.str [45]))]) 38 true, o 44 (.pick (t 38) (t 43) (.c (.bool false))), m 35 44]
@[go_sem] def r146_8 : OL := [o 4 (.mv (.c (.str [45])))]
@[go_sem] def r146_9 : OL := [m 46 1, o 47 (.bin .plain .eql (t 46) (i 8)), m 48 47, g 49 (.mv (t 0)) 48 true, g 50 (.nilck (t 49)) 48 true, g 51 (.fa 0 (t 50)) 48 true, g 52 (.load false 1 (t 51)) 48 true, g 53 (.call K_scan_Reader_Skip [(t 52), (.c (.str [42]))]) 48 true, o 54 (.pick (t 48) (t 53) (.c (.bool false))), m 45 54]
@[go_sem] def r146_10 : OL := [o 4 (.mv (.c (.str [42])))]
@[go_sem] def r146_11 : OL := [o 4 (.mv (.c (.str [])))]
def F_expr_parser_sign : AFn := ⟨55, (.seq (.reg r146_0 [0, 1]) (.seq (.block 0 (.seq (.reg r146_1 [0, 1, 5]) (.cond (.t 5) (.seq (.reg r146_2 [4]) .ret) (.seq (.reg r146_3 [0, 1, 15]) (.cond (.t 15) (.seq (.reg r146_4 [4]) .ret) (.seq (.reg r146_5 [0, 1, 25]) (.cond (.t 25) (.seq (.reg r146_6 [4]) .ret) (.seq (.reg r146_7 [0, 1, 35]) (.cond (.t 35) (.seq (.reg r146_8 [4]) .ret) (.seq (.reg r146_9 [45]) (.cond (.t 45) (.seq (.reg r146_10 [4]) .ret) .skip))))))))))) (.seq (.reg r146_11 [4]) .ret))), [.t 4], true⟩
/-- slices.ContainsFunc[[]sortilege/value.Bind,sortilege/value.Bind] -/
@[go_sem] def r148_0 : OL := [o 4 (.mv (.c (.bool false)))]
@[go_sem] def r148_1 : OL := [m 5 0, m 6 1, o 7 (.call K_slices_IndexFunc_value_Bind_value_Bind [(t 5), (t 6)]), o 8 (.bin .plain .geq (t 7) (i 0)), m 4 8]
def F_slices_ContainsFunc_value_Bind_value_Bind : AFn := ⟨9, (.seq (.reg r148_0 [0, 1]) (.seq (.reg r148_1 [4]) .ret)), [.t 4], true⟩
/-- sortilege/fold.named$1 -/
@[go_sem] def r149_0 : OL := [o 2 (.boxv (t 0)), o 3 (.mv (.c (.bool false)))]
@[go_sem] def r149_1 : OL := [o 4 (.fa 0 (t 2)), o 5 (.load false 1 (t 4)), o 6 (.fa 1 (t 1)), o 7 (.load false 1 (t 6)), o 8 (.bin .plain .eql (t 5) (t 7)), m 3 8]
def F_fold_named_1 : AFn := ⟨9, (.seq (.reg r149_0 [1, 2]) (.seq (.reg r149_1 [3]) .ret)), [.t 3], true⟩
/-- (*sortilege/fold.folder).name -/
@[go_sem] def r150_0 : OL := [o 4 (.boxv (t 1)), o 6 (.alloc [.str [], .str [], .int .i64 0, .vs [] .exact, .int .i64 0]), o 7 (.mv (.c .nili))]
@[go_sem] def r150_1 : DL := [.val 0 none (m 11 0), .val 1 none (o 12 (.nilck (t 11))), .val 2 none (o 13 (.fa 4 (t 12))), .val 3 none (o 14 (.load false 1 (t 13))), .val 4 none (o 15 (.fa 1 (t 4))), .val 5 none (o 16 (.load false 1 (t 15))), .val 6 none (o 17 (.lookup 1 false (.nilp) (t 14) (t 16))), .val 7 none (m 8 17)]
@[go_sem] def r150_2 : OL := [m 19 8, o 20 (.bin .ptr .eql (t 19) (.c .nilp)), m 21 20, g 22 (.mv (t 2)) 21 false, g 23 (.mv (t 22)) 21 false, g 24 (.mv (t 8)) 23 true, g 25 (.nilck (t 24)) 23 true, g 26 (.fa 0 (t 25)) 23 true, g 27 (.load false 1 (t 26)) 23 true, g 28 (.bin .plain .neq (t 27) (i 1)) 23 true, g 29 (.pick (t 23) (t 28) (.c (.bool false))) 21 false, o 30 (.pick (t 21) (.c (.bool true)) (t 29)), m 18 30]
@[go_sem] def r150_3 : OL := [o 31 (.build [.str [], .str [], .int .i64 0, .vs [] .exact, .int .i64 0] []), o 32 (.fa 4 (t 4)), o 33 (.load false 1 (t 32)), o 34 (.mkI T_api_Errno (i 30)), o 35 (.call K_fold_at [(t 33), (t 34)]), s (.store 5 (t 6) (t 31)), m 7 35]
@[go_sem] def r150_4 : OL := [m 37 8, o 38 (.nilck (t 37)), o 39 (.fa 0 (t 38)), o 40 (.load false 1 (t 39)), o 41 (.bin .plain .eql (t 40) (i 1)), m 36 41]
@[go_sem] def r150_5 : DL := [.val 0 none (m 42 8), .val 1 none (o 43 (.nilck (t 42))), .val 2 none (o 44 (.fa 9 (t 43))), .val 3 none (o 45 (.load true 3 (t 44))), .val 4 none (o 46 (.fa 4 (t 4))), .val 5 none (o 47 (.load false 1 (t 46))), .eff [] 6 (o 48 (.call K_fold_literal [(t 45), (t 47)])), .eff [] 7 (s (.store 5 (t 6) (t 48))), .val 8 none (o 7 (.mv (.c .nili)))]
@[go_sem] def r150_6 : OL := [m 50 8, o 51 (.nilck (t 50)), o 52 (.fa 0 (t 51)), o 53 (.load false 1 (t 52)), o 54 (.bin .plain .eql (t 53) (i 3)), m 49 54]
@[go_sem] def r150_7 : OL := [o 55 (.load true 5 (t 4)), s (.store 5 (t 6) (t 55)), o 7 (.mv (.c .nili))]
@[go_sem] def r150_8 : OL := [m 57 8, o 58 (.nilck (t 57)), o 59 (.fa 8 (t 58)), o 60 (.load false 1 (t 59)), o 61 (.bin .plain .eql (t 60) (i 1)), m 56 61]
@[go_sem] def r150_9 : OL := [o 62 (.build [.str [], .str [], .int .i64 0, .vs [] .exact, .int .i64 0] []), o 63 (.fa 4 (t 4)), o 64 (.load false 1 (t 63)), o 65 (.mkI T_api_Errno (i 31)), o 66 (.call K_fold_at [(t 64), (t 65)]), s (.store 5 (t 6) (t 62)), m 7 66]
@[go_sem] def r150_10 : OL := [m 68 8, o 69 (.nilck (t 68)), o 70 (.fa 8 (t 69)), o 71 (.load false 1 (t 70)), o 72 (.bin .plain .eql (t 71) (i 0)), m 67 72]
@[go_sem] def r150_11 : OL := [m 73 0, m 74 8, o 75 (.call K_fold_folder_formula [(t 73), (t 74)]), m 9 75]
@[go_sem] def r150_12 : OL := [m 76 9, o 77 (.bin .iface .neq (t 76) (.c .nili))]
@[go_sem] def r150_13 : OL := [o 78 (.build [.str [], .str [], .int .i64 0, .vs [] .exact, .int .i64 0] []), m 79 9, s (.store 5 (t 6) (t 78)), m 7 79]
@[go_sem] def r150_14 : OL := [m 80 8, o 81 (.nilck (t 80)), o 82 (.fa 12 (t 81)), o 83 (.load true 5 (t 82)), o 10 (.alloc [.str [], .str [], .int .i64 0, .vs [] .exact, .int .i64 0]), s (.store 5 (t 10) (t 83))]
@[go_sem] def r150_15 : OL := [o 84 (.fa 4 (t 4)), o 85 (.load false 1 (t 84)), o 86 (.fa 4 (t 10)), s (.store 1 (t 86) (t 85))]
@[go_sem] def r150_16 : OL := [o 87 (.load true 5 (t 10)), s (.store 5 (t 6) (t 87)), o 7 (.mv (.c .nili))]
def F_fold_folder_name : AFn := ⟨88, (.seq (.reg r150_0 [0, 2, 4, 6]) (.seq (.regd r150_1 [] [0, 2, 4, 6, 8]) (.seq (.block 0 (.seq (.reg r150_2 [0, 4, 6, 8, 18]) (.cond (.t 18) (.seq (.reg r150_3 [6, 7]) .ret) (.seq (.reg r150_4 [0, 4, 6, 8, 36]) (.cond (.t 36) (.seq (.regd r150_5 [] [6, 7]) .ret) (.seq (.reg r150_6 [0, 4, 6, 8, 49]) (.cond (.t 49) (.seq (.reg r150_7 [6, 7]) .ret) (.seq (.reg r150_8 [0, 4, 6, 8, 56]) (.cond (.t 56) (.seq (.reg r150_9 [6, 7]) .ret) (.seq (.reg r150_10 [0, 4, 6, 8, 67]) (.cond (.t 67) (.seq (.reg r150_11 [4, 6, 8, 9]) (.seq (.reg r150_12 [4, 6, 8, 9, 77]) (.cond (.t 77) (.seq (.reg r150_13 [6, 7]) .ret) .skip))) .skip))))))))))) (.seq (.reg r150_14 [4, 6, 10]) (.seq (.reg r150_15 [6, 10]) (.seq (.reg r150_16 [6, 7]) .ret)))))), [.c 6 true 5, .t 7], true⟩
/-- sortilege/value.Number -/
@[go_sem] def r151_0 : OL := [o 2 (.alloc [.bool false, .bool false, .int .i64 0])]
@[go_sem] def r151_1 : OL := [m 3 0, o 4 (.build [.bool false, .bool false, .int .i64 0] [(2, 1, (t 3))]), s (.store 3 (t 2) (t 4))]
def F_value_Number : AFn := ⟨5, (.seq (.reg r151_0 [0, 2]) (.seq (.reg r151_1 [2]) .ret)), [.c 2 true 3], true⟩
/-- slices.IndexFunc[[]sortilege/value.Bind,sortilege/value.Bind] -/
@[go_sem] def r152_0 : OL := [o 4 (.mv (i 0))]
@[go_sem] def r152_1 : OL := [m 6 0, o 7 (.lenv (t 6)), o 8 (.mv (i 0))]
@[go_sem] def r152_2 : OL := [o 9 (.bin .plain .lss (t 8) (t 7))]
@[go_sem] def r152_3 : OL := [m 10 8, m 5 10]
@[go_sem] def r152_4 : OL := [m 11 1, m 12 0, m 13 5, o 14 (.ixa 4 (t 12) (t 13)), o 15 (.load true 4 (t 14)), o 16 (.callv (t 11) [(t 15)])]
@[go_sem] def r152_5 : OL := [m 17 5, m 4 17]
@[go_sem] def r152_6 : OL := [o 18 (.bin .plain .add (t 8) (i 1)), m 8 18]
@[go_sem] def r152_7 : OL := [o 4 (.mv (i (-1)))]
def L_slices_IndexFunc_value_Bind_value_Bind_0 : AC := (.seq (.reg r152_2 [0, 1, 7, 8, 9]) (.seq (.cond (.t 9) .skip (.exit 0)) (.seq (.block 1 (.seq (.reg r152_3 [0, 1, 5, 7, 8]) (.seq (.reg r152_4 [0, 1, 5, 7, 8, 16]) (.cond (.t 16) (.seq (.reg r152_5 [4]) .ret) .skip)))) (.reg r152_6 [0, 1, 7, 8]))))
theorem L_slices_IndexFunc_value_Bind_value_Bind_0_eq {E : Env} {fr : Fr} {h : AH} (keep : List Nat) : LP E L_slices_IndexFunc_value_Bind_value_Bind_0 keep fr h = XS E (.seq (.reg r152_2 [0, 1, 7, 8, 9]) (.seq (.cond (.t 9) .skip (.exit 0)) (.seq (.block 1 (.seq (.reg r152_3 [0, 1, 5, 7, 8]) (.seq (.reg r152_4 [0, 1, 5, 7, 8, 16]) (.cond (.t 16) (.seq (.reg r152_5 [4]) .ret) .skip)))) (.reg r152_6 [0, 1, 7, 8])))) [.lp L_slices_IndexFunc_value_Bind_value_Bind_0 keep] (keepFr keep fr) h := LP_XS L_slices_IndexFunc_value_Bind_value_Bind_0 keep
def F_slices_IndexFunc_value_Bind_value_Bind : AFn := ⟨19, (.seq (.reg r152_0 [0, 1]) (.seq (.seq (.reg r152_1 [0, 1, 7, 8]) (.block 0 (.loop L_slices_IndexFunc_value_Bind_value_Bind_0 [0, 1, 7, 8]))) (.seq (.reg r152_7 [4]) .ret))), [.t 4], true⟩
/-- sortilege/value.plain$1 -/
@[go_sem] def r153_0 : OL := [o 2 (.boxv (t 0)), o 3 (.mv (.c (.bool false)))]
@[go_sem] def r153_1 : OL := [o 4 (.fa 0 (t 2)), o 5 (.load false 1 (t 4)), o 6 (.fa 1 (t 1)), o 7 (.load false 1 (t 6)), o 8 (.bin .plain .eql (t 5) (t 7)), m 3 8]
def F_value_plain_1 : AFn := ⟨9, (.seq (.reg r153_0 [1, 2]) (.seq (.reg r153_1 [3]) .ret)), [.t 3], true⟩
/-- sortilege/safe.Sub -/
@[go_sem] def r154_0 : OL := [o 4 (.mv (i 0)), o 5 (.mv (.c .nili))]
@[go_sem] def r154_1 : OL := [m 7 0, m 8 1, o 9 (.bin .plain .sub (t 7) (t 8)), m 6 9]
@[go_sem] def r154_2 : OL := [m 10 0, o 11 (.bin .plain .lss (t 10) (i 0)), m 12 1, o 13 (.bin .plain .lss (t 12) (i 0)), o 14 (.bin .bool .neq (t 11) (t 13)), m 15 14, g 16 (.mv (t 6)) 15 true, g 17 (.bin .plain .lss (t 16) (i 0)) 15 true, g 18 (.mv (t 0)) 15 true, g 19 (.bin .plain .lss (t 18) (i 0)) 15 true, g 20 (.bin .bool .neq (t 17) (t 19)) 15 true, o 21 (.pick (t 15) (t 20) (.c (.bool false)))]
@[go_sem] def r154_3 : OL := [o 22 (.mkI T_api_Errno (i 10)), o 4 (.mv (i 0)), m 5 22]
@[go_sem] def r154_4 : OL := [m 23 6, m 4 23, o 5 (.mv (.c .nili))]
def F_safe_Sub : AFn := ⟨24, (.seq (.reg r154_0 [0, 1]) (.seq (.reg r154_1 [0, 1, 6]) (.seq (.seq (.reg r154_2 [6, 21]) (.cond (.t 21) (.seq (.reg r154_3 [4, 5]) .ret) .skip)) (.seq (.reg r154_4 [4, 5]) .ret)))), [.t 4, .t 5], true⟩
/-- sortilege/safe.Add -/
@[go_sem] def r155_0 : OL := [o 4 (.mv (i 0)), o 5 (.mv (.c .nili))]
@[go_sem] def r155_1 : OL := [m 7 0, m 8 1, o 9 (.bin .plain .add (t 7) (t 8)), m 6 9]
@[go_sem] def r155_2 : OL := [m 10 0, o 11 (.bin .plain .lss (t 10) (i 0)), m 12 1, o 13 (.bin .plain .lss (t 12) (i 0)), o 14 (.bin .bool .eql (t 11) (t 13)), m 15 14, g 16 (.mv (t 6)) 15 true, g 17 (.bin .plain .lss (t 16) (i 0)) 15 true, g 18 (.mv (t 0)) 15 true, g 19 (.bin .plain .lss (t 18) (i 0)) 15 true, g 20 (.bin .bool .neq (t 17) (t 19)) 15 true, o 21 (.pick (t 15) (t 20) (.c (.bool false)))]
@[go_sem] def r155_3 : OL := [o 22 (.mkI T_api_Errno (i 10)), o 4 (.mv (i 0)), m 5 22]
@[go_sem] def r155_4 : OL := [m 23 6, m 4 23, o 5 (.mv (.c .nili))]
def F_safe_Add : AFn := ⟨24, (.seq (.reg r155_0 [0, 1]) (.seq (.reg r155_1 [0, 1, 6]) (.seq (.seq (.reg r155_2 [6, 21]) (.cond (.t 21) (.seq (.reg r155_3 [4, 5]) .ret) .skip)) (.seq (.reg r155_4 [4, 5]) .ret)))), [.t 4, .t 5], true⟩
/-- sortilege/safe.Mul -/
@[go_sem] def r156_0 : OL := [o 4 (.mv (i 0)), o 5 (.mv (.c .nili))]
@[go_sem] def r156_1 : OL := [m 7 0, o 8 (.bin .plain .eql (t 7) (i 0)), m 9 8, g 10 (.mv (t 1)) 9 false, g 11 (.bin .plain .eql (t 10) (i 0)) 9 false, o 12 (.pick (t 9) (.c (.bool true)) (t 11))]
@[go_sem] def r156_2 : OL := [o 4 (.mv (i 0)), o 5 (.mv (.c .nili))]
@[go_sem] def r156_3 : OL := [m 13 0, m 14 1, o 15 (.bin .plain .mul (t 13) (t 14)), m 6 15]
@[go_sem] def r156_4 : OL := [m 16 0, o 17 (.bin .plain .eql (t 16) (i (-1))), m 18 17, g 19 (.mv (t 1)) 18 true, g 20 (.bin .plain .eql (t 19) (i (-9223372036854775808))) 18 true, o 21 (.pick (t 18) (t 20) (.c (.bool false))), m 22 21, g 23 (.mv (t 1)) 22 false, g 24 (.bin .plain .eql (t 23) (i (-1))) 22 false, g 25 (.mv (t 24)) 22 false, g 26 (.mv (t 0)) 25 true, g 27 (.bin .plain .eql (t 26) (i (-9223372036854775808))) 25 true, g 28 (.pick (t 25) (t 27) (.c (.bool false))) 22 false, o 29 (.pick (t 22) (.c (.bool true)) (t 28)), m 30 29, g 31 (.mv (t 6)) 30 false, g 32 (.mv (t 1)) 30 false, g 33 (.bin .plain .quo (t 31) (t 32)) 30 false, g 34 (.mv (t 0)) 30 false, g 35 (.bin .plain .neq (t 33) (t 34)) 30 false, o 36 (.pick (t 30) (.c (.bool true)) (t 35))]
@[go_sem] def r156_5 : OL := [o 37 (.mkI T_api_Errno (i 10)), o 4 (.mv (i 0)), m 5 37]
@[go_sem] def r156_6 : OL := [m 38 6, m 4 38, o 5 (.mv (.c .nili))]
def F_safe_Mul : AFn := ⟨39, (.seq (.reg r156_0 [0, 1]) (.seq (.seq (.reg r156_1 [0, 1, 12]) (.cond (.t 12) (.seq (.reg r156_2 [4, 5]) .ret) .skip)) (.seq (.reg r156_3 [0, 1, 6]) (.seq (.seq (.reg r156_4 [6, 36]) (.cond (.t 36) (.seq (.reg r156_5 [4, 5]) .ret) .skip)) (.seq (.reg r156_6 [4, 5]) .ret))))), [.t 4, .t 5], true⟩
/-- sortilege/sortilegeref03.size -/
@[go_sem] def r158_0 : OL := [o 2 (.mv (.c (.int .u64 0)))]
@[go_sem] def r158_1 : OL := [m 3 0, o 4 (.bin .plain .lss (t 3) (i 0))]
@[go_sem] def r158_2 : OL := [m 5 0, o 6 (.bin .plain .add (t 5) (i 1)), o 7 (.un .neg (t 6)), o 8 (.conv .u64 (t 7)), o 9 (.bin .plain .add (t 8) (.c (.int .u64 1))), m 2 9]
@[go_sem] def r158_3 : OL := [m 10 0, o 11 (.conv .u64 (t 10)), m 2 11]
def F_ref03_size : AFn := ⟨12, (.seq (.reg r158_0 [0]) (.seq (.seq (.reg r158_1 [0, 4]) (.cond (.t 4) (.seq (.reg r158_2 [2]) .ret) .skip)) (.seq (.reg r158_3 [2]) .ret))), [.t 2], true⟩
/-- (sortilege/sortilegeref03.Wide).Fits -/
@[go_sem] def r159_0 : OL := [o 1 (.boxv (t 0)), o 2 (.mv (i 0)), o 3 (.mv (.c (.bool false)))]
@[go_sem] def r159_1 : OL := [o 4 (.fa 0 (t 1)), o 5 (.load false 1 (t 4)), o 6 (.bin .plain .gtr (t 5) (.c (.int .u64 0)))]
@[go_sem] def r159_2 : OL := [o 2 (.mv (i 0)), o 3 (.mv (.c (.bool false)))]
@[go_sem] def r159_3 : OL := [o 7 (.fa 2 (t 1)), o 8 (.load false 1 (t 7))]
@[go_sem] def r159_4 : OL := [o 9 (.fa 1 (t 1)), o 10 (.load false 1 (t 9)), o 11 (.bin .plain .gtr (t 10) (.c (.int .u64 9223372036854775808)))]
@[go_sem] def r159_5 : OL := [o 2 (.mv (i 0)), o 3 (.mv (.c (.bool false)))]
@[go_sem] def r159_6 : OL := [o 12 (.fa 1 (t 1)), o 13 (.load false 1 (t 12)), o 14 (.bin .plain .eql (t 13) (.c (.int .u64 9223372036854775808)))]
@[go_sem] def r159_7 : OL := [o 2 (.mv (i (-9223372036854775808))), o 3 (.mv (.c (.bool true)))]
@[go_sem] def r159_8 : OL := [o 15 (.fa 1 (t 1)), o 16 (.load false 1 (t 15)), o 17 (.conv .i64 (t 16)), o 18 (.un .neg (t 17)), m 2 18, o 3 (.mv (.c (.bool true)))]
@[go_sem] def r159_9 : OL := [o 19 (.fa 1 (t 1)), o 20 (.load false 1 (t 19)), o 21 (.bin .plain .geq (t 20) (.c (.int .u64 9223372036854775808)))]
@[go_sem] def r159_10 : OL := [o 2 (.mv (i 0)), o 3 (.mv (.c (.bool false)))]
@[go_sem] def r159_11 : OL := [o 22 (.fa 1 (t 1)), o 23 (.load false 1 (t 22)), o 24 (.conv .i64 (t 23)), m 2 24, o 3 (.mv (.c (.bool true)))]
def F_ref03_Wide_Fits : AFn := ⟨25, (.seq (.reg r159_0 [1]) (.seq (.seq (.reg r159_1 [1, 6]) (.cond (.t 6) (.seq (.reg r159_2 [2, 3]) .ret) .skip)) (.seq (.seq (.reg r159_3 [1, 8]) (.cond (.t 8) (.seq (.seq (.reg r159_4 [1, 11]) (.cond (.t 11) (.seq (.reg r159_5 [2, 3]) .ret) .skip)) (.seq (.seq (.reg r159_6 [1, 14]) (.cond (.t 14) (.seq (.reg r159_7 [2, 3]) .ret) .skip)) (.seq (.reg r159_8 [2, 3]) .ret))) .skip)) (.seq (.seq (.reg r159_9 [1, 21]) (.cond (.t 21) (.seq (.reg r159_10 [2, 3]) .ret) .skip)) (.seq (.reg r159_11 [2, 3]) .ret))))), [.t 2, .t 3], true⟩
/-- math/bits.Mul64 -/
@[go_sem] def r160_0 : OL := [o 4 (.mv (.c (.int .u64 0))), o 5 (.mv (.c (.int .u64 0)))]
@[go_sem] def r160_1 : OL := [m 14 0, o 15 (.bin .plain .and (t 14) (.c (.int .u64 4294967295))), m 6 15]
@[go_sem] def r160_2 : OL := [m 16 0, o 17 (.bin .plain .shr (t 16) (.c (.int .u64 32))), m 7 17]
@[go_sem] def r160_3 : OL := [m 18 1, o 19 (.bin .plain .and (t 18) (.c (.int .u64 4294967295))), m 8 19]
@[go_sem] def r160_4 : OL := [m 20 1, o 21 (.bin .plain .shr (t 20) (.c (.int .u64 32))), m 9 21]
@[go_sem] def r160_5 : OL := [m 22 6, m 23 8, o 24 (.bin .plain .mul (t 22) (t 23)), m 10 24]
@[go_sem] def r160_6 : OL := [m 25 7, m 26 8, o 27 (.bin .plain .mul (t 25) (t 26)), m 28 10, o 29 (.bin .plain .shr (t 28) (.c (.int .u64 32))), o 30 (.bin .plain .add (t 27) (t 29)), m 11 30]
@[go_sem] def r160_7 : OL := [m 31 11, o 32 (.bin .plain .and (t 31) (.c (.int .u64 4294967295))), m 12 32]
@[go_sem] def r160_8 : OL := [m 33 11, o 34 (.bin .plain .shr (t 33) (.c (.int .u64 32))), m 13 34]
@[go_sem] def r160_9 : OL := [m 35 12, m 36 6, m 37 9, o 38 (.bin .plain .mul (t 36) (t 37)), o 39 (.bin .plain .add (t 35) (t 38)), m 12 39]
@[go_sem] def r160_10 : OL := [m 40 7, m 41 9, o 42 (.bin .plain .mul (t 40) (t 41)), m 43 13, o 44 (.bin .plain .add (t 42) (t 43)), m 45 12, o 46 (.bin .plain .shr (t 45) (.c (.int .u64 32))), o 47 (.bin .plain .add (t 44) (t 46)), m 4 47]
@[go_sem] def r160_11 : OL := [m 48 0, m 49 1, o 50 (.bin .plain .mul (t 48) (t 49)), m 5 50]
def F_math_bits_Mul64 : AFn := ⟨51, (.seq (.reg r160_0 [0, 1]) (.seq (.reg r160_1 [0, 1, 6]) (.seq (.reg r160_2 [0, 1, 6, 7]) (.seq (.reg r160_3 [0, 1, 6, 7, 8]) (.seq (.reg r160_4 [0, 1, 6, 7, 8, 9]) (.seq (.reg r160_5 [0, 1, 6, 7, 8, 9, 10]) (.seq (.reg r160_6 [0, 1, 6, 7, 9, 11]) (.seq (.reg r160_7 [0, 1, 6, 7, 9, 11, 12]) (.seq (.reg r160_8 [0, 1, 6, 7, 9, 12, 13]) (.seq (.reg r160_9 [0, 1, 7, 9, 12, 13]) (.seq (.reg r160_10 [0, 1, 4]) (.seq (.reg r160_11 [4, 5]) .ret)))))))))))), [.t 4, .t 5], true⟩
/-- internal/stringslite.Index -/
@[go_sem] def r161_0 : OL := [o 4 (.mv (i 0))]
@[go_sem] def r161_1 : OL := [m 14 1, o 15 (.lens (t 14)), m 5 15]
@[go_sem] def r161_2 : OL := [m 17 5, o 18 (.bin .plain .eql (t 17) (i 0)), m 19 18, g 20 (.mv (t 1)) 19 false, g 21 (.mv (t 0)) 19 false, g 22 (.bin .plain .eql (t 20) (t 21)) 19 false, o 23 (.pick (t 19) (.c (.bool true)) (t 22)), m 16 23]
@[go_sem] def r161_3 : OL := [o 4 (.mv (i 0))]
@[go_sem] def r161_4 : OL := [m 25 5, o 26 (.bin .plain .eql (t 25) (i 1)), m 24 26]
@[go_sem] def r161_5 : OL := [m 27 0, m 28 1, o 29 (.ix (t 28) (i 0)), o 30 (.call K_internal_stringslite_IndexByte [(t 27), (t 29)]), m 4 30]
@[go_sem] def r161_6 : OL := [m 32 5, m 33 0, o 34 (.lens (t 33)), o 35 (.bin .plain .geq (t 32) (t 34)), m 31 35]
@[go_sem] def r161_7 : OL := [o 4 (.mv (i (-1)))]
@[go_sem] def r161_8 : OL := [m 37 5, o 38 (.unreach), o 39 (.bin .plain .leq (t 37) (t 38)), m 40 39, g 41 (.mv (t 0)) 40 true, g 42 (.lens (t 41)) 40 true, g 43 (.bin .plain .leq (t 42) (i 64)) 40 true, o 44 (.pick (t 40) (t 43) (.c (.bool false))), m 36 44]
@[go_sem] def r161_9 : OL := [m 45 0, m 46 1, o 47 (.call K_internal_bytealg_IndexString [(t 45), (t 46)]), m 4 47]
@[go_sem] def r161_10 : OL := [m 48 1, o 49 (.ix (t 48) (i 0)), m 6 49]
@[go_sem] def r161_11 : OL := [m 50 1, o 51 (.ix (t 50) (i 1)), m 7 51]
@[go_sem] def r161_12 : OL := [o 8 (.mv (i 0))]
@[go_sem] def r161_13 : OL := [m 52 0, o 53 (.lens (t 52)), m 54 5, o 55 (.bin .plain .sub (t 53) (t 54)), o 56 (.bin .plain .add (t 55) (i 1)), m 9 56]
@[go_sem] def r161_14 : OL := [o 10 (.mv (i 0))]
@[go_sem] def r161_15 : OL := [m 57 8, m 58 9, o 59 (.bin .plain .lss (t 57) (t 58))]
@[go_sem] def r161_16 : OL := [m 60 0, m 61 8, o 62 (.ix (t 60) (t 61)), m 63 6, o 64 (.bin .plain .neq (t 62) (t 63))]
@[go_sem] def r161_17 : OL := [m 65 0, m 66 8, o 67 (.bin .plain .add (t 66) (i 1)), m 68 9, o 69 (.slcs (t 65) (some (t 67)) (some (t 68))), m 70 6, o 71 (.call K_internal_stringslite_IndexByte [(t 69), (t 70)]), m 11 71]
@[go_sem] def r161_18 : OL := [m 72 11, o 73 (.bin .plain .lss (t 72) (i 0))]
@[go_sem] def r161_19 : OL := [o 4 (.mv (i (-1)))]
@[go_sem] def r161_20 : OL := [m 74 8, m 75 11, o 76 (.bin .plain .add (t 75) (i 1)), o 77 (.bin .plain .add (t 74) (t 76)), m 8 77]
@[go_sem] def r161_21 : OL := [m 78 0, m 79 8, o 80 (.bin .plain .add (t 79) (i 1)), o 81 (.ix (t 78) (t 80)), m 82 7, o 83 (.bin .plain .eql (t 81) (t 82)), m 84 83, g 85 (.mv (t 0)) 84 true, g 86 (.mv (t 8)) 84 true, g 87 (.mv (t 8)) 84 true, g 88 (.mv (t 5)) 84 true, g 89 (.bin .plain .add (t 87) (t 88)) 84 true, g 90 (.slcs (t 85) (some (t 86)) (some (t 89))) 84 true, g 91 (.mv (t 1)) 84 true, g 92 (.bin .plain .eql (t 90) (t 91)) 84 true, o 93 (.pick (t 84) (t 92) (.c (.bool false)))]
@[go_sem] def r161_22 : OL := [m 94 8, m 4 94]
@[go_sem] def r161_23 : OL := [m 95 8, o 96 (.bin .plain .add (t 95) (i 1)), m 8 96]
@[go_sem] def r161_24 : OL := [m 97 10, o 98 (.bin .plain .add (t 97) (i 1)), m 10 98]
@[go_sem] def r161_25 : OL := [m 99 5, o 100 (.unreach), o 101 (.bin .plain .leq (t 99) (t 100)), m 102 101, g 103 (.mv (t 10)) 102 true, g 104 (.mv (t 8)) 102 true, g 105 (.call K_internal_bytealg_Cutover [(t 104)]) 102 true, g 106 (.bin .plain .gtr (t 103) (t 105)) 102 true, o 107 (.pick (t 102) (t 106) (.c (.bool false)))]
@[go_sem] def r161_26 : OL := [m 108 0, m 109 8, o 110 (.slcs (t 108) (some (t 109)) none), m 111 1, o 112 (.call K_internal_bytealg_IndexString [(t 110), (t 111)]), m 12 112]
@[go_sem] def r161_27 : OL := [m 113 12, o 114 (.bin .plain .geq (t 113) (i 0))]
@[go_sem] def r161_28 : OL := [m 115 12, m 116 8, o 117 (.bin .plain .add (t 115) (t 116)), m 4 117]
@[go_sem] def r161_29 : OL := [o 4 (.mv (i (-1)))]
@[go_sem] def r161_30 : OL := [m 118 5, o 119 (.unreach), o 120 (.bin .plain .gtr (t 118) (t 119)), m 121 120, g 122 (.mv (t 10)) 121 true, g 123 (.mv (t 8)) 121 true, g 124 (.bin .plain .shr (t 123) (.c (.int .u64 4))) 121 true, g 125 (.bin .plain .add (i 4) (t 124)) 121 true, g 126 (.bin .plain .geq (t 122) (t 125)) 121 true, o 127 (.pick (t 121) (t 126) (.c (.bool false))), m 128 127, g 129 (.mv (t 8)) 128 true, g 130 (.mv (t 9)) 128 true, g 131 (.bin .plain .lss (t 129) (t 130)) 128 true, o 132 (.pick (t 128) (t 131) (.c (.bool false)))]
@[go_sem] def r161_31 : OL := [m 133 0, m 134 8, o 135 (.slcs (t 133) (some (t 134)) none), m 136 1, o 137 (.call K_internal_bytealg_IndexRabinKarp_string [(t 135), (t 136)]), m 13 137]
@[go_sem] def r161_32 : OL := [m 138 13, o 139 (.bin .plain .lss (t 138) (i 0))]
@[go_sem] def r161_33 : OL := [o 4 (.mv (i (-1)))]
@[go_sem] def r161_34 : OL := [m 140 8, m 141 13, o 142 (.bin .plain .add (t 140) (t 141)), m 4 142]
@[go_sem] def r161_35 : OL := [o 4 (.mv (i (-1)))]
def L_internal_stringslite_Index_0 : AC := (.seq (.seq (.reg r161_15 [0, 1, 5, 6, 7, 8, 9, 10, 59]) (.cond (.t 59) .skip (.exit 1))) (.block 2 (.seq (.seq (.reg r161_16 [0, 1, 5, 6, 7, 8, 9, 10, 64]) (.cond (.t 64) (.seq (.reg r161_17 [0, 1, 5, 6, 7, 8, 9, 10, 11]) (.seq (.seq (.reg r161_18 [0, 1, 5, 6, 7, 8, 9, 10, 11, 73]) (.cond (.t 73) (.seq (.reg r161_19 [4]) .ret) .skip)) (.reg r161_20 [0, 1, 5, 6, 7, 8, 9, 10]))) .skip)) (.seq (.seq (.reg r161_21 [0, 1, 5, 6, 7, 8, 9, 10, 93]) (.cond (.t 93) (.seq (.reg r161_22 [4]) .ret) .skip)) (.seq (.reg r161_23 [0, 1, 5, 6, 7, 8, 9, 10]) (.seq (.reg r161_24 [0, 1, 5, 6, 7, 8, 9, 10]) (.seq (.reg r161_25 [0, 1, 5, 6, 7, 8, 9, 10, 107]) (.cond (.t 107) (.seq (.reg r161_26 [8, 12]) (.seq (.seq (.reg r161_27 [8, 12, 114]) (.cond (.t 114) (.seq (.reg r161_28 [4]) .ret) .skip)) (.seq (.reg r161_29 [4]) .ret))) (.seq (.reg r161_30 [0, 1, 5, 6, 7, 8, 9, 10, 132]) (.cond (.t 132) (.seq (.reg r161_31 [8, 13]) (.seq (.seq (.reg r161_32 [8, 13, 139]) (.cond (.t 139) (.seq (.reg r161_33 [4]) .ret) .skip)) (.seq (.reg r161_34 [4]) .ret))) .skip))))))))))
theorem L_internal_stringslite_Index_0_eq {E : Env} {fr : Fr} {h : AH} (keep : List Nat) : LP E L_internal_stringslite_Index_0 keep fr h = XS E (.seq (.seq (.reg r161_15 [0, 1, 5, 6, 7, 8, 9, 10, 59]) (.cond (.t 59) .skip (.exit 1))) (.block 2 (.seq (.seq (.reg r161_16 [0, 1, 5, 6, 7, 8, 9, 10, 64]) (.cond (.t 64) (.seq (.reg r161_17 [0, 1, 5, 6, 7, 8, 9, 10, 11]) (.seq (.seq (.reg r161_18 [0, 1, 5, 6, 7, 8, 9, 10, 11, 73]) (.cond (.t 73) (.seq (.reg r161_19 [4]) .ret) .skip)) (.reg r161_20 [0, 1, 5, 6, 7, 8, 9, 10]))) .skip)) (.seq (.seq (.reg r161_21 [0, 1, 5, 6, 7, 8, 9, 10, 93]) (.cond (.t 93) (.seq (.reg r161_22 [4]) .ret) .skip)) (.seq (.reg r161_23 [0, 1, 5, 6, 7, 8, 9, 10]) (.seq (.reg r161_24 [0, 1, 5, 6, 7, 8, 9, 10]) (.seq (.reg r161_25 [0, 1, 5, 6, 7, 8, 9, 10, 107]) (.cond (.t 107) (.seq (.reg r161_26 [8, 12]) (.seq (.seq (.reg r161_27 [8, 12, 114]) (.cond (.t 114) (.seq (.reg r161_28 [4]) .ret) .skip)) (.seq (.reg r161_29 [4]) .ret))) (.seq (.reg r161_30 [0, 1, 5, 6, 7, 8, 9, 10, 132]) (.cond (.t 132) (.seq (.reg r161_31 [8, 13]) (.seq (.seq (.reg r161_32 [8, 13, 139]) (.cond (.t 139) (.seq (.reg r161_33 [4]) .ret) .skip)) (.seq (.reg r161_34 [4]) .ret))) .skip)))))))))) [.lp L_internal_stringslite_Index_0 keep] (keepFr keep fr) h := LP_XS L_internal_stringslite_Index_0 keep
def F_internal_stringslite_Index : AFn := ⟨143, (.seq (.reg r161_0 [0, 1]) (.seq (.reg r161_1 [0, 1, 5]) (.seq (.block 0 (.seq (.reg r161_2 [0, 1, 5, 16]) (.cond (.t 16) (.seq (.reg r161_3 [4]) .ret) (.seq (.reg r161_4 [0, 1, 5, 24]) (.cond (.t 24) (.seq (.reg r161_5 [4]) .ret) (.seq (.reg r161_6 [0, 1, 5, 31]) (.cond (.t 31) (.seq (.reg r161_7 [4]) .ret) (.seq (.reg r161_8 [0, 1, 5, 36]) (.cond (.t 36) (.seq (.reg r161_9 [4]) .ret) .skip))))))))) (.seq (.reg r161_10 [0, 1, 5, 6]) (.seq (.reg r161_11 [0, 1, 5, 6, 7]) (.seq (.reg r161_12 [0, 1, 5, 6, 7, 8]) (.seq (.reg r161_13 [0, 1, 5, 6, 7, 8, 9]) (.seq (.reg r161_14 [0, 1, 5, 6, 7, 8, 9, 10]) (.seq (.block 1 (.loop L_internal_stringslite_Index_0 [0, 1, 5, 6, 7, 8, 9, 10])) (.seq (.reg r161_35 [4]) .ret)))))))))), [.t 4], true⟩
/-- internal/stringslite.IndexByte -/
@[go_sem] def r162_0 : OL := [o 4 (.mv (i 0))]
@[go_sem] def r162_1 : OL := [m 5 0, m 6 1, o 7 (.call K_internal_bytealg_IndexByteString [(t 5), (t 6)]), m 4 7]
def F_internal_stringslite_IndexByte : AFn := ⟨8, (.seq (.reg r162_0 [0, 1]) (.seq (.reg r162_1 [4]) .ret)), [.t 4], true⟩
/-- (*sortilege/expr.parser).not -/
@[go_sem] def r163_0 : OL := [o 4 (.alloc [.str [], .str [], .int .i64 0, .vs [] .exact, .int .i64 0]), o 5 (.mv (.c .nili))]
@[go_sem] def r163_1 : OL := [m 12 0, o 13 (.nilck (t 12)), o 14 (.fa 0 (t 13)), o 15 (.load false 1 (t 14)), o 16 (.call K_scan_Reader_Is [(t 15), (.c (.str [33]))])]
@[go_sem] def r163_2 : OL := [m 17 0, m 18 1, m 19 0, o 20 (.mkF K_expr_parser_not [(t 19)] []), o 21 (.call K_expr_parser_prefix [(t 17), (.c (.str [33])), (t 18), (t 20)]), o 22 (.extr (t 21) 0), o 23 (.extr (t 21) 1), s (.store 5 (t 4) (t 22)), m 5 23]
@[go_sem] def r163_3 : OL := [m 25 0, m 26 1, o 27 (.call K_expr_parser_chain [(t 25), (i 7), (t 26)]), m 24 27, o 28 (.extr (t 24) 0), o 29 (.extr (t 24) 1), o 6 (.alloc [.str [], .str [], .int .i64 0, .vs [] .exact, .int .i64 0]), s (.store 5 (t 6) (t 28)), m 7 29]
@[go_sem] def r163_4 : OL := [m 30 7, o 31 (.bin .iface .neq (t 30) (.c .nili))]
@[go_sem] def r163_5 : OL := [o 32 (.build [.str [], .str [], .int .i64 0, .vs [] .exact, .int .i64 0] []), m 33 7, s (.store 5 (t 4) (t 32)), m 5 33]
@[go_sem] def r163_6 : OL := [o 34 (.build [.str [], .str [], .str [], .str [], .str [], .str []] [(0, 1, (.c (.str [61]))), (1, 1, (.c (.str [33, 61]))), (2, 1, (.c (.str [60]))), (3, 1, (.c (.str [60, 61]))), (4, 1, (.c (.str [62]))), (5, 1, (.c (.str [62, 61])))]), o 35 (.mv (i 0))]
@[go_sem] def r163_7 : OL := [o 36 (.bin .plain .lss (t 35) (i 6))]
@[go_sem] def r163_8 : OL := [o 37 (.ixagg false 6 1 (t 34) (t 35)), m 9 37]
@[go_sem] def r163_9 : OL := [m 38 0, o 39 (.nilck (t 38)), o 40 (.fa 0 (t 39)), o 41 (.load false 1 (t 40)), m 42 9, o 43 (.call K_scan_Reader_Skip [(t 41), (t 42)]), o 44 (.un .not (t 43))]
@[go_sem] def r163_10 : OL := [m 46 0, m 47 1, o 48 (.call K_expr_parser_chain [(t 46), (i 7), (t 47)]), m 45 48, o 49 (.extr (t 45) 0), o 50 (.extr (t 45) 1), o 10 (.alloc [.str [], .str [], .int .i64 0, .vs [] .exact, .int .i64 0]), s (.store 5 (t 10) (t 49)), m 11 50]
@[go_sem] def r163_11 : OL := [m 51 11, o 52 (.bin .iface .neq (t 51) (.c .nili))]
@[go_sem] def r163_12 : OL := [o 53 (.build [.str [], .str [], .int .i64 0, .vs [] .exact, .int .i64 0] []), m 54 11, s (.store 5 (t 4) (t 53)), m 5 54]
@[go_sem] def r163_13 : OL := [m 55 9, o 56 (.load true 5 (t 6)), o 57 (.load true 5 (t 10)), o 58 (.call K_expr_two [(t 55), (t 56), (t 57)]), s (.store 5 (t 4) (t 58)), o 5 (.mv (.c .nili))]
@[go_sem] def r163_14 : OL := [o 59 (.bin .plain .add (t 35) (i 1)), m 35 59]
@[go_sem] def r163_15 : OL := [o 60 (.load true 5 (t 6)), s (.store 5 (t 4) (t 60)), o 5 (.mv (.c .nili))]
def L_expr_parser_not_0 : AC := (.seq (.reg r163_7 [0, 1, 4, 6, 34, 35, 36]) (.seq (.cond (.t 36) .skip (.exit 0)) (.seq (.block 1 (.seq (.reg r163_8 [0, 1, 4, 6, 9, 34, 35]) (.seq (.seq (.reg r163_9 [0, 1, 4, 6, 9, 34, 35, 44]) (.cond (.t 44) (.exit 1) .skip)) (.seq (.reg r163_10 [4, 6, 9, 10, 11]) (.seq (.seq (.reg r163_11 [4, 6, 9, 10, 11, 52]) (.cond (.t 52) (.seq (.reg r163_12 [4, 5]) .ret) .skip)) (.seq (.reg r163_13 [4, 5]) .ret)))))) (.reg r163_14 [0, 1, 4, 6, 34, 35]))))
theorem L_expr_parser_not_0_eq {E : Env} {fr : Fr} {h : AH} (keep : List Nat) : LP E L_expr_parser_not_0 keep fr h = XS E (.seq (.reg r163_7 [0, 1, 4, 6, 34, 35, 36]) (.seq (.cond (.t 36) .skip (.exit 0)) (.seq (.block 1 (.seq (.reg r163_8 [0, 1, 4, 6, 9, 34, 35]) (.seq (.seq (.reg r163_9 [0, 1, 4, 6, 9, 34, 35, 44]) (.cond (.t 44) (.exit 1) .skip)) (.seq (.reg r163_10 [4, 6, 9, 10, 11]) (.seq (.seq (.reg r163_11 [4, 6, 9, 10, 11, 52]) (.cond (.t 52) (.seq (.reg r163_12 [4, 5]) .ret) .skip)) (.seq (.reg r163_13 [4, 5]) .ret)))))) (.reg r163_14 [0, 1, 4, 6, 34, 35])))) [.lp L_expr_parser_not_0 keep] (keepFr keep fr) h := LP_XS L_expr_parser_not_0 keep
def F_expr_parser_not : AFn := ⟨61, (.seq (.reg r163_0 [0, 1, 4]) (.seq (.seq (.reg r163_1 [0, 1, 4, 16]) (.cond (.t 16) (.seq (.reg r163_2 [4, 5]) .ret) .skip)) (.seq (.reg r163_3 [0, 1, 4, 6, 7]) (.seq (.seq (.reg r163_4 [0, 1, 4, 6, 7, 31]) (.cond (.t 31) (.seq (.reg r163_5 [4, 5]) .ret) .skip)) (.seq (.seq (.reg r163_6 [0, 1, 4, 6, 34, 35]) (.block 0 (.loop L_expr_parser_not_0 [0, 1, 4, 6, 34, 35]))) (.seq (.reg r163_15 [4, 5]) .ret)))))), [.c 4 true 5, .t 5], true⟩
/-- (*sortilege/expr.parser).minus -/
@[go_sem] def r164_0 : OL := [o 4 (.alloc [.str [], .str [], .int .i64 0, .vs [] .exact, .int .i64 0]), o 5 (.mv (.c .nili))]
@[go_sem] def r164_1 : OL := [m 13 0, o 14 (.nilck (t 13)), o 15 (.fa 0 (t 14)), o 16 (.load false 1 (t 15)), o 17 (.call K_scan_Reader_Is [(t 16), (.c (.str [45]))])]
@[go_sem] def r164_2 : OL := [m 18 0, m 19 1, m 20 0, o 21 (.mkF K_expr_parser_minus [(t 20)] []), o 22 (.call K_expr_parser_prefix [(t 18), (.c (.str [110, 101, 103])), (t 19), (t 21)]), o 23 (.extr (t 22) 0), o 24 (.extr (t 22) 1), s (.store 5 (t 4) (t 23)), m 5 24]
@[go_sem] def r164_3 : OL := [m 25 0, o 26 (.nilck (t 25)), o 27 (.fa 0 (t 26)), o 28 (.load false 1 (t 27)), o 29 (.call K_scan_Reader_Peek [(t 28)]), o 6 (.alloc [.int .i64 0, .str [], .int .i64 0]), s (.store 3 (t 6) (t 29))]
@[go_sem] def r164_4 : OL := [o 30 (.fa 0 (t 6)), o 31 (.load false 1 (t 30))]
@[go_sem] def r164_5 : OL := [o 33 (.bin .plain .eql (t 31) (i 1)), m 32 33]
@[go_sem] def r164_6 : OL := [m 34 0, o 35 (.nilck (t 34)), o 36 (.fa 0 (t 35)), o 37 (.load false 1 (t 36)), o 38 (.call K_scan_Reader_Take [(t 37)])]
@[go_sem] def r164_7 : OL := [o 39 (.fa 1 (t 6)), o 40 (.load false 1 (t 39)), o 41 (.bin .plain .eql (t 40) (.c (.str [116, 114, 117, 101]))), m 42 41, g 43 (.fa 1 (t 6)) 42 false, g 44 (.load false 1 (t 43)) 42 false, g 45 (.bin .plain .eql (t 44) (.c (.str [102, 97, 108, 115, 101]))) 42 false, o 46 (.pick (t 42) (.c (.bool true)) (t 45))]
@[go_sem] def r164_8 : OL := [o 47 (.fa 1 (t 6)), o 48 (.load false 1 (t 47)), o 49 (.fa 2 (t 6)), o 50 (.load false 1 (t 49)), o 51 (.build [.str [], .str [], .int .i64 0, .vs [] .exact, .int .i64 0] [(0, 1, (t 48)), (4, 1, (t 50))]), s (.store 5 (t 4) (t 51)), o 5 (.mv (.c .nili))]
@[go_sem] def r164_9 : OL := [o 52 (.fa 1 (t 6)), o 53 (.load false 1 (t 52)), o 54 (.fa 2 (t 6)), o 55 (.load false 1 (t 54)), o 56 (.build [.str [], .str [], .int .i64 0, .vs [] .exact, .int .i64 0] [(0, 1, (.c (.str [110, 97, 109, 101]))), (1, 1, (t 53)), (4, 1, (t 55))]), s (.store 5 (t 4) (t 56)), o 5 (.mv (.c .nili))]
@[go_sem] def r164_10 : OL := [o 58 (.bin .plain .eql (t 31) (i 2)), m 57 58]
@[go_sem] def r164_11 : OL := [m 60 0, o 61 (.nilck (t 60)), o 62 (.fa 0 (t 61)), o 63 (.load false 1 (t 62)), o 64 (.call K_scan_Reader_Number [(t 63)]), m 59 64, o 65 (.extr (t 59) 0), o 66 (.extr (t 59) 1), m 7 65, m 8 66]
@[go_sem] def r164_12 : OL := [m 67 7, o 68 (.fa 2 (t 6)), o 69 (.load false 1 (t 68)), o 70 (.build [.str [], .str [], .int .i64 0, .vs [] .exact, .int .i64 0] [(0, 1, (.c (.str [110, 117, 109]))), (2, 1, (t 67)), (4, 1, (t 69))]), s (.store 5 (t 4) (t 70)), o 5 (.mv (.c .nili))]
@[go_sem] def r164_13 : OL := [m 71 0, o 72 (.nilck (t 71)), o 73 (.fa 0 (t 72)), o 74 (.load false 1 (t 73)), o 75 (.call K_scan_Reader_Want [(t 74), (.c (.str [40]))]), m 9 75]
@[go_sem] def r164_14 : OL := [m 76 9, o 77 (.bin .iface .neq (t 76) (.c .nili))]
@[go_sem] def r164_15 : OL := [o 78 (.build [.str [], .str [], .int .i64 0, .vs [] .exact, .int .i64 0] []), m 79 9, s (.store 5 (t 4) (t 78)), m 5 79]
@[go_sem] def r164_16 : OL := [m 81 0, m 82 1, o 83 (.bin .plain .add (t 82) (i 1)), o 84 (.call K_expr_parser_cond [(t 81), (t 83)]), m 80 84, o 85 (.extr (t 80) 0), o 86 (.extr (t 80) 1), o 10 (.alloc [.str [], .str [], .int .i64 0, .vs [] .exact, .int .i64 0]), s (.store 5 (t 10) (t 85)), m 11 86]
@[go_sem] def r164_17 : OL := [m 87 11, o 88 (.bin .iface .neq (t 87) (.c .nili))]
@[go_sem] def r164_18 : OL := [o 89 (.build [.str [], .str [], .int .i64 0, .vs [] .exact, .int .i64 0] []), m 90 11, s (.store 5 (t 4) (t 89)), m 5 90]
@[go_sem] def r164_19 : OL := [m 91 0, o 92 (.nilck (t 91)), o 93 (.fa 0 (t 92)), o 94 (.load false 1 (t 93)), o 95 (.call K_scan_Reader_Want [(t 94), (.c (.str [41]))]), m 12 95]
@[go_sem] def r164_20 : OL := [m 96 12, o 97 (.bin .iface .neq (t 96) (.c .nili))]
@[go_sem] def r164_21 : OL := [o 98 (.build [.str [], .str [], .int .i64 0, .vs [] .exact, .int .i64 0] []), m 99 12, s (.store 5 (t 4) (t 98)), m 5 99]
@[go_sem] def r164_22 : OL := [o 100 (.fa 2 (t 6)), o 101 (.load false 1 (t 100)), o 102 (.fa 4 (t 10)), s (.store 1 (t 102) (t 101))]
@[go_sem] def r164_23 : OL := [o 103 (.load true 5 (t 10)), s (.store 5 (t 4) (t 103)), o 5 (.mv (.c .nili))]
def F_expr_parser_minus : AFn := ⟨104, (.seq (.reg r164_0 [0, 1, 4]) (.seq (.seq (.reg r164_1 [0, 1, 4, 17]) (.cond (.t 17) (.seq (.reg r164_2 [4, 5]) .ret) .skip)) (.seq (.reg r164_3 [0, 1, 4, 6]) (.seq (.seq (.reg r164_4 [0, 1, 4, 6, 31]) (.block 0 (.seq (.reg r164_5 [0, 1, 4, 6, 31, 32]) (.cond (.t 32) (.seq (.reg r164_6 [4, 6]) (.seq (.seq (.reg r164_7 [4, 6, 46]) (.cond (.t 46) (.seq (.reg r164_8 [4, 5]) .ret) .skip)) (.seq (.reg r164_9 [4, 5]) .ret))) (.seq (.reg r164_10 [0, 1, 4, 6, 57]) (.cond (.t 57) (.seq (.reg r164_11 [4, 6, 7]) (.seq (.reg r164_12 [4, 5]) .ret)) .skip)))))) (.seq (.seq (.reg r164_13 [0, 1, 4, 6, 9]) (.seq (.reg r164_14 [0, 1, 4, 6, 9, 77]) (.cond (.t 77) (.seq (.reg r164_15 [4, 5]) .ret) .skip))) (.seq (.reg r164_16 [0, 4, 6, 10, 11]) (.seq (.seq (.reg r164_17 [0, 4, 6, 10, 11, 88]) (.cond (.t 88) (.seq (.reg r164_18 [4, 5]) .ret) .skip)) (.seq (.seq (.reg r164_19 [4, 6, 10, 12]) (.seq (.reg r164_20 [4, 6, 10, 12, 97]) (.cond (.t 97) (.seq (.reg r164_21 [4, 5]) .ret) .skip))) (.seq (.reg r164_22 [4, 10]) (.seq (.reg r164_23 [4, 5]) .ret)))))))))), [.c 4 true 5, .t 5], true⟩
/-- sortilege/fold.literal -/
@[go_sem] def r166_0 : OL := [o 2 (.boxv (t 0)), o 4 (.alloc [.str [], .str [], .int .i64 0, .vs [] .exact, .int .i64 0])]
@[go_sem] def r166_1 : OL := [o 6 (.fa 0 (t 2)), o 7 (.load false 1 (t 6)), m 8 7, g 9 (.fa 1 (t 2)) 8 true, g 10 (.load false 1 (t 9)) 8 true, o 11 (.pick (t 8) (t 10) (.c (.bool false))), m 5 11]
@[go_sem] def r166_2 : OL := [m 12 1, o 13 (.build [.str [], .str [], .int .i64 0, .vs [] .exact, .int .i64 0] [(0, 1, (.c (.str [116, 114, 117, 101]))), (4, 1, (t 12))]), s (.store 5 (t 4) (t 13))]
@[go_sem] def r166_3 : OL := [o 15 (.fa 0 (t 2)), o 16 (.load false 1 (t 15)), m 14 16]
@[go_sem] def r166_4 : OL := [m 17 1, o 18 (.build [.str [], .str [], .int .i64 0, .vs [] .exact, .int .i64 0] [(0, 1, (.c (.str [102, 97, 108, 115, 101]))), (4, 1, (t 17))]), s (.store 5 (t 4) (t 18))]
@[go_sem] def r166_5 : OL := [o 19 (.fa 2 (t 2)), o 20 (.load false 1 (t 19)), m 21 1, o 22 (.build [.str [], .str [], .int .i64 0, .vs [] .exact, .int .i64 0] [(0, 1, (.c (.str [110, 117, 109]))), (2, 1, (t 20)), (4, 1, (t 21))]), s (.store 5 (t 4) (t 22))]
def F_fold_literal : AFn := ⟨23, (.seq (.reg r166_0 [1, 2, 4]) (.seq (.block 0 (.seq (.reg r166_1 [1, 2, 4, 5]) (.cond (.t 5) (.seq (.reg r166_2 [4]) .ret) (.seq (.reg r166_3 [1, 2, 4, 14]) (.cond (.t 14) (.seq (.reg r166_4 [4]) .ret) .skip))))) (.seq (.reg r166_5 [4]) .ret))), [.c 4 true 5], true⟩
/-- internal/bytealg.Cutover -/
@[go_sem] def r168_0 : OL := [o 2 (.mv (i 0))]
@[go_sem] def r168_1 : OL := [m 3 0, o 4 (.bin .plain .add (t 3) (i 16)), o 5 (.bin .plain .quo (t 4) (i 8)), m 2 5]
def F_internal_bytealg_Cutover : AFn := ⟨6, (.seq (.reg r168_0 [0]) (.seq (.reg r168_1 [2]) .ret)), [.t 2], true⟩
/-- internal/bytealg.IndexRabinKarp[string] -/
@[go_sem] def r169_0 : OL := [o 4 (.mv (i 0))]
@[go_sem] def r169_1 : OL := [m 12 1, o 13 (.call K_internal_bytealg_hashStr_string [(t 12)]), m 11 13, o 14 (.extr (t 11) 0), o 15 (.extr (t 11) 1), m 5 14, m 6 15]
@[go_sem] def r169_2 : OL := [m 16 1, o 17 (.lens (t 16)), m 7 17]
@[go_sem] def r169_3 : OL := [o 8 (.mv (.c (.int .u32 0)))]
@[go_sem] def r169_4 : OL := [o 9 (.mv (i 0))]
@[go_sem] def r169_5 : OL := [m 18 9, m 19 7, o 20 (.bin .plain .lss (t 18) (t 19))]
@[go_sem] def r169_7 : OL := [m 23 8, o 24 (.bin .plain .mul (t 23) (.c (.int .u32 16777619))), m 25 0, m 26 9, o 27 (.ix (t 25) (t 26)), o 28 (.conv .u32 (t 27)), o 29 (.bin .plain .add (t 24) (t 28)), m 8 29]
@[go_sem] def r169_6 : OL := [m 21 9, o 22 (.bin .plain .add (t 21) (i 1)), m 9 22]
@[go_sem] def r169_8 : OL := [m 30 8, m 31 5, o 32 (.bin .plain .eql (t 30) (t 31)), m 33 32, g 34 (.mv (t 0)) 33 true, g 35 (.mv (t 7)) 33 true, g 36 (.slcs (t 34) none (some (t 35))) 33 true, g 37 (.mv (t 1)) 33 true, g 38 (.bin .plain .eql (t 36) (t 37)) 33 true, o 39 (.pick (t 33) (t 38) (.c (.bool false)))]
@[go_sem] def r169_9 : OL := [o 4 (.mv (i 0))]
@[go_sem] def r169_10 : OL := [m 40 7, m 10 40]
@[go_sem] def r169_11 : OL := [m 41 10, m 42 0, o 43 (.lens (t 42)), o 44 (.bin .plain .lss (t 41) (t 43))]
@[go_sem] def r169_12 : OL := [m 45 8, o 46 (.bin .plain .mul (t 45) (.c (.int .u32 16777619))), m 8 46]
@[go_sem] def r169_13 : OL := [m 47 8, m 48 0, m 49 10, o 50 (.ix (t 48) (t 49)), o 51 (.conv .u32 (t 50)), o 52 (.bin .plain .add (t 47) (t 51)), m 8 52]
@[go_sem] def r169_14 : OL := [m 53 8, m 54 6, m 55 0, m 56 10, m 57 7, o 58 (.bin .plain .sub (t 56) (t 57)), o 59 (.ix (t 55) (t 58)), o 60 (.conv .u32 (t 59)), o 61 (.bin .plain .mul (t 54) (t 60)), o 62 (.bin .plain .sub (t 53) (t 61)), m 8 62]
@[go_sem] def r169_15 : OL := [m 63 10, o 64 (.bin .plain .add (t 63) (i 1)), m 10 64]
@[go_sem] def r169_16 : OL := [m 65 8, m 66 5, o 67 (.bin .plain .eql (t 65) (t 66)), m 68 67, g 69 (.mv (t 0)) 68 true, g 70 (.mv (t 10)) 68 true, g 71 (.mv (t 7)) 68 true, g 72 (.bin .plain .sub (t 70) (t 71)) 68 true, g 73 (.mv (t 10)) 68 true, g 74 (.slcs (t 69) (some (t 72)) (some (t 73))) 68 true, g 75 (.mv (t 1)) 68 true, g 76 (.bin .plain .eql (t 74) (t 75)) 68 true, o 77 (.pick (t 68) (t 76) (.c (.bool false)))]
@[go_sem] def r169_17 : OL := [m 78 10, m 79 7, o 80 (.bin .plain .sub (t 78) (t 79)), m 4 80]
@[go_sem] def r169_18 : OL := [o 4 (.mv (i (-1)))]
def L_internal_bytealg_IndexRabinKarp_string_0 : AC := (.seq (.seq (.reg r169_5 [0, 1, 5, 6, 7, 8, 9, 20]) (.cond (.t 20) .skip (.exit 0))) (.seq (.block 1 (.reg r169_7 [0, 1, 5, 6, 7, 8, 9])) (.reg r169_6 [0, 1, 5, 6, 7, 8, 9])))
theorem L_internal_bytealg_IndexRabinKarp_string_0_eq {E : Env} {fr : Fr} {h : AH} (keep : List Nat) : LP E L_internal_bytealg_IndexRabinKarp_string_0 keep fr h = XS E (.seq (.seq (.reg r169_5 [0, 1, 5, 6, 7, 8, 9, 20]) (.cond (.t 20) .skip (.exit 0))) (.seq (.block 1 (.reg r169_7 [0, 1, 5, 6, 7, 8, 9])) (.reg r169_6 [0, 1, 5, 6, 7, 8, 9]))) [.lp L_internal_bytealg_IndexRabinKarp_string_0 keep] (keepFr keep fr) h := LP_XS L_internal_bytealg_IndexRabinKarp_string_0 keep
def L_internal_bytealg_IndexRabinKarp_string_1 : AC := (.seq (.seq (.reg r169_11 [0, 1, 5, 6, 7, 8, 10, 44]) (.cond (.t 44) .skip (.exit 2))) (.block 3 (.seq (.reg r169_12 [0, 1, 5, 6, 7, 8, 10]) (.seq (.reg r169_13 [0, 1, 5, 6, 7, 8, 10]) (.seq (.reg r169_14 [0, 1, 5, 6, 7, 8, 10]) (.seq (.reg r169_15 [0, 1, 5, 6, 7, 8, 10]) (.seq (.reg r169_16 [0, 1, 5, 6, 7, 8, 10, 77]) (.cond (.t 77) (.seq (.reg r169_17 [4]) .ret) .skip))))))))
theorem L_internal_bytealg_IndexRabinKarp_string_1_eq {E : Env} {fr : Fr} {h : AH} (keep : List Nat) : LP E L_internal_bytealg_IndexRabinKarp_string_1 keep fr h = XS E (.seq (.seq (.reg r169_11 [0, 1, 5, 6, 7, 8, 10, 44]) (.cond (.t 44) .skip (.exit 2))) (.block 3 (.seq (.reg r169_12 [0, 1, 5, 6, 7, 8, 10]) (.seq (.reg r169_13 [0, 1, 5, 6, 7, 8, 10]) (.seq (.reg r169_14 [0, 1, 5, 6, 7, 8, 10]) (.seq (.reg r169_15 [0, 1, 5, 6, 7, 8, 10]) (.seq (.reg r169_16 [0, 1, 5, 6, 7, 8, 10, 77]) (.cond (.t 77) (.seq (.reg r169_17 [4]) .ret) .skip)))))))) [.lp L_internal_bytealg_IndexRabinKarp_string_1 keep] (keepFr keep fr) h := LP_XS L_internal_bytealg_IndexRabinKarp_string_1 keep
def F_internal_bytealg_IndexRabinKarp_string : AFn := ⟨81, (.seq (.reg r169_0 [0, 1]) (.seq (.reg r169_1 [0, 1, 5, 6]) (.seq (.reg r169_2 [0, 1, 5, 6, 7]) (.seq (.reg r169_3 [0, 1, 5, 6, 7, 8]) (.seq (.seq (.reg r169_4 [0, 1, 5, 6, 7, 8, 9]) (.block 0 (.loop L_internal_bytealg_IndexRabinKarp_string_0 [0, 1, 5, 6, 7, 8, 9]))) (.seq (.seq (.reg r169_8 [0, 1, 5, 6, 7, 8, 39]) (.cond (.t 39) (.seq (.reg r169_9 [4]) .ret) .skip)) (.seq (.seq (.reg r169_10 [0, 1, 5, 6, 7, 8, 10]) (.block 2 (.loop L_internal_bytealg_IndexRabinKarp_string_1 [0, 1, 5, 6, 7, 8, 10]))) (.seq (.reg r169_18 [4]) .ret)))))))), [.t 4], true⟩
/-- (*sortilege/expr.parser).prefix -/
@[go_sem] def r171_0 : OL := [o 8 (.alloc [.str [], .str [], .int .i64 0, .vs [] .exact, .int .i64 0]), o 9 (.mv (.c .nili))]
@[go_sem] def r171_1 : OL := [m 14 0, o 15 (.nilck (t 14)), o 16 (.fa 0 (t 15)), o 17 (.load false 1 (t 16)), o 18 (.call K_scan_Reader_Take [(t 17)]), o 19 (.fld false 2 1 (t 18)), m 10 19]
@[go_sem] def r171_2 : OL := [m 20 0, m 21 2, o 22 (.bin .plain .add (t 21) (i 1)), o 23 (.call K_expr_parser_deep [(t 20), (t 22)]), m 11 23]
@[go_sem] def r171_3 : OL := [m 24 11, o 25 (.bin .iface .neq (t 24) (.c .nili))]
@[go_sem] def r171_4 : OL := [o 26 (.build [.str [], .str [], .int .i64 0, .vs [] .exact, .int .i64 0] []), m 27 11, s (.store 5 (t 8) (t 26)), m 9 27]
@[go_sem] def r171_5 : OL := [m 29 3, m 30 2, o 31 (.bin .plain .add (t 30) (i 1)), o 32 (.callv (t 29) [(t 31)]), m 28 32, o 33 (.extr (t 28) 0), o 34 (.extr (t 28) 1), o 12 (.alloc [.str [], .str [], .int .i64 0, .vs [] .exact, .int .i64 0]), s (.store 5 (t 12) (t 33)), m 13 34]
@[go_sem] def r171_6 : OL := [m 35 13, o 36 (.bin .iface .neq (t 35) (.c .nili))]
@[go_sem] def r171_7 : OL := [o 37 (.build [.str [], .str [], .int .i64 0, .vs [] .exact, .int .i64 0] []), m 38 13, s (.store 5 (t 8) (t 37)), m 9 38]
@[go_sem] def r171_8 : OL := [m 39 1, o 40 (.load true 5 (t 12)), o 41 (.bslice [.str [], .str [], .int .i64 0, .vs [] .exact, .int .i64 0] 1 [(0, (t 40))]), m 42 10, o 43 (.build [.str [], .str [], .int .i64 0, .vs [] .exact, .int .i64 0] [(0, 1, (t 39)), (3, 1, (t 41)), (4, 1, (t 42))]), s (.store 5 (t 8) (t 43)), o 9 (.mv (.c .nili))]
def F_expr_parser_prefix : AFn := ⟨44, (.seq (.reg r171_0 [0, 1, 2, 3, 8]) (.seq (.reg r171_1 [0, 1, 2, 3, 8, 10]) (.seq (.seq (.reg r171_2 [1, 2, 3, 8, 10, 11]) (.seq (.reg r171_3 [1, 2, 3, 8, 10, 11, 25]) (.cond (.t 25) (.seq (.reg r171_4 [8, 9]) .ret) .skip))) (.seq (.reg r171_5 [1, 8, 10, 12, 13]) (.seq (.seq (.reg r171_6 [1, 8, 10, 12, 13, 36]) (.cond (.t 36) (.seq (.reg r171_7 [8, 9]) .ret) .skip)) (.seq (.reg r171_8 [8, 9]) .ret)))))), [.c 8 true 5, .t 9], true⟩
/-- internal/bytealg.hashStr[string] -/
@[go_sem] def r172_0 : OL := [o 2 (.mv (.c (.int .u32 0))), o 3 (.mv (.c (.int .u32 0)))]
@[go_sem] def r172_1 : OL := [o 4 (.mv (.c (.int .u32 0)))]
@[go_sem] def r172_2 : OL := [o 5 (.mv (i 0))]
@[go_sem] def r172_3 : OL := [m 9 5, m 10 0, o 11 (.lens (t 10)), o 12 (.bin .plain .lss (t 9) (t 11))]
@[go_sem] def r172_5 : OL := [m 15 4, o 16 (.bin .plain .mul (t 15) (.c (.int .u32 16777619))), m 17 0, m 18 5, o 19 (.ix (t 17) (t 18)), o 20 (.conv .u32 (t 19)), o 21 (.bin .plain .add (t 16) (t 20)), m 4 21]
@[go_sem] def r172_4 : OL := [m 13 5, o 14 (.bin .plain .add (t 13) (i 1)), m 5 14]
@[go_sem] def r172_6 : OL := [o 6 (.mv (.c (.int .u32 1))), o 7 (.mv (.c (.int .u32 16777619)))]
@[go_sem] def r172_7 : OL := [m 22 0, o 23 (.lens (t 22)), m 8 23]
@[go_sem] def r172_8 : OL := [m 24 8, o 25 (.bin .plain .gtr (t 24) (i 0))]
@[go_sem] def r172_10 : OL := [m 28 8, o 29 (.bin .plain .and (t 28) (i 1)), o 30 (.bin .plain .neq (t 29) (i 0))]
@[go_sem] def r172_11 : OL := [m 31 6, m 32 7, o 33 (.bin .plain .mul (t 31) (t 32)), m 6 33]
@[go_sem] def r172_12 : OL := [m 34 7, m 35 7, o 36 (.bin .plain .mul (t 34) (t 35)), m 7 36]
@[go_sem] def r172_9 : OL := [m 26 8, o 27 (.bin .plain .shr (t 26) (.c (.int .u64 1))), m 8 27]
@[go_sem] def r172_13 : OL := [m 37 4, m 38 6, m 2 37, m 3 38]
def L_internal_bytealg_hashStr_string_0 : AC := (.seq (.seq (.reg r172_3 [0, 4, 5, 12]) (.cond (.t 12) .skip (.exit 0))) (.seq (.block 1 (.reg r172_5 [0, 4, 5])) (.reg r172_4 [0, 4, 5])))
theorem L_internal_bytealg_hashStr_string_0_eq {E : Env} {fr : Fr} {h : AH} (keep : List Nat) : LP E L_internal_bytealg_hashStr_string_0 keep fr h = XS E (.seq (.seq (.reg r172_3 [0, 4, 5, 12]) (.cond (.t 12) .skip (.exit 0))) (.seq (.block 1 (.reg r172_5 [0, 4, 5])) (.reg r172_4 [0, 4, 5]))) [.lp L_internal_bytealg_hashStr_string_0 keep] (keepFr keep fr) h := LP_XS L_internal_bytealg_hashStr_string_0 keep
def L_internal_bytealg_hashStr_string_1 : AC := (.seq (.seq (.reg r172_8 [4, 6, 7, 8, 25]) (.cond (.t 25) .skip (.exit 2))) (.seq (.block 3 (.seq (.seq (.reg r172_10 [4, 6, 7, 8, 30]) (.cond (.t 30) (.reg r172_11 [4, 6, 7, 8]) .skip)) (.reg r172_12 [4, 6, 7, 8]))) (.reg r172_9 [4, 6, 7, 8])))
theorem L_internal_bytealg_hashStr_string_1_eq {E : Env} {fr : Fr} {h : AH} (keep : List Nat) : LP E L_internal_bytealg_hashStr_string_1 keep fr h = XS E (.seq (.seq (.reg r172_8 [4, 6, 7, 8, 25]) (.cond (.t 25) .skip (.exit 2))) (.seq (.block 3 (.seq (.seq (.reg r172_10 [4, 6, 7, 8, 30]) (.cond (.t 30) (.reg r172_11 [4, 6, 7, 8]) .skip)) (.reg r172_12 [4, 6, 7, 8]))) (.reg r172_9 [4, 6, 7, 8]))) [.lp L_internal_bytealg_hashStr_string_1 keep] (keepFr keep fr) h := LP_XS L_internal_bytealg_hashStr_string_1 keep
def F_internal_bytealg_hashStr_string : AFn := ⟨39, (.seq (.reg r172_0 [0]) (.seq (.reg r172_1 [0, 4]) (.seq (.seq (.reg r172_2 [0, 4, 5]) (.block 0 (.loop L_internal_bytealg_hashStr_string_0 [0, 4, 5]))) (.seq (.reg r172_6 [0, 4, 6, 7]) (.seq (.seq (.reg r172_7 [4, 6, 7, 8]) (.block 2 (.loop L_internal_bytealg_hashStr_string_1 [4, 6, 7, 8]))) (.seq (.reg r172_13 [2, 3]) .ret)))))), [.t 2, .t 3], true⟩
end Go.Proofs.YtfahpmlckobpmaaGreatDoor.Pi
