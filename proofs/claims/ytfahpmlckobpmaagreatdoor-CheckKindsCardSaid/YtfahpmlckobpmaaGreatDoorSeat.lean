/- The seat's functions as a tree, and the environment. Written by seat.py. -/
import Derived.Test.YtfahpmlckobpmaaGreatDoorPiG
import Derived.Test.YtfahpmlckobpmaaGreatDoorCode0
import Derived.Test.YtfahpmlckobpmaaGreatDoorCode1
import Derived.Test.YtfahpmlckobpmaaGreatDoorCode2
set_option linter.unusedSimpArgs false
set_option linter.unusedVariables false
set_option linter.unusedSectionVars false
namespace Go.Proofs.YtfahpmlckobpmaaGreatDoor.Pi
open Go
def fns : FT := (.node K_fold_folder_constant F_fold_folder_constant (.node K_expr_parser_cond F_expr_parser_cond (.node K_ref10_Kind F_ref10_Kind (.node K_law01_Num F_law01_Num (.node K_law10_kind F_law10_kind (.node K_law10_alive F_law10_alive (.node K_law10_CheckLays F_law10_CheckLays (.node K_law10_CheckKinds F_law10_CheckKinds .leaf .leaf) .leaf) (.node K_expr_Parse F_expr_Parse .leaf .leaf)) (.node K_ref10_Lay F_ref10_Lay (.node K_check_Lay F_check_Lay (.node K_model_Parse F_model_Parse .leaf .leaf) .leaf) (.node K_law06_To F_law06_To .leaf .leaf))) (.node K_scan_New F_scan_New (.node K_law10_To F_law10_To (.node K_ref10_Text F_ref10_Text (.node K_law01_Pos F_law01_Pos .leaf .leaf) .leaf) (.node K_law10_Flat F_law10_Flat .leaf .leaf)) (.node K_expr_p20 F_expr_p20 (.node K_scan_Reader_Peek F_scan_Reader_Peek (.node K_expr_Read F_expr_Read .leaf .leaf) .leaf) (.node K_check_Kind F_check_Kind .leaf .leaf)))) (.node K_check_layer_branch F_check_layer_branch (.node K_model_parser_module F_model_parser_module (.node K_model_parser_skip F_model_parser_skip (.node K_model_parser_want F_model_parser_want (.node K_law05_To F_law05_To .leaf .leaf) .leaf) (.node K_model_parser_def F_model_parser_def .leaf .leaf)) (.node K_check_layer_slot F_check_layer_slot (.node K_fold_Fold F_fold_Fold (.node K_model_parser_wrong F_model_parser_wrong .leaf .leaf) .leaf) (.node K_check_layer_truth F_check_layer_truth .leaf .leaf))) (.node K_ref10_Find F_ref10_Find (.node K_ref10_Layer_worth F_ref10_Layer_worth (.node K_ref10_Layer_fail F_ref10_Layer_fail (.node K_ref09_Fold F_ref09_Fold .leaf .leaf) .leaf) (.node K_ref10_Layer_kind F_ref10_Layer_kind .leaf .leaf)) (.node K_ref05_Shape F_ref05_Shape (.node K_ref05_Digits F_ref05_Digits (.node K_law06_defs F_law06_defs .leaf .leaf) .leaf) (.node K_scan_Tokens F_scan_Tokens .leaf .leaf))))) (.node K_check_find F_check_find (.node K_model_parser_variable F_model_parser_variable (.node K_scan_Reader_Skip F_scan_Reader_Skip (.node K_model_parser_fail F_model_parser_fail (.node K_check_kind F_check_kind (.node K_check_at F_check_at .leaf .leaf) .leaf) (.node K_scan_Reader_Want F_scan_Reader_Want .leaf .leaf)) (.node K_model_parser_expr F_model_parser_expr (.node K_model_parser_name F_model_parser_name (.node K_scan_Reader_Take F_scan_Reader_Take .leaf .leaf) .leaf) (.node K_scan_Reader_Is F_scan_Reader_Is .leaf .leaf))) (.node K_fold_steps_put F_fold_steps_put (.node K_fold_folder_consts F_fold_folder_consts (.node K_fold_begin F_fold_begin (.node K_model_parser_command F_model_parser_command .leaf .leaf) .leaf) (.node K_fold_folder_formula F_fold_folder_formula .leaf .leaf)) (.node K_check_layer_worth F_check_layer_worth (.node K_check_layer_fail F_check_layer_fail (.node K_fold_steps_module F_fold_steps_module .leaf .leaf) .leaf) (.node K_check_must F_check_must .leaf .leaf)))) (.node K_check_each F_check_each (.node K_ref09_Book_Expand F_ref09_Book_Expand (.node K_ref09_Book_Consts F_ref09_Book_Consts (.node K_check_layer_branch_1 F_check_layer_branch_1 (.node K_slices_ContainsFunc_check_Set_check_Set F_slices_ContainsFunc_check_Set_check_Set .leaf .leaf) .leaf) (.node K_ref09_Book_Formula F_ref09_Book_Formula .leaf .leaf)) (.node K_scan_one F_scan_one (.node K_scan_blank F_scan_blank (.node K_ref08_Eval F_ref08_Eval .leaf .leaf) .leaf) (.node K_expr_parser_imply F_expr_parser_imply .leaf .leaf))) (.node K_model_parser_branch F_model_parser_branch (.node K_model_kept F_model_kept (.node K_scan_Reader_wrong F_scan_Reader_wrong (.node K_check_alike F_check_alike .leaf .leaf) .leaf) (.node K_model_split_model_Branch F_model_split_model_Branch .leaf .leaf)) (.node K_fold_folder_enter F_fold_folder_enter (.node K_fold_begin_1 F_fold_begin_1 .leaf .leaf) (.node K_fold_once F_fold_once .leaf .leaf)))))) (.node K_value_plain F_value_plain (.node K_scan_one_2 F_scan_one_2 (.node K_ref09_Book_fail F_ref09_Book_fail (.node K_slices_IndexFunc_check_Set_check_Set F_slices_IndexFunc_check_Set_check_Set (.node K_slices_IndexFunc_check_Slot_check_Slot F_slices_IndexFunc_check_Slot_check_Slot (.node K_value_Eval F_value_Eval (.node K_fold_folder_expand F_fold_folder_expand .leaf .leaf) .leaf) (.node K_check_find_1 F_check_find_1 .leaf .leaf)) (.node K_ref09_Book_turn F_ref09_Book_turn (.node K_ref09_Book_Const F_ref09_Book_Const (.node K_ref09_Book_twice F_ref09_Book_twice .leaf .leaf) .leaf) (.node K_ref05_Size F_ref05_Size .leaf .leaf))) (.node K_strings_HasPrefix F_strings_HasPrefix (.node K_ref08_must F_ref08_must (.node K_ref08_wrong F_ref08_wrong (.node K_ref08_truth F_ref08_truth .leaf .leaf) .leaf) (.node K_ref08_sum F_ref08_sum .leaf .leaf)) (.node K_scan_run F_scan_run (.node K_scan_kind F_scan_kind (.node K_strings_Cut F_strings_Cut .leaf .leaf) .leaf) (.node K_scan_one_1 F_scan_one_1 .leaf .leaf)))) (.node K_model_parser_set F_model_parser_set (.node K_expr_parser_chain F_expr_parser_chain (.node K_scan_quoted F_scan_quoted (.node K_scan_wrong F_scan_wrong (.node K_scan_digits F_scan_digits .leaf .leaf) .leaf) (.node K_scan_mark F_scan_mark .leaf .leaf)) (.node K_scan_Reader_Number F_scan_Reader_Number (.node K_expr_two F_expr_two (.node K_expr_parser_deep F_expr_parser_deep .leaf .leaf) .leaf) (.node K_model_split_model_Set F_model_split_model_Set .leaf .leaf))) (.node K_expr_Size F_expr_Size (.node K_fold_named F_fold_named (.node K_fold_missing F_fold_missing (.node K_fold_at F_fold_at .leaf .leaf) .leaf) (.node K_fold_folder_turn F_fold_folder_turn .leaf .leaf)) (.node K_value_kids F_value_kids (.node K_fold_clone F_fold_clone .leaf .leaf) (.node K_value_at F_value_at .leaf .leaf))))) (.node K_fold_folder_name F_fold_folder_name (.node K_ref03_Add F_ref03_Add (.node K_value_join F_value_join (.node K_safe_Neg F_safe_Neg (.node K_value_Truth F_value_Truth (.node K_value_kind F_value_kind .leaf .leaf) .leaf) (.node K_value_number F_value_number .leaf .leaf)) (.node K_ref09_at F_ref09_at (.node K_value_reckon F_value_reckon (.node K_value_same F_value_same .leaf .leaf) .leaf) (.node K_ref09_names F_ref09_names .leaf .leaf))) (.node K_strings_IndexByte F_strings_IndexByte (.node K_internal_stringslite_HasPrefix F_internal_stringslite_HasPrefix (.node K_ref03_Mul F_ref03_Mul (.node K_ref03_Sub F_ref03_Sub .leaf .leaf) .leaf) (.node K_internal_stringslite_Cut F_internal_stringslite_Cut .leaf .leaf)) (.node K_slices_ContainsFunc_value_Bind_value_Bind F_slices_ContainsFunc_value_Bind_value_Bind (.node K_expr_parser_sign F_expr_parser_sign (.node K_expr_parser_part F_expr_parser_part .leaf .leaf) .leaf) (.node K_fold_named_1 F_fold_named_1 .leaf .leaf)))) (.node K_internal_stringslite_Index F_internal_stringslite_Index (.node K_safe_Add F_safe_Add (.node K_value_plain_1 F_value_plain_1 (.node K_slices_IndexFunc_value_Bind_value_Bind F_slices_IndexFunc_value_Bind_value_Bind (.node K_value_Number F_value_Number .leaf .leaf) .leaf) (.node K_safe_Sub F_safe_Sub .leaf .leaf)) (.node K_ref03_Wide_Fits F_ref03_Wide_Fits (.node K_ref03_size F_ref03_size (.node K_safe_Mul F_safe_Mul .leaf .leaf) .leaf) (.node K_math_bits_Mul64 F_math_bits_Mul64 .leaf .leaf))) (.node K_internal_bytealg_Cutover F_internal_bytealg_Cutover (.node K_expr_parser_minus F_expr_parser_minus (.node K_expr_parser_not F_expr_parser_not (.node K_internal_stringslite_IndexByte F_internal_stringslite_IndexByte .leaf .leaf) .leaf) (.node K_fold_literal F_fold_literal .leaf .leaf)) (.node K_expr_parser_prefix F_expr_parser_prefix (.node K_internal_bytealg_IndexRabinKarp_string F_internal_bytealg_IndexRabinKarp_string .leaf .leaf) (.node K_internal_bytealg_hashStr_string F_internal_bytealg_hashStr_string .leaf .leaf)))))))
def exts (k : Nat) : Option (List AV → AH → Option (AV × AH)) :=
  if k = K_errors_As then some (kAs T_api_Errno T_P_api_Errno T_P_api_At T_P_P_api_At) else
  if k = K_internal_bytealg_IndexByteString then some (kIndexByte) else
  none
def EE : Env := ⟨fns.get, exts⟩
end Go.Proofs.YtfahpmlckobpmaaGreatDoor.Pi
/- Each function's entry. Written by seat.py. -/
namespace Go.Proofs.YtfahpmlckobpmaaGreatDoor.Pi
open Go
theorem E_law10_CheckKinds : EE.ext K_law10_CheckKinds = none ∧ EE.fns K_law10_CheckKinds = some F_law10_CheckKinds := ⟨rfl, rfl⟩
theorem E_law10_CheckLays : EE.ext K_law10_CheckLays = none ∧ EE.fns K_law10_CheckLays = some F_law10_CheckLays := ⟨rfl, rfl⟩
theorem E_law10_alive : EE.ext K_law10_alive = none ∧ EE.fns K_law10_alive = some F_law10_alive := ⟨rfl, rfl⟩
theorem E_expr_Parse : EE.ext K_expr_Parse = none ∧ EE.fns K_expr_Parse = some F_expr_Parse := ⟨rfl, rfl⟩
theorem E_law10_kind : EE.ext K_law10_kind = none ∧ EE.fns K_law10_kind = some F_law10_kind := ⟨rfl, rfl⟩
theorem E_model_Parse : EE.ext K_model_Parse = none ∧ EE.fns K_model_Parse = some F_model_Parse := ⟨rfl, rfl⟩
theorem E_check_Lay : EE.ext K_check_Lay = none ∧ EE.fns K_check_Lay = some F_check_Lay := ⟨rfl, rfl⟩
theorem E_ref10_Lay : EE.ext K_ref10_Lay = none ∧ EE.fns K_ref10_Lay = some F_ref10_Lay := ⟨rfl, rfl⟩
theorem E_law06_To : EE.ext K_law06_To = none ∧ EE.fns K_law06_To = some F_law06_To := ⟨rfl, rfl⟩
theorem E_law01_Num : EE.ext K_law01_Num = none ∧ EE.fns K_law01_Num = some F_law01_Num := ⟨rfl, rfl⟩
theorem E_law01_Pos : EE.ext K_law01_Pos = none ∧ EE.fns K_law01_Pos = some F_law01_Pos := ⟨rfl, rfl⟩
theorem E_ref10_Text : EE.ext K_ref10_Text = none ∧ EE.fns K_ref10_Text = some F_ref10_Text := ⟨rfl, rfl⟩
theorem E_law10_To : EE.ext K_law10_To = none ∧ EE.fns K_law10_To = some F_law10_To := ⟨rfl, rfl⟩
theorem E_law10_Flat : EE.ext K_law10_Flat = none ∧ EE.fns K_law10_Flat = some F_law10_Flat := ⟨rfl, rfl⟩
theorem E_scan_New : EE.ext K_scan_New = none ∧ EE.fns K_scan_New = some F_scan_New := ⟨rfl, rfl⟩
theorem E_expr_Read : EE.ext K_expr_Read = none ∧ EE.fns K_expr_Read = some F_expr_Read := ⟨rfl, rfl⟩
theorem E_scan_Reader_Peek : EE.ext K_scan_Reader_Peek = none ∧ EE.fns K_scan_Reader_Peek = some F_scan_Reader_Peek := ⟨rfl, rfl⟩
theorem E_expr_p20 : EE.ext K_expr_p20 = none ∧ EE.fns K_expr_p20 = some F_expr_p20 := ⟨rfl, rfl⟩
theorem E_check_Kind : EE.ext K_check_Kind = none ∧ EE.fns K_check_Kind = some F_check_Kind := ⟨rfl, rfl⟩
theorem E_ref10_Kind : EE.ext K_ref10_Kind = none ∧ EE.fns K_ref10_Kind = some F_ref10_Kind := ⟨rfl, rfl⟩
theorem E_law05_To : EE.ext K_law05_To = none ∧ EE.fns K_law05_To = some F_law05_To := ⟨rfl, rfl⟩
theorem E_model_parser_want : EE.ext K_model_parser_want = none ∧ EE.fns K_model_parser_want = some F_model_parser_want := ⟨rfl, rfl⟩
theorem E_model_parser_skip : EE.ext K_model_parser_skip = none ∧ EE.fns K_model_parser_skip = some F_model_parser_skip := ⟨rfl, rfl⟩
theorem E_model_parser_def : EE.ext K_model_parser_def = none ∧ EE.fns K_model_parser_def = some F_model_parser_def := ⟨rfl, rfl⟩
theorem E_model_parser_module : EE.ext K_model_parser_module = none ∧ EE.fns K_model_parser_module = some F_model_parser_module := ⟨rfl, rfl⟩
theorem E_model_parser_wrong : EE.ext K_model_parser_wrong = none ∧ EE.fns K_model_parser_wrong = some F_model_parser_wrong := ⟨rfl, rfl⟩
theorem E_fold_Fold : EE.ext K_fold_Fold = none ∧ EE.fns K_fold_Fold = some F_fold_Fold := ⟨rfl, rfl⟩
theorem E_check_layer_slot : EE.ext K_check_layer_slot = none ∧ EE.fns K_check_layer_slot = some F_check_layer_slot := ⟨rfl, rfl⟩
theorem E_check_layer_truth : EE.ext K_check_layer_truth = none ∧ EE.fns K_check_layer_truth = some F_check_layer_truth := ⟨rfl, rfl⟩
theorem E_check_layer_branch : EE.ext K_check_layer_branch = none ∧ EE.fns K_check_layer_branch = some F_check_layer_branch := ⟨rfl, rfl⟩
theorem E_ref09_Fold : EE.ext K_ref09_Fold = none ∧ EE.fns K_ref09_Fold = some F_ref09_Fold := ⟨rfl, rfl⟩
theorem E_ref10_Layer_fail : EE.ext K_ref10_Layer_fail = none ∧ EE.fns K_ref10_Layer_fail = some F_ref10_Layer_fail := ⟨rfl, rfl⟩
theorem E_ref10_Layer_worth : EE.ext K_ref10_Layer_worth = none ∧ EE.fns K_ref10_Layer_worth = some F_ref10_Layer_worth := ⟨rfl, rfl⟩
theorem E_ref10_Layer_kind : EE.ext K_ref10_Layer_kind = none ∧ EE.fns K_ref10_Layer_kind = some F_ref10_Layer_kind := ⟨rfl, rfl⟩
theorem E_ref10_Find : EE.ext K_ref10_Find = none ∧ EE.fns K_ref10_Find = some F_ref10_Find := ⟨rfl, rfl⟩
theorem E_law06_defs : EE.ext K_law06_defs = none ∧ EE.fns K_law06_defs = some F_law06_defs := ⟨rfl, rfl⟩
theorem E_ref05_Digits : EE.ext K_ref05_Digits = none ∧ EE.fns K_ref05_Digits = some F_ref05_Digits := ⟨rfl, rfl⟩
theorem E_ref05_Shape : EE.ext K_ref05_Shape = none ∧ EE.fns K_ref05_Shape = some F_ref05_Shape := ⟨rfl, rfl⟩
theorem E_scan_Tokens : EE.ext K_scan_Tokens = none ∧ EE.fns K_scan_Tokens = some F_scan_Tokens := ⟨rfl, rfl⟩
theorem E_expr_parser_cond : EE.ext K_expr_parser_cond = none ∧ EE.fns K_expr_parser_cond = some F_expr_parser_cond := ⟨rfl, rfl⟩
theorem E_check_at : EE.ext K_check_at = none ∧ EE.fns K_check_at = some F_check_at := ⟨rfl, rfl⟩
theorem E_check_kind : EE.ext K_check_kind = none ∧ EE.fns K_check_kind = some F_check_kind := ⟨rfl, rfl⟩
theorem E_model_parser_fail : EE.ext K_model_parser_fail = none ∧ EE.fns K_model_parser_fail = some F_model_parser_fail := ⟨rfl, rfl⟩
theorem E_scan_Reader_Want : EE.ext K_scan_Reader_Want = none ∧ EE.fns K_scan_Reader_Want = some F_scan_Reader_Want := ⟨rfl, rfl⟩
theorem E_scan_Reader_Skip : EE.ext K_scan_Reader_Skip = none ∧ EE.fns K_scan_Reader_Skip = some F_scan_Reader_Skip := ⟨rfl, rfl⟩
theorem E_scan_Reader_Take : EE.ext K_scan_Reader_Take = none ∧ EE.fns K_scan_Reader_Take = some F_scan_Reader_Take := ⟨rfl, rfl⟩
theorem E_model_parser_name : EE.ext K_model_parser_name = none ∧ EE.fns K_model_parser_name = some F_model_parser_name := ⟨rfl, rfl⟩
theorem E_model_parser_expr : EE.ext K_model_parser_expr = none ∧ EE.fns K_model_parser_expr = some F_model_parser_expr := ⟨rfl, rfl⟩
theorem E_scan_Reader_Is : EE.ext K_scan_Reader_Is = none ∧ EE.fns K_scan_Reader_Is = some F_scan_Reader_Is := ⟨rfl, rfl⟩
theorem E_model_parser_variable : EE.ext K_model_parser_variable = none ∧ EE.fns K_model_parser_variable = some F_model_parser_variable := ⟨rfl, rfl⟩
theorem E_model_parser_command : EE.ext K_model_parser_command = none ∧ EE.fns K_model_parser_command = some F_model_parser_command := ⟨rfl, rfl⟩
theorem E_fold_begin : EE.ext K_fold_begin = none ∧ EE.fns K_fold_begin = some F_fold_begin := ⟨rfl, rfl⟩
theorem E_fold_folder_consts : EE.ext K_fold_folder_consts = none ∧ EE.fns K_fold_folder_consts = some F_fold_folder_consts := ⟨rfl, rfl⟩
theorem E_fold_folder_formula : EE.ext K_fold_folder_formula = none ∧ EE.fns K_fold_folder_formula = some F_fold_folder_formula := ⟨rfl, rfl⟩
theorem E_fold_steps_put : EE.ext K_fold_steps_put = none ∧ EE.fns K_fold_steps_put = some F_fold_steps_put := ⟨rfl, rfl⟩
theorem E_fold_steps_module : EE.ext K_fold_steps_module = none ∧ EE.fns K_fold_steps_module = some F_fold_steps_module := ⟨rfl, rfl⟩
theorem E_check_layer_fail : EE.ext K_check_layer_fail = none ∧ EE.fns K_check_layer_fail = some F_check_layer_fail := ⟨rfl, rfl⟩
theorem E_check_layer_worth : EE.ext K_check_layer_worth = none ∧ EE.fns K_check_layer_worth = some F_check_layer_worth := ⟨rfl, rfl⟩
theorem E_check_must : EE.ext K_check_must = none ∧ EE.fns K_check_must = some F_check_must := ⟨rfl, rfl⟩
theorem E_check_find : EE.ext K_check_find = none ∧ EE.fns K_check_find = some F_check_find := ⟨rfl, rfl⟩
theorem E_slices_ContainsFunc_check_Set_check_Set : EE.ext K_slices_ContainsFunc_check_Set_check_Set = none ∧ EE.fns K_slices_ContainsFunc_check_Set_check_Set = some F_slices_ContainsFunc_check_Set_check_Set := ⟨rfl, rfl⟩
theorem E_check_layer_branch_1 : EE.ext K_check_layer_branch_1 = none ∧ EE.fns K_check_layer_branch_1 = some F_check_layer_branch_1 := ⟨rfl, rfl⟩
theorem E_ref09_Book_Consts : EE.ext K_ref09_Book_Consts = none ∧ EE.fns K_ref09_Book_Consts = some F_ref09_Book_Consts := ⟨rfl, rfl⟩
theorem E_ref09_Book_Formula : EE.ext K_ref09_Book_Formula = none ∧ EE.fns K_ref09_Book_Formula = some F_ref09_Book_Formula := ⟨rfl, rfl⟩
theorem E_ref09_Book_Expand : EE.ext K_ref09_Book_Expand = none ∧ EE.fns K_ref09_Book_Expand = some F_ref09_Book_Expand := ⟨rfl, rfl⟩
theorem E_ref08_Eval : EE.ext K_ref08_Eval = none ∧ EE.fns K_ref08_Eval = some F_ref08_Eval := ⟨rfl, rfl⟩
theorem E_scan_blank : EE.ext K_scan_blank = none ∧ EE.fns K_scan_blank = some F_scan_blank := ⟨rfl, rfl⟩
theorem E_scan_one : EE.ext K_scan_one = none ∧ EE.fns K_scan_one = some F_scan_one := ⟨rfl, rfl⟩
theorem E_expr_parser_imply : EE.ext K_expr_parser_imply = none ∧ EE.fns K_expr_parser_imply = some F_expr_parser_imply := ⟨rfl, rfl⟩
theorem E_check_each : EE.ext K_check_each = none ∧ EE.fns K_check_each = some F_check_each := ⟨rfl, rfl⟩
theorem E_check_alike : EE.ext K_check_alike = none ∧ EE.fns K_check_alike = some F_check_alike := ⟨rfl, rfl⟩
theorem E_scan_Reader_wrong : EE.ext K_scan_Reader_wrong = none ∧ EE.fns K_scan_Reader_wrong = some F_scan_Reader_wrong := ⟨rfl, rfl⟩
theorem E_model_kept : EE.ext K_model_kept = none ∧ EE.fns K_model_kept = some F_model_kept := ⟨rfl, rfl⟩
theorem E_model_split_model_Branch : EE.ext K_model_split_model_Branch = none ∧ EE.fns K_model_split_model_Branch = some F_model_split_model_Branch := ⟨rfl, rfl⟩
theorem E_model_parser_branch : EE.ext K_model_parser_branch = none ∧ EE.fns K_model_parser_branch = some F_model_parser_branch := ⟨rfl, rfl⟩
theorem E_fold_begin_1 : EE.ext K_fold_begin_1 = none ∧ EE.fns K_fold_begin_1 = some F_fold_begin_1 := ⟨rfl, rfl⟩
theorem E_fold_folder_enter : EE.ext K_fold_folder_enter = none ∧ EE.fns K_fold_folder_enter = some F_fold_folder_enter := ⟨rfl, rfl⟩
theorem E_fold_once : EE.ext K_fold_once = none ∧ EE.fns K_fold_once = some F_fold_once := ⟨rfl, rfl⟩
theorem E_fold_folder_constant : EE.ext K_fold_folder_constant = none ∧ EE.fns K_fold_folder_constant = some F_fold_folder_constant := ⟨rfl, rfl⟩
theorem E_fold_folder_expand : EE.ext K_fold_folder_expand = none ∧ EE.fns K_fold_folder_expand = some F_fold_folder_expand := ⟨rfl, rfl⟩
theorem E_value_Eval : EE.ext K_value_Eval = none ∧ EE.fns K_value_Eval = some F_value_Eval := ⟨rfl, rfl⟩
theorem E_slices_IndexFunc_check_Slot_check_Slot : EE.ext K_slices_IndexFunc_check_Slot_check_Slot = none ∧ EE.fns K_slices_IndexFunc_check_Slot_check_Slot = some F_slices_IndexFunc_check_Slot_check_Slot := ⟨rfl, rfl⟩
theorem E_check_find_1 : EE.ext K_check_find_1 = none ∧ EE.fns K_check_find_1 = some F_check_find_1 := ⟨rfl, rfl⟩
theorem E_slices_IndexFunc_check_Set_check_Set : EE.ext K_slices_IndexFunc_check_Set_check_Set = none ∧ EE.fns K_slices_IndexFunc_check_Set_check_Set = some F_slices_IndexFunc_check_Set_check_Set := ⟨rfl, rfl⟩
theorem E_ref09_Book_twice : EE.ext K_ref09_Book_twice = none ∧ EE.fns K_ref09_Book_twice = some F_ref09_Book_twice := ⟨rfl, rfl⟩
theorem E_ref09_Book_Const : EE.ext K_ref09_Book_Const = none ∧ EE.fns K_ref09_Book_Const = some F_ref09_Book_Const := ⟨rfl, rfl⟩
theorem E_ref09_Book_turn : EE.ext K_ref09_Book_turn = none ∧ EE.fns K_ref09_Book_turn = some F_ref09_Book_turn := ⟨rfl, rfl⟩
theorem E_ref05_Size : EE.ext K_ref05_Size = none ∧ EE.fns K_ref05_Size = some F_ref05_Size := ⟨rfl, rfl⟩
theorem E_ref09_Book_fail : EE.ext K_ref09_Book_fail = none ∧ EE.fns K_ref09_Book_fail = some F_ref09_Book_fail := ⟨rfl, rfl⟩
theorem E_ref08_truth : EE.ext K_ref08_truth = none ∧ EE.fns K_ref08_truth = some F_ref08_truth := ⟨rfl, rfl⟩
theorem E_ref08_wrong : EE.ext K_ref08_wrong = none ∧ EE.fns K_ref08_wrong = some F_ref08_wrong := ⟨rfl, rfl⟩
theorem E_ref08_must : EE.ext K_ref08_must = none ∧ EE.fns K_ref08_must = some F_ref08_must := ⟨rfl, rfl⟩
theorem E_ref08_sum : EE.ext K_ref08_sum = none ∧ EE.fns K_ref08_sum = some F_ref08_sum := ⟨rfl, rfl⟩
theorem E_strings_HasPrefix : EE.ext K_strings_HasPrefix = none ∧ EE.fns K_strings_HasPrefix = some F_strings_HasPrefix := ⟨rfl, rfl⟩
theorem E_strings_Cut : EE.ext K_strings_Cut = none ∧ EE.fns K_strings_Cut = some F_strings_Cut := ⟨rfl, rfl⟩
theorem E_scan_kind : EE.ext K_scan_kind = none ∧ EE.fns K_scan_kind = some F_scan_kind := ⟨rfl, rfl⟩
theorem E_scan_run : EE.ext K_scan_run = none ∧ EE.fns K_scan_run = some F_scan_run := ⟨rfl, rfl⟩
theorem E_scan_one_1 : EE.ext K_scan_one_1 = none ∧ EE.fns K_scan_one_1 = some F_scan_one_1 := ⟨rfl, rfl⟩
theorem E_scan_one_2 : EE.ext K_scan_one_2 = none ∧ EE.fns K_scan_one_2 = some F_scan_one_2 := ⟨rfl, rfl⟩
theorem E_scan_digits : EE.ext K_scan_digits = none ∧ EE.fns K_scan_digits = some F_scan_digits := ⟨rfl, rfl⟩
theorem E_scan_wrong : EE.ext K_scan_wrong = none ∧ EE.fns K_scan_wrong = some F_scan_wrong := ⟨rfl, rfl⟩
theorem E_scan_quoted : EE.ext K_scan_quoted = none ∧ EE.fns K_scan_quoted = some F_scan_quoted := ⟨rfl, rfl⟩
theorem E_scan_mark : EE.ext K_scan_mark = none ∧ EE.fns K_scan_mark = some F_scan_mark := ⟨rfl, rfl⟩
theorem E_expr_parser_chain : EE.ext K_expr_parser_chain = none ∧ EE.fns K_expr_parser_chain = some F_expr_parser_chain := ⟨rfl, rfl⟩
theorem E_expr_parser_deep : EE.ext K_expr_parser_deep = none ∧ EE.fns K_expr_parser_deep = some F_expr_parser_deep := ⟨rfl, rfl⟩
theorem E_expr_two : EE.ext K_expr_two = none ∧ EE.fns K_expr_two = some F_expr_two := ⟨rfl, rfl⟩
theorem E_scan_Reader_Number : EE.ext K_scan_Reader_Number = none ∧ EE.fns K_scan_Reader_Number = some F_scan_Reader_Number := ⟨rfl, rfl⟩
theorem E_model_split_model_Set : EE.ext K_model_split_model_Set = none ∧ EE.fns K_model_split_model_Set = some F_model_split_model_Set := ⟨rfl, rfl⟩
theorem E_model_parser_set : EE.ext K_model_parser_set = none ∧ EE.fns K_model_parser_set = some F_model_parser_set := ⟨rfl, rfl⟩
theorem E_fold_at : EE.ext K_fold_at = none ∧ EE.fns K_fold_at = some F_fold_at := ⟨rfl, rfl⟩
theorem E_fold_missing : EE.ext K_fold_missing = none ∧ EE.fns K_fold_missing = some F_fold_missing := ⟨rfl, rfl⟩
theorem E_fold_named : EE.ext K_fold_named = none ∧ EE.fns K_fold_named = some F_fold_named := ⟨rfl, rfl⟩
theorem E_fold_folder_turn : EE.ext K_fold_folder_turn = none ∧ EE.fns K_fold_folder_turn = some F_fold_folder_turn := ⟨rfl, rfl⟩
theorem E_expr_Size : EE.ext K_expr_Size = none ∧ EE.fns K_expr_Size = some F_expr_Size := ⟨rfl, rfl⟩
theorem E_fold_clone : EE.ext K_fold_clone = none ∧ EE.fns K_fold_clone = some F_fold_clone := ⟨rfl, rfl⟩
theorem E_value_kids : EE.ext K_value_kids = none ∧ EE.fns K_value_kids = some F_value_kids := ⟨rfl, rfl⟩
theorem E_value_at : EE.ext K_value_at = none ∧ EE.fns K_value_at = some F_value_at := ⟨rfl, rfl⟩
theorem E_value_plain : EE.ext K_value_plain = none ∧ EE.fns K_value_plain = some F_value_plain := ⟨rfl, rfl⟩
theorem E_value_kind : EE.ext K_value_kind = none ∧ EE.fns K_value_kind = some F_value_kind := ⟨rfl, rfl⟩
theorem E_value_Truth : EE.ext K_value_Truth = none ∧ EE.fns K_value_Truth = some F_value_Truth := ⟨rfl, rfl⟩
theorem E_safe_Neg : EE.ext K_safe_Neg = none ∧ EE.fns K_safe_Neg = some F_safe_Neg := ⟨rfl, rfl⟩
theorem E_value_number : EE.ext K_value_number = none ∧ EE.fns K_value_number = some F_value_number := ⟨rfl, rfl⟩
theorem E_value_join : EE.ext K_value_join = none ∧ EE.fns K_value_join = some F_value_join := ⟨rfl, rfl⟩
theorem E_value_same : EE.ext K_value_same = none ∧ EE.fns K_value_same = some F_value_same := ⟨rfl, rfl⟩
theorem E_value_reckon : EE.ext K_value_reckon = none ∧ EE.fns K_value_reckon = some F_value_reckon := ⟨rfl, rfl⟩
theorem E_ref09_at : EE.ext K_ref09_at = none ∧ EE.fns K_ref09_at = some F_ref09_at := ⟨rfl, rfl⟩
theorem E_ref09_names : EE.ext K_ref09_names = none ∧ EE.fns K_ref09_names = some F_ref09_names := ⟨rfl, rfl⟩
theorem E_ref03_Add : EE.ext K_ref03_Add = none ∧ EE.fns K_ref03_Add = some F_ref03_Add := ⟨rfl, rfl⟩
theorem E_ref03_Sub : EE.ext K_ref03_Sub = none ∧ EE.fns K_ref03_Sub = some F_ref03_Sub := ⟨rfl, rfl⟩
theorem E_ref03_Mul : EE.ext K_ref03_Mul = none ∧ EE.fns K_ref03_Mul = some F_ref03_Mul := ⟨rfl, rfl⟩
theorem E_internal_stringslite_HasPrefix : EE.ext K_internal_stringslite_HasPrefix = none ∧ EE.fns K_internal_stringslite_HasPrefix = some F_internal_stringslite_HasPrefix := ⟨rfl, rfl⟩
theorem E_internal_stringslite_Cut : EE.ext K_internal_stringslite_Cut = none ∧ EE.fns K_internal_stringslite_Cut = some F_internal_stringslite_Cut := ⟨rfl, rfl⟩
theorem E_strings_IndexByte : EE.ext K_strings_IndexByte = none ∧ EE.fns K_strings_IndexByte = some F_strings_IndexByte := ⟨rfl, rfl⟩
theorem E_expr_parser_part : EE.ext K_expr_parser_part = none ∧ EE.fns K_expr_parser_part = some F_expr_parser_part := ⟨rfl, rfl⟩
theorem E_expr_parser_sign : EE.ext K_expr_parser_sign = none ∧ EE.fns K_expr_parser_sign = some F_expr_parser_sign := ⟨rfl, rfl⟩
theorem E_slices_ContainsFunc_value_Bind_value_Bind : EE.ext K_slices_ContainsFunc_value_Bind_value_Bind = none ∧ EE.fns K_slices_ContainsFunc_value_Bind_value_Bind = some F_slices_ContainsFunc_value_Bind_value_Bind := ⟨rfl, rfl⟩
theorem E_fold_named_1 : EE.ext K_fold_named_1 = none ∧ EE.fns K_fold_named_1 = some F_fold_named_1 := ⟨rfl, rfl⟩
theorem E_fold_folder_name : EE.ext K_fold_folder_name = none ∧ EE.fns K_fold_folder_name = some F_fold_folder_name := ⟨rfl, rfl⟩
theorem E_value_Number : EE.ext K_value_Number = none ∧ EE.fns K_value_Number = some F_value_Number := ⟨rfl, rfl⟩
theorem E_slices_IndexFunc_value_Bind_value_Bind : EE.ext K_slices_IndexFunc_value_Bind_value_Bind = none ∧ EE.fns K_slices_IndexFunc_value_Bind_value_Bind = some F_slices_IndexFunc_value_Bind_value_Bind := ⟨rfl, rfl⟩
theorem E_value_plain_1 : EE.ext K_value_plain_1 = none ∧ EE.fns K_value_plain_1 = some F_value_plain_1 := ⟨rfl, rfl⟩
theorem E_safe_Sub : EE.ext K_safe_Sub = none ∧ EE.fns K_safe_Sub = some F_safe_Sub := ⟨rfl, rfl⟩
theorem E_safe_Add : EE.ext K_safe_Add = none ∧ EE.fns K_safe_Add = some F_safe_Add := ⟨rfl, rfl⟩
theorem E_safe_Mul : EE.ext K_safe_Mul = none ∧ EE.fns K_safe_Mul = some F_safe_Mul := ⟨rfl, rfl⟩
theorem E_ref03_size : EE.ext K_ref03_size = none ∧ EE.fns K_ref03_size = some F_ref03_size := ⟨rfl, rfl⟩
theorem E_ref03_Wide_Fits : EE.ext K_ref03_Wide_Fits = none ∧ EE.fns K_ref03_Wide_Fits = some F_ref03_Wide_Fits := ⟨rfl, rfl⟩
theorem E_math_bits_Mul64 : EE.ext K_math_bits_Mul64 = none ∧ EE.fns K_math_bits_Mul64 = some F_math_bits_Mul64 := ⟨rfl, rfl⟩
theorem E_internal_stringslite_Index : EE.ext K_internal_stringslite_Index = none ∧ EE.fns K_internal_stringslite_Index = some F_internal_stringslite_Index := ⟨rfl, rfl⟩
theorem E_internal_stringslite_IndexByte : EE.ext K_internal_stringslite_IndexByte = none ∧ EE.fns K_internal_stringslite_IndexByte = some F_internal_stringslite_IndexByte := ⟨rfl, rfl⟩
theorem E_expr_parser_not : EE.ext K_expr_parser_not = none ∧ EE.fns K_expr_parser_not = some F_expr_parser_not := ⟨rfl, rfl⟩
theorem E_expr_parser_minus : EE.ext K_expr_parser_minus = none ∧ EE.fns K_expr_parser_minus = some F_expr_parser_minus := ⟨rfl, rfl⟩
theorem E_fold_literal : EE.ext K_fold_literal = none ∧ EE.fns K_fold_literal = some F_fold_literal := ⟨rfl, rfl⟩
theorem E_internal_bytealg_Cutover : EE.ext K_internal_bytealg_Cutover = none ∧ EE.fns K_internal_bytealg_Cutover = some F_internal_bytealg_Cutover := ⟨rfl, rfl⟩
theorem E_internal_bytealg_IndexRabinKarp_string : EE.ext K_internal_bytealg_IndexRabinKarp_string = none ∧ EE.fns K_internal_bytealg_IndexRabinKarp_string = some F_internal_bytealg_IndexRabinKarp_string := ⟨rfl, rfl⟩
theorem E_expr_parser_prefix : EE.ext K_expr_parser_prefix = none ∧ EE.fns K_expr_parser_prefix = some F_expr_parser_prefix := ⟨rfl, rfl⟩
theorem E_internal_bytealg_hashStr_string : EE.ext K_internal_bytealg_hashStr_string = none ∧ EE.fns K_internal_bytealg_hashStr_string = some F_internal_bytealg_hashStr_string := ⟨rfl, rfl⟩
end Go.Proofs.YtfahpmlckobpmaaGreatDoor.Pi
