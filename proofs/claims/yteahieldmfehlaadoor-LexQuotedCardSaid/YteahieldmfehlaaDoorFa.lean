/- Closed facts on the types of this seat's program: what 'isA', 'szT' and their kin answer. Printed by wip/tools/facts.py. -/
import Derived.Test.YteahieldmfehlaaDoorRows
import Derived.Test.YteahieldmfehlaaDoorAvS
namespace Go.Proofs.YteahieldmfehlaaDoor
open Go.Av
set_option linter.unusedVariables false
@[go_sem] theorem isA_1 : isA Tryd.prog 1 = some false := by kernel_rfl
@[go_sem] theorem szT_1 : szT Tryd.prog 1 = some 1 := by kernel_rfl
@[go_sem] theorem hasT_2 : hasT Tryd.prog 2 = true := by kernel_rfl
@[go_sem] theorem conc_2 : Tryd.prog.concrete 2 = true := by kernel_rfl
@[go_sem] theorem isStr_2 : isStr Tryd.prog 2 = false := by kernel_rfl
@[go_sem] theorem isBoolT_2 : isBoolT Tryd.prog 2 = false := by kernel_rfl
@[go_sem] theorem ikT_2 : ikT Tryd.prog 2 = some .i64 := by kernel_rfl
@[go_sem] theorem isA_2 : isA Tryd.prog 2 = some false := by kernel_rfl
@[go_sem] theorem elT_2 : elT Tryd.prog 2 = none := by kernel_rfl
@[go_sem] theorem hasT_3 : hasT Tryd.prog 3 = true := by kernel_rfl
@[go_sem] theorem conc_3 : Tryd.prog.concrete 3 = true := by kernel_rfl
@[go_sem] theorem isStr_3 : isStr Tryd.prog 3 = false := by kernel_rfl
@[go_sem] theorem isBoolT_3 : isBoolT Tryd.prog 3 = false := by kernel_rfl
@[go_sem] theorem ikT_3 : ikT Tryd.prog 3 = some .i64 := by kernel_rfl
@[go_sem] theorem isA_3 : isA Tryd.prog 3 = some false := by kernel_rfl
@[go_sem] theorem elT_3 : elT Tryd.prog 3 = none := by kernel_rfl
@[go_sem] theorem hasT_4 : hasT Tryd.prog 4 = true := by kernel_rfl
@[go_sem] theorem conc_4 : Tryd.prog.concrete 4 = true := by kernel_rfl
@[go_sem] theorem isStr_4 : isStr Tryd.prog 4 = false := by kernel_rfl
@[go_sem] theorem isBoolT_4 : isBoolT Tryd.prog 4 = true := by kernel_rfl
@[go_sem] theorem ikT_4 : ikT Tryd.prog 4 = none := by kernel_rfl
@[go_sem] theorem isA_4 : isA Tryd.prog 4 = some false := by kernel_rfl
@[go_sem] theorem elT_4 : elT Tryd.prog 4 = none := by kernel_rfl
@[go_sem] theorem hasT_5 : hasT Tryd.prog 5 = true := by kernel_rfl
@[go_sem] theorem conc_5 : Tryd.prog.concrete 5 = true := by kernel_rfl
@[go_sem] theorem isStr_5 : isStr Tryd.prog 5 = false := by kernel_rfl
@[go_sem] theorem isBoolT_5 : isBoolT Tryd.prog 5 = false := by kernel_rfl
@[go_sem] theorem ikT_5 : ikT Tryd.prog 5 = some .u8 := by kernel_rfl
@[go_sem] theorem isA_5 : isA Tryd.prog 5 = some false := by kernel_rfl
@[go_sem] theorem elT_5 : elT Tryd.prog 5 = none := by kernel_rfl
@[go_sem] theorem hasT_6 : hasT Tryd.prog 6 = true := by kernel_rfl
@[go_sem] theorem conc_6 : Tryd.prog.concrete 6 = true := by kernel_rfl
@[go_sem] theorem isStr_6 : isStr Tryd.prog 6 = false := by kernel_rfl
@[go_sem] theorem isBoolT_6 : isBoolT Tryd.prog 6 = false := by kernel_rfl
@[go_sem] theorem ikT_6 : ikT Tryd.prog 6 = some .u8 := by kernel_rfl
@[go_sem] theorem isA_6 : isA Tryd.prog 6 = some false := by kernel_rfl
@[go_sem] theorem elT_6 : elT Tryd.prog 6 = none := by kernel_rfl
@[go_sem] theorem hasT_7 : hasT Tryd.prog 7 = true := by kernel_rfl
@[go_sem] theorem conc_7 : Tryd.prog.concrete 7 = true := by kernel_rfl
@[go_sem] theorem isStr_7 : isStr Tryd.prog 7 = false := by kernel_rfl
@[go_sem] theorem isBoolT_7 : isBoolT Tryd.prog 7 = false := by kernel_rfl
@[go_sem] theorem ikT_7 : ikT Tryd.prog 7 = none := by kernel_rfl
@[go_sem] theorem isA_7 : isA Tryd.prog 7 = some true := by kernel_rfl
@[go_sem] theorem elT_7 : elT Tryd.prog 7 = none := by kernel_rfl
@[go_sem] theorem hasT_8 : hasT Tryd.prog 8 = true := by kernel_rfl
@[go_sem] theorem conc_8 : Tryd.prog.concrete 8 = true := by kernel_rfl
@[go_sem] theorem isStr_8 : isStr Tryd.prog 8 = false := by kernel_rfl
@[go_sem] theorem isBoolT_8 : isBoolT Tryd.prog 8 = false := by kernel_rfl
@[go_sem] theorem ikT_8 : ikT Tryd.prog 8 = none := by kernel_rfl
@[go_sem] theorem isA_8 : isA Tryd.prog 8 = some true := by kernel_rfl
@[go_sem] theorem elT_8 : elT Tryd.prog 8 = none := by kernel_rfl
@[go_sem] theorem hasT_9 : hasT Tryd.prog 9 = true := by kernel_rfl
@[go_sem] theorem conc_9 : Tryd.prog.concrete 9 = true := by kernel_rfl
@[go_sem] theorem isStr_9 : isStr Tryd.prog 9 = true := by kernel_rfl
@[go_sem] theorem isBoolT_9 : isBoolT Tryd.prog 9 = false := by kernel_rfl
@[go_sem] theorem ikT_9 : ikT Tryd.prog 9 = none := by kernel_rfl
@[go_sem] theorem isA_9 : isA Tryd.prog 9 = some false := by kernel_rfl
@[go_sem] theorem elT_9 : elT Tryd.prog 9 = none := by kernel_rfl
@[go_sem] theorem hasT_10 : hasT Tryd.prog 10 = true := by kernel_rfl
@[go_sem] theorem conc_10 : Tryd.prog.concrete 10 = true := by kernel_rfl
@[go_sem] theorem isStr_10 : isStr Tryd.prog 10 = true := by kernel_rfl
@[go_sem] theorem isBoolT_10 : isBoolT Tryd.prog 10 = false := by kernel_rfl
@[go_sem] theorem ikT_10 : ikT Tryd.prog 10 = none := by kernel_rfl
@[go_sem] theorem isA_10 : isA Tryd.prog 10 = some false := by kernel_rfl
@[go_sem] theorem elT_10 : elT Tryd.prog 10 = none := by kernel_rfl
@[go_sem] theorem hasT_11 : hasT Tryd.prog 11 = true := by kernel_rfl
@[go_sem] theorem conc_11 : Tryd.prog.concrete 11 = true := by kernel_rfl
@[go_sem] theorem isStr_11 : isStr Tryd.prog 11 = true := by kernel_rfl
@[go_sem] theorem isBoolT_11 : isBoolT Tryd.prog 11 = false := by kernel_rfl
@[go_sem] theorem ikT_11 : ikT Tryd.prog 11 = none := by kernel_rfl
@[go_sem] theorem isA_11 : isA Tryd.prog 11 = some false := by kernel_rfl
@[go_sem] theorem elT_11 : elT Tryd.prog 11 = none := by kernel_rfl
@[go_sem] theorem hasT_12 : hasT Tryd.prog 12 = true := by kernel_rfl
@[go_sem] theorem conc_12 : Tryd.prog.concrete 12 = true := by kernel_rfl
@[go_sem] theorem isStr_12 : isStr Tryd.prog 12 = false := by kernel_rfl
@[go_sem] theorem isBoolT_12 : isBoolT Tryd.prog 12 = false := by kernel_rfl
@[go_sem] theorem ikT_12 : ikT Tryd.prog 12 = some .u64 := by kernel_rfl
@[go_sem] theorem isA_12 : isA Tryd.prog 12 = some false := by kernel_rfl
@[go_sem] theorem elT_12 : elT Tryd.prog 12 = none := by kernel_rfl
@[go_sem] theorem hasT_13 : hasT Tryd.prog 13 = true := by kernel_rfl
@[go_sem] theorem conc_13 : Tryd.prog.concrete 13 = true := by kernel_rfl
@[go_sem] theorem isStr_13 : isStr Tryd.prog 13 = false := by kernel_rfl
@[go_sem] theorem isBoolT_13 : isBoolT Tryd.prog 13 = false := by kernel_rfl
@[go_sem] theorem ikT_13 : ikT Tryd.prog 13 = none := by kernel_rfl
@[go_sem] theorem isA_13 : isA Tryd.prog 13 = some true := by kernel_rfl
@[go_sem] theorem elT_13 : elT Tryd.prog 13 = none := by kernel_rfl
@[go_sem] theorem hasT_14 : hasT Tryd.prog 14 = true := by kernel_rfl
@[go_sem] theorem conc_14 : Tryd.prog.concrete 14 = true := by kernel_rfl
@[go_sem] theorem isStr_14 : isStr Tryd.prog 14 = false := by kernel_rfl
@[go_sem] theorem isBoolT_14 : isBoolT Tryd.prog 14 = false := by kernel_rfl
@[go_sem] theorem ikT_14 : ikT Tryd.prog 14 = none := by kernel_rfl
@[go_sem] theorem isA_14 : isA Tryd.prog 14 = some true := by kernel_rfl
@[go_sem] theorem elT_14 : elT Tryd.prog 14 = none := by kernel_rfl
@[go_sem] theorem hasT_15 : hasT Tryd.prog 15 = true := by kernel_rfl
@[go_sem] theorem conc_15 : Tryd.prog.concrete 15 = true := by kernel_rfl
@[go_sem] theorem isStr_15 : isStr Tryd.prog 15 = false := by kernel_rfl
@[go_sem] theorem isBoolT_15 : isBoolT Tryd.prog 15 = false := by kernel_rfl
@[go_sem] theorem ikT_15 : ikT Tryd.prog 15 = none := by kernel_rfl
@[go_sem] theorem isA_15 : isA Tryd.prog 15 = some false := by kernel_rfl
@[go_sem] theorem elT_15 : elT Tryd.prog 15 = none := by kernel_rfl
@[go_sem] theorem hasT_16 : hasT Tryd.prog 16 = true := by kernel_rfl
@[go_sem] theorem conc_16 : Tryd.prog.concrete 16 = true := by kernel_rfl
@[go_sem] theorem isStr_16 : isStr Tryd.prog 16 = false := by kernel_rfl
@[go_sem] theorem isBoolT_16 : isBoolT Tryd.prog 16 = false := by kernel_rfl
@[go_sem] theorem ikT_16 : ikT Tryd.prog 16 = none := by kernel_rfl
@[go_sem] theorem isA_16 : isA Tryd.prog 16 = some false := by kernel_rfl
@[go_sem] theorem elT_16 : elT Tryd.prog 16 = none := by kernel_rfl
@[go_sem] theorem hasT_17 : hasT Tryd.prog 17 = true := by kernel_rfl
@[go_sem] theorem conc_17 : Tryd.prog.concrete 17 = true := by kernel_rfl
@[go_sem] theorem isStr_17 : isStr Tryd.prog 17 = false := by kernel_rfl
@[go_sem] theorem isBoolT_17 : isBoolT Tryd.prog 17 = false := by kernel_rfl
@[go_sem] theorem ikT_17 : ikT Tryd.prog 17 = none := by kernel_rfl
@[go_sem] theorem isA_17 : isA Tryd.prog 17 = some false := by kernel_rfl
@[go_sem] theorem elT_17 : elT Tryd.prog 17 = none := by kernel_rfl
@[go_sem] theorem hasT_18 : hasT Tryd.prog 18 = true := by kernel_rfl
@[go_sem] theorem conc_18 : Tryd.prog.concrete 18 = true := by kernel_rfl
@[go_sem] theorem isStr_18 : isStr Tryd.prog 18 = false := by kernel_rfl
@[go_sem] theorem isBoolT_18 : isBoolT Tryd.prog 18 = false := by kernel_rfl
@[go_sem] theorem ikT_18 : ikT Tryd.prog 18 = none := by kernel_rfl
@[go_sem] theorem isA_18 : isA Tryd.prog 18 = some true := by kernel_rfl
@[go_sem] theorem elT_18 : elT Tryd.prog 18 = none := by kernel_rfl
@[go_sem] theorem hasT_19 : hasT Tryd.prog 19 = true := by kernel_rfl
@[go_sem] theorem conc_19 : Tryd.prog.concrete 19 = true := by kernel_rfl
@[go_sem] theorem isStr_19 : isStr Tryd.prog 19 = false := by kernel_rfl
@[go_sem] theorem isBoolT_19 : isBoolT Tryd.prog 19 = false := by kernel_rfl
@[go_sem] theorem ikT_19 : ikT Tryd.prog 19 = none := by kernel_rfl
@[go_sem] theorem isA_19 : isA Tryd.prog 19 = some true := by kernel_rfl
@[go_sem] theorem elT_19 : elT Tryd.prog 19 = none := by kernel_rfl
@[go_sem] theorem isA_20 : isA Tryd.prog 20 = some false := by kernel_rfl
@[go_sem] theorem szT_20 : szT Tryd.prog 20 = some 1 := by kernel_rfl
@[go_sem] theorem hasT_21 : hasT Tryd.prog 21 = true := by kernel_rfl
@[go_sem] theorem conc_21 : Tryd.prog.concrete 21 = true := by kernel_rfl
@[go_sem] theorem isStr_21 : isStr Tryd.prog 21 = false := by kernel_rfl
@[go_sem] theorem isBoolT_21 : isBoolT Tryd.prog 21 = false := by kernel_rfl
@[go_sem] theorem ikT_21 : ikT Tryd.prog 21 = some .i32 := by kernel_rfl
@[go_sem] theorem isA_21 : isA Tryd.prog 21 = some false := by kernel_rfl
@[go_sem] theorem elT_21 : elT Tryd.prog 21 = none := by kernel_rfl
@[go_sem] theorem isA_22 : isA Tryd.prog 22 = some false := by kernel_rfl
@[go_sem] theorem szT_22 : szT Tryd.prog 22 = some 1 := by kernel_rfl
@[go_sem] theorem hasT_23 : hasT Tryd.prog 23 = true := by kernel_rfl
@[go_sem] theorem conc_23 : Tryd.prog.concrete 23 = true := by kernel_rfl
@[go_sem] theorem isStr_23 : isStr Tryd.prog 23 = false := by kernel_rfl
@[go_sem] theorem isBoolT_23 : isBoolT Tryd.prog 23 = false := by kernel_rfl
@[go_sem] theorem ikT_23 : ikT Tryd.prog 23 = some .i64 := by kernel_rfl
@[go_sem] theorem isA_23 : isA Tryd.prog 23 = some false := by kernel_rfl
@[go_sem] theorem elT_23 : elT Tryd.prog 23 = none := by kernel_rfl
@[go_sem] theorem isA_25 : isA Tryd.prog 25 = some false := by kernel_rfl
@[go_sem] theorem szT_25 : szT Tryd.prog 25 = some 1 := by kernel_rfl
@[go_sem] theorem isA_26 : isA Tryd.prog 26 = some false := by kernel_rfl
@[go_sem] theorem szT_26 : szT Tryd.prog 26 = some 1 := by kernel_rfl
@[go_sem] theorem isA_27 : isA Tryd.prog 27 = some false := by kernel_rfl
@[go_sem] theorem szT_27 : szT Tryd.prog 27 = some 1 := by kernel_rfl
@[go_sem] theorem hasT_28 : hasT Tryd.prog 28 = true := by kernel_rfl
@[go_sem] theorem conc_28 : Tryd.prog.concrete 28 = true := by kernel_rfl
@[go_sem] theorem isStr_28 : isStr Tryd.prog 28 = false := by kernel_rfl
@[go_sem] theorem isBoolT_28 : isBoolT Tryd.prog 28 = false := by kernel_rfl
@[go_sem] theorem ikT_28 : ikT Tryd.prog 28 = none := by kernel_rfl
@[go_sem] theorem isA_28 : isA Tryd.prog 28 = some false := by kernel_rfl
@[go_sem] theorem elT_28 : elT Tryd.prog 28 = some 9 := by kernel_rfl
@[go_sem] theorem isA_30 : isA Tryd.prog 30 = some false := by kernel_rfl
@[go_sem] theorem szT_30 : szT Tryd.prog 30 = some 1 := by kernel_rfl
@[go_sem] theorem isA_31 : isA Tryd.prog 31 = some false := by kernel_rfl
@[go_sem] theorem szT_31 : szT Tryd.prog 31 = some 1 := by kernel_rfl
@[go_sem] theorem hasT_32 : hasT Tryd.prog 32 = true := by kernel_rfl
@[go_sem] theorem conc_32 : Tryd.prog.concrete 32 = true := by kernel_rfl
@[go_sem] theorem isStr_32 : isStr Tryd.prog 32 = false := by kernel_rfl
@[go_sem] theorem isBoolT_32 : isBoolT Tryd.prog 32 = false := by kernel_rfl
@[go_sem] theorem ikT_32 : ikT Tryd.prog 32 = none := by kernel_rfl
@[go_sem] theorem isA_32 : isA Tryd.prog 32 = some false := by kernel_rfl
@[go_sem] theorem elT_32 : elT Tryd.prog 32 = some 39 := by kernel_rfl
@[go_sem] theorem hasT_33 : hasT Tryd.prog 33 = true := by kernel_rfl
@[go_sem] theorem conc_33 : Tryd.prog.concrete 33 = true := by kernel_rfl
@[go_sem] theorem isStr_33 : isStr Tryd.prog 33 = false := by kernel_rfl
@[go_sem] theorem isBoolT_33 : isBoolT Tryd.prog 33 = false := by kernel_rfl
@[go_sem] theorem ikT_33 : ikT Tryd.prog 33 = none := by kernel_rfl
@[go_sem] theorem isA_33 : isA Tryd.prog 33 = some true := by kernel_rfl
@[go_sem] theorem elT_33 : elT Tryd.prog 33 = none := by kernel_rfl
@[go_sem] theorem hasT_34 : hasT Tryd.prog 34 = true := by kernel_rfl
@[go_sem] theorem conc_34 : Tryd.prog.concrete 34 = true := by kernel_rfl
@[go_sem] theorem isStr_34 : isStr Tryd.prog 34 = false := by kernel_rfl
@[go_sem] theorem isBoolT_34 : isBoolT Tryd.prog 34 = false := by kernel_rfl
@[go_sem] theorem ikT_34 : ikT Tryd.prog 34 = none := by kernel_rfl
@[go_sem] theorem isA_34 : isA Tryd.prog 34 = some true := by kernel_rfl
@[go_sem] theorem elT_34 : elT Tryd.prog 34 = none := by kernel_rfl
@[go_sem] theorem isA_36 : isA Tryd.prog 36 = some false := by kernel_rfl
@[go_sem] theorem szT_36 : szT Tryd.prog 36 = some 1 := by kernel_rfl
@[go_sem] theorem isA_37 : isA Tryd.prog 37 = some false := by kernel_rfl
@[go_sem] theorem szT_37 : szT Tryd.prog 37 = some 1 := by kernel_rfl
@[go_sem] theorem hasT_38 : hasT Tryd.prog 38 = true := by kernel_rfl
@[go_sem] theorem conc_38 : Tryd.prog.concrete 38 = true := by kernel_rfl
@[go_sem] theorem isStr_38 : isStr Tryd.prog 38 = false := by kernel_rfl
@[go_sem] theorem isBoolT_38 : isBoolT Tryd.prog 38 = false := by kernel_rfl
@[go_sem] theorem ikT_38 : ikT Tryd.prog 38 = none := by kernel_rfl
@[go_sem] theorem isA_38 : isA Tryd.prog 38 = some true := by kernel_rfl
@[go_sem] theorem elT_38 : elT Tryd.prog 38 = none := by kernel_rfl
@[go_sem] theorem hasT_39 : hasT Tryd.prog 39 = true := by kernel_rfl
@[go_sem] theorem conc_39 : Tryd.prog.concrete 39 = true := by kernel_rfl
@[go_sem] theorem isStr_39 : isStr Tryd.prog 39 = false := by kernel_rfl
@[go_sem] theorem isBoolT_39 : isBoolT Tryd.prog 39 = false := by kernel_rfl
@[go_sem] theorem ikT_39 : ikT Tryd.prog 39 = none := by kernel_rfl
@[go_sem] theorem isA_39 : isA Tryd.prog 39 = some true := by kernel_rfl
@[go_sem] theorem elT_39 : elT Tryd.prog 39 = none := by kernel_rfl
@[go_sem] theorem isA_40 : isA Tryd.prog 40 = some false := by kernel_rfl
@[go_sem] theorem szT_40 : szT Tryd.prog 40 = some 1 := by kernel_rfl
@[go_sem] theorem isA_41 : isA Tryd.prog 41 = some false := by kernel_rfl
@[go_sem] theorem szT_41 : szT Tryd.prog 41 = some 1 := by kernel_rfl
@[go_sem] theorem isA_42 : isA Tryd.prog 42 = some false := by kernel_rfl
@[go_sem] theorem szT_42 : szT Tryd.prog 42 = some 1 := by kernel_rfl
@[go_sem] theorem hasT_43 : hasT Tryd.prog 43 = true := by kernel_rfl
@[go_sem] theorem conc_43 : Tryd.prog.concrete 43 = true := by kernel_rfl
@[go_sem] theorem isStr_43 : isStr Tryd.prog 43 = false := by kernel_rfl
@[go_sem] theorem isBoolT_43 : isBoolT Tryd.prog 43 = false := by kernel_rfl
@[go_sem] theorem ikT_43 : ikT Tryd.prog 43 = none := by kernel_rfl
@[go_sem] theorem isA_43 : isA Tryd.prog 43 = some false := by kernel_rfl
@[go_sem] theorem elT_43 : elT Tryd.prog 43 = some 3 := by kernel_rfl
@[go_sem] theorem isA_44 : isA Tryd.prog 44 = some false := by kernel_rfl
@[go_sem] theorem szT_44 : szT Tryd.prog 44 = some 1 := by kernel_rfl
@[go_sem] theorem hasT_45 : hasT Tryd.prog 45 = true := by kernel_rfl
@[go_sem] theorem conc_45 : Tryd.prog.concrete 45 = true := by kernel_rfl
@[go_sem] theorem isStr_45 : isStr Tryd.prog 45 = false := by kernel_rfl
@[go_sem] theorem isBoolT_45 : isBoolT Tryd.prog 45 = false := by kernel_rfl
@[go_sem] theorem ikT_45 : ikT Tryd.prog 45 = none := by kernel_rfl
@[go_sem] theorem isA_45 : isA Tryd.prog 45 = some false := by kernel_rfl
@[go_sem] theorem elT_45 : elT Tryd.prog 45 = none := by kernel_rfl
@[go_sem] theorem hasT_46 : hasT Tryd.prog 46 = true := by kernel_rfl
@[go_sem] theorem conc_46 : Tryd.prog.concrete 46 = true := by kernel_rfl
@[go_sem] theorem isStr_46 : isStr Tryd.prog 46 = false := by kernel_rfl
@[go_sem] theorem isBoolT_46 : isBoolT Tryd.prog 46 = false := by kernel_rfl
@[go_sem] theorem ikT_46 : ikT Tryd.prog 46 = none := by kernel_rfl
@[go_sem] theorem isA_46 : isA Tryd.prog 46 = some false := by kernel_rfl
@[go_sem] theorem elT_46 : elT Tryd.prog 46 = some 5 := by kernel_rfl
@[go_sem] theorem hasT_47 : hasT Tryd.prog 47 = true := by kernel_rfl
@[go_sem] theorem conc_47 : Tryd.prog.concrete 47 = true := by kernel_rfl
@[go_sem] theorem isStr_47 : isStr Tryd.prog 47 = false := by kernel_rfl
@[go_sem] theorem isBoolT_47 : isBoolT Tryd.prog 47 = false := by kernel_rfl
@[go_sem] theorem ikT_47 : ikT Tryd.prog 47 = none := by kernel_rfl
@[go_sem] theorem isA_47 : isA Tryd.prog 47 = some true := by kernel_rfl
@[go_sem] theorem elT_47 : elT Tryd.prog 47 = none := by kernel_rfl
@[go_sem] theorem hasT_48 : hasT Tryd.prog 48 = true := by kernel_rfl
@[go_sem] theorem conc_48 : Tryd.prog.concrete 48 = true := by kernel_rfl
@[go_sem] theorem isStr_48 : isStr Tryd.prog 48 = false := by kernel_rfl
@[go_sem] theorem isBoolT_48 : isBoolT Tryd.prog 48 = false := by kernel_rfl
@[go_sem] theorem ikT_48 : ikT Tryd.prog 48 = none := by kernel_rfl
@[go_sem] theorem isA_48 : isA Tryd.prog 48 = some true := by kernel_rfl
@[go_sem] theorem elT_48 : elT Tryd.prog 48 = none := by kernel_rfl
@[go_sem] theorem isA_49 : isA Tryd.prog 49 = some false := by kernel_rfl
@[go_sem] theorem szT_49 : szT Tryd.prog 49 = some 1 := by kernel_rfl
@[go_sem] theorem isA_50 : isA Tryd.prog 50 = some false := by kernel_rfl
@[go_sem] theorem szT_50 : szT Tryd.prog 50 = some 1 := by kernel_rfl
@[go_sem] theorem isA_51 : isA Tryd.prog 51 = some false := by kernel_rfl
@[go_sem] theorem szT_51 : szT Tryd.prog 51 = some 1 := by kernel_rfl
@[go_sem] theorem isA_52 : isA Tryd.prog 52 = some false := by kernel_rfl
@[go_sem] theorem szT_52 : szT Tryd.prog 52 = some 1 := by kernel_rfl
@[go_sem] theorem isA_53 : isA Tryd.prog 53 = some false := by kernel_rfl
@[go_sem] theorem szT_53 : szT Tryd.prog 53 = some 1 := by kernel_rfl
@[go_sem] theorem isA_54 : isA Tryd.prog 54 = some false := by kernel_rfl
@[go_sem] theorem szT_54 : szT Tryd.prog 54 = some 1 := by kernel_rfl
@[go_sem] theorem isA_55 : isA Tryd.prog 55 = some false := by kernel_rfl
@[go_sem] theorem szT_55 : szT Tryd.prog 55 = some 1 := by kernel_rfl
@[go_sem] theorem isA_56 : isA Tryd.prog 56 = some false := by kernel_rfl
@[go_sem] theorem szT_56 : szT Tryd.prog 56 = some 1 := by kernel_rfl
@[go_sem] theorem isA_58 : isA Tryd.prog 58 = some false := by kernel_rfl
@[go_sem] theorem szT_58 : szT Tryd.prog 58 = some 1 := by kernel_rfl
@[go_sem] theorem isA_60 : isA Tryd.prog 60 = some false := by kernel_rfl
@[go_sem] theorem szT_60 : szT Tryd.prog 60 = some 1 := by kernel_rfl
@[go_sem] theorem isA_61 : isA Tryd.prog 61 = some false := by kernel_rfl
@[go_sem] theorem szT_61 : szT Tryd.prog 61 = some 1 := by kernel_rfl
@[go_sem] theorem isA_63 : isA Tryd.prog 63 = some false := by kernel_rfl
@[go_sem] theorem szT_63 : szT Tryd.prog 63 = some 1 := by kernel_rfl
@[go_sem] theorem hasT_64 : hasT Tryd.prog 64 = true := by kernel_rfl
@[go_sem] theorem conc_64 : Tryd.prog.concrete 64 = true := by kernel_rfl
@[go_sem] theorem isStr_64 : isStr Tryd.prog 64 = false := by kernel_rfl
@[go_sem] theorem isBoolT_64 : isBoolT Tryd.prog 64 = false := by kernel_rfl
@[go_sem] theorem ikT_64 : ikT Tryd.prog 64 = none := by kernel_rfl
@[go_sem] theorem isA_64 : isA Tryd.prog 64 = some false := by kernel_rfl
@[go_sem] theorem elT_64 : elT Tryd.prog 64 = none := by kernel_rfl
@[go_sem] theorem isA_65 : isA Tryd.prog 65 = some false := by kernel_rfl
@[go_sem] theorem szT_65 : szT Tryd.prog 65 = some 1 := by kernel_rfl
@[go_sem] theorem isA_66 : isA Tryd.prog 66 = some false := by kernel_rfl
@[go_sem] theorem szT_66 : szT Tryd.prog 66 = some 1 := by kernel_rfl
@[go_sem] theorem hasT_67 : hasT Tryd.prog 67 = true := by kernel_rfl
@[go_sem] theorem conc_67 : Tryd.prog.concrete 67 = true := by kernel_rfl
@[go_sem] theorem isStr_67 : isStr Tryd.prog 67 = false := by kernel_rfl
@[go_sem] theorem isBoolT_67 : isBoolT Tryd.prog 67 = false := by kernel_rfl
@[go_sem] theorem ikT_67 : ikT Tryd.prog 67 = none := by kernel_rfl
@[go_sem] theorem isA_67 : isA Tryd.prog 67 = some true := by kernel_rfl
@[go_sem] theorem elT_67 : elT Tryd.prog 67 = none := by kernel_rfl
@[go_sem] theorem hasT_68 : hasT Tryd.prog 68 = true := by kernel_rfl
@[go_sem] theorem conc_68 : Tryd.prog.concrete 68 = true := by kernel_rfl
@[go_sem] theorem isStr_68 : isStr Tryd.prog 68 = false := by kernel_rfl
@[go_sem] theorem isBoolT_68 : isBoolT Tryd.prog 68 = false := by kernel_rfl
@[go_sem] theorem ikT_68 : ikT Tryd.prog 68 = none := by kernel_rfl
@[go_sem] theorem isA_68 : isA Tryd.prog 68 = some true := by kernel_rfl
@[go_sem] theorem elT_68 : elT Tryd.prog 68 = none := by kernel_rfl
@[go_sem] theorem isA_70 : isA Tryd.prog 70 = some false := by kernel_rfl
@[go_sem] theorem szT_70 : szT Tryd.prog 70 = some 1 := by kernel_rfl
@[go_sem] theorem isA_71 : isA Tryd.prog 71 = some false := by kernel_rfl
@[go_sem] theorem szT_71 : szT Tryd.prog 71 = some 1 := by kernel_rfl
@[go_sem] theorem hasT_72 : hasT Tryd.prog 72 = true := by kernel_rfl
@[go_sem] theorem conc_72 : Tryd.prog.concrete 72 = true := by kernel_rfl
@[go_sem] theorem isStr_72 : isStr Tryd.prog 72 = false := by kernel_rfl
@[go_sem] theorem isBoolT_72 : isBoolT Tryd.prog 72 = false := by kernel_rfl
@[go_sem] theorem ikT_72 : ikT Tryd.prog 72 = none := by kernel_rfl
@[go_sem] theorem isA_72 : isA Tryd.prog 72 = some false := by kernel_rfl
@[go_sem] theorem elT_72 : elT Tryd.prog 72 = none := by kernel_rfl
@[go_sem] theorem hasT_73 : hasT Tryd.prog 73 = true := by kernel_rfl
@[go_sem] theorem conc_73 : Tryd.prog.concrete 73 = true := by kernel_rfl
@[go_sem] theorem isStr_73 : isStr Tryd.prog 73 = false := by kernel_rfl
@[go_sem] theorem isBoolT_73 : isBoolT Tryd.prog 73 = false := by kernel_rfl
@[go_sem] theorem ikT_73 : ikT Tryd.prog 73 = none := by kernel_rfl
@[go_sem] theorem isA_73 : isA Tryd.prog 73 = some false := by kernel_rfl
@[go_sem] theorem elT_73 : elT Tryd.prog 73 = none := by kernel_rfl
@[go_sem] theorem isA_74 : isA Tryd.prog 74 = some false := by kernel_rfl
@[go_sem] theorem szT_74 : szT Tryd.prog 74 = some 1 := by kernel_rfl
@[go_sem] theorem isA_75 : isA Tryd.prog 75 = some false := by kernel_rfl
@[go_sem] theorem szT_75 : szT Tryd.prog 75 = some 1 := by kernel_rfl
@[go_sem] theorem isA_76 : isA Tryd.prog 76 = some false := by kernel_rfl
@[go_sem] theorem szT_76 : szT Tryd.prog 76 = some 1 := by kernel_rfl
@[go_sem] theorem isA_78 : isA Tryd.prog 78 = some false := by kernel_rfl
@[go_sem] theorem szT_78 : szT Tryd.prog 78 = some 1 := by kernel_rfl
@[go_sem] theorem isA_80 : isA Tryd.prog 80 = some false := by kernel_rfl
@[go_sem] theorem szT_80 : szT Tryd.prog 80 = some 1 := by kernel_rfl
@[go_sem] theorem isA_81 : isA Tryd.prog 81 = some false := by kernel_rfl
@[go_sem] theorem szT_81 : szT Tryd.prog 81 = some 1 := by kernel_rfl
@[go_sem] theorem isA_82 : isA Tryd.prog 82 = some false := by kernel_rfl
@[go_sem] theorem szT_82 : szT Tryd.prog 82 = some 1 := by kernel_rfl
@[go_sem] theorem isA_83 : isA Tryd.prog 83 = some false := by kernel_rfl
@[go_sem] theorem szT_83 : szT Tryd.prog 83 = some 1 := by kernel_rfl
@[go_sem] theorem hasT_84 : hasT Tryd.prog 84 = true := by kernel_rfl
@[go_sem] theorem conc_84 : Tryd.prog.concrete 84 = true := by kernel_rfl
@[go_sem] theorem isStr_84 : isStr Tryd.prog 84 = false := by kernel_rfl
@[go_sem] theorem isBoolT_84 : isBoolT Tryd.prog 84 = false := by kernel_rfl
@[go_sem] theorem ikT_84 : ikT Tryd.prog 84 = some .u64 := by kernel_rfl
@[go_sem] theorem isA_84 : isA Tryd.prog 84 = some false := by kernel_rfl
@[go_sem] theorem elT_84 : elT Tryd.prog 84 = none := by kernel_rfl
@[go_sem] theorem isA_85 : isA Tryd.prog 85 = some false := by kernel_rfl
@[go_sem] theorem szT_85 : szT Tryd.prog 85 = some 1 := by kernel_rfl
@[go_sem] theorem isA_86 : isA Tryd.prog 86 = some false := by kernel_rfl
@[go_sem] theorem szT_86 : szT Tryd.prog 86 = some 1 := by kernel_rfl
@[go_sem] theorem hasT_87 : hasT Tryd.prog 87 = true := by kernel_rfl
@[go_sem] theorem conc_87 : Tryd.prog.concrete 87 = true := by kernel_rfl
@[go_sem] theorem isStr_87 : isStr Tryd.prog 87 = false := by kernel_rfl
@[go_sem] theorem isBoolT_87 : isBoolT Tryd.prog 87 = false := by kernel_rfl
@[go_sem] theorem ikT_87 : ikT Tryd.prog 87 = none := by kernel_rfl
@[go_sem] theorem isA_87 : isA Tryd.prog 87 = some true := by kernel_rfl
@[go_sem] theorem elT_87 : elT Tryd.prog 87 = none := by kernel_rfl
@[go_sem] theorem hasT_88 : hasT Tryd.prog 88 = true := by kernel_rfl
@[go_sem] theorem conc_88 : Tryd.prog.concrete 88 = true := by kernel_rfl
@[go_sem] theorem isStr_88 : isStr Tryd.prog 88 = false := by kernel_rfl
@[go_sem] theorem isBoolT_88 : isBoolT Tryd.prog 88 = false := by kernel_rfl
@[go_sem] theorem ikT_88 : ikT Tryd.prog 88 = none := by kernel_rfl
@[go_sem] theorem isA_88 : isA Tryd.prog 88 = some true := by kernel_rfl
@[go_sem] theorem elT_88 : elT Tryd.prog 88 = none := by kernel_rfl
@[go_sem] theorem hasT_89 : hasT Tryd.prog 89 = true := by kernel_rfl
@[go_sem] theorem conc_89 : Tryd.prog.concrete 89 = true := by kernel_rfl
@[go_sem] theorem isStr_89 : isStr Tryd.prog 89 = false := by kernel_rfl
@[go_sem] theorem isBoolT_89 : isBoolT Tryd.prog 89 = false := by kernel_rfl
@[go_sem] theorem ikT_89 : ikT Tryd.prog 89 = none := by kernel_rfl
@[go_sem] theorem isA_89 : isA Tryd.prog 89 = some true := by kernel_rfl
@[go_sem] theorem elT_89 : elT Tryd.prog 89 = none := by kernel_rfl
@[go_sem] theorem hasT_90 : hasT Tryd.prog 90 = true := by kernel_rfl
@[go_sem] theorem conc_90 : Tryd.prog.concrete 90 = true := by kernel_rfl
@[go_sem] theorem isStr_90 : isStr Tryd.prog 90 = false := by kernel_rfl
@[go_sem] theorem isBoolT_90 : isBoolT Tryd.prog 90 = false := by kernel_rfl
@[go_sem] theorem ikT_90 : ikT Tryd.prog 90 = none := by kernel_rfl
@[go_sem] theorem isA_90 : isA Tryd.prog 90 = some true := by kernel_rfl
@[go_sem] theorem elT_90 : elT Tryd.prog 90 = none := by kernel_rfl
@[go_sem] theorem hasT_91 : hasT Tryd.prog 91 = true := by kernel_rfl
@[go_sem] theorem conc_91 : Tryd.prog.concrete 91 = true := by kernel_rfl
@[go_sem] theorem isStr_91 : isStr Tryd.prog 91 = false := by kernel_rfl
@[go_sem] theorem isBoolT_91 : isBoolT Tryd.prog 91 = false := by kernel_rfl
@[go_sem] theorem ikT_91 : ikT Tryd.prog 91 = some .u32 := by kernel_rfl
@[go_sem] theorem isA_91 : isA Tryd.prog 91 = some false := by kernel_rfl
@[go_sem] theorem elT_91 : elT Tryd.prog 91 = none := by kernel_rfl
@[go_sem] theorem isA_93 : isA Tryd.prog 93 = some false := by kernel_rfl
@[go_sem] theorem szT_93 : szT Tryd.prog 93 = some 1 := by kernel_rfl
@[go_sem] theorem isA_94 : isA Tryd.prog 94 = some false := by kernel_rfl
@[go_sem] theorem szT_94 : szT Tryd.prog 94 = some 1 := by kernel_rfl
@[go_sem] theorem hasT_95 : hasT Tryd.prog 95 = true := by kernel_rfl
@[go_sem] theorem conc_95 : Tryd.prog.concrete 95 = true := by kernel_rfl
@[go_sem] theorem isStr_95 : isStr Tryd.prog 95 = false := by kernel_rfl
@[go_sem] theorem isBoolT_95 : isBoolT Tryd.prog 95 = false := by kernel_rfl
@[go_sem] theorem ikT_95 : ikT Tryd.prog 95 = none := by kernel_rfl
@[go_sem] theorem isA_95 : isA Tryd.prog 95 = some true := by kernel_rfl
@[go_sem] theorem elT_95 : elT Tryd.prog 95 = none := by kernel_rfl
@[go_sem] theorem hasT_96 : hasT Tryd.prog 96 = true := by kernel_rfl
@[go_sem] theorem conc_96 : Tryd.prog.concrete 96 = true := by kernel_rfl
@[go_sem] theorem isStr_96 : isStr Tryd.prog 96 = false := by kernel_rfl
@[go_sem] theorem isBoolT_96 : isBoolT Tryd.prog 96 = false := by kernel_rfl
@[go_sem] theorem ikT_96 : ikT Tryd.prog 96 = none := by kernel_rfl
@[go_sem] theorem isA_96 : isA Tryd.prog 96 = some true := by kernel_rfl
@[go_sem] theorem elT_96 : elT Tryd.prog 96 = none := by kernel_rfl
@[go_sem] theorem hasT_97 : hasT Tryd.prog 97 = true := by kernel_rfl
@[go_sem] theorem conc_97 : Tryd.prog.concrete 97 = true := by kernel_rfl
@[go_sem] theorem isStr_97 : isStr Tryd.prog 97 = false := by kernel_rfl
@[go_sem] theorem isBoolT_97 : isBoolT Tryd.prog 97 = false := by kernel_rfl
@[go_sem] theorem ikT_97 : ikT Tryd.prog 97 = none := by kernel_rfl
@[go_sem] theorem isA_97 : isA Tryd.prog 97 = some true := by kernel_rfl
@[go_sem] theorem elT_97 : elT Tryd.prog 97 = none := by kernel_rfl
@[go_sem] theorem hasT_98 : hasT Tryd.prog 98 = true := by kernel_rfl
@[go_sem] theorem conc_98 : Tryd.prog.concrete 98 = true := by kernel_rfl
@[go_sem] theorem isStr_98 : isStr Tryd.prog 98 = false := by kernel_rfl
@[go_sem] theorem isBoolT_98 : isBoolT Tryd.prog 98 = false := by kernel_rfl
@[go_sem] theorem ikT_98 : ikT Tryd.prog 98 = none := by kernel_rfl
@[go_sem] theorem isA_98 : isA Tryd.prog 98 = some true := by kernel_rfl
@[go_sem] theorem elT_98 : elT Tryd.prog 98 = none := by kernel_rfl
@[go_sem] theorem hasT_99 : hasT Tryd.prog 99 = true := by kernel_rfl
@[go_sem] theorem conc_99 : Tryd.prog.concrete 99 = true := by kernel_rfl
@[go_sem] theorem isStr_99 : isStr Tryd.prog 99 = false := by kernel_rfl
@[go_sem] theorem isBoolT_99 : isBoolT Tryd.prog 99 = false := by kernel_rfl
@[go_sem] theorem ikT_99 : ikT Tryd.prog 99 = none := by kernel_rfl
@[go_sem] theorem isA_99 : isA Tryd.prog 99 = some true := by kernel_rfl
@[go_sem] theorem elT_99 : elT Tryd.prog 99 = none := by kernel_rfl
@[go_sem] theorem isA_100 : isA Tryd.prog 100 = some false := by kernel_rfl
@[go_sem] theorem szT_100 : szT Tryd.prog 100 = some 1 := by kernel_rfl
@[go_sem] theorem hasT_101 : hasT Tryd.prog 101 = true := by kernel_rfl
@[go_sem] theorem conc_101 : Tryd.prog.concrete 101 = true := by kernel_rfl
@[go_sem] theorem isStr_101 : isStr Tryd.prog 101 = false := by kernel_rfl
@[go_sem] theorem isBoolT_101 : isBoolT Tryd.prog 101 = false := by kernel_rfl
@[go_sem] theorem ikT_101 : ikT Tryd.prog 101 = some .u8 := by kernel_rfl
@[go_sem] theorem isA_101 : isA Tryd.prog 101 = some false := by kernel_rfl
@[go_sem] theorem elT_101 : elT Tryd.prog 101 = none := by kernel_rfl
@[go_sem] theorem hasT_102 : hasT Tryd.prog 102 = true := by kernel_rfl
@[go_sem] theorem conc_102 : Tryd.prog.concrete 102 = true := by kernel_rfl
@[go_sem] theorem isStr_102 : isStr Tryd.prog 102 = false := by kernel_rfl
@[go_sem] theorem isBoolT_102 : isBoolT Tryd.prog 102 = false := by kernel_rfl
@[go_sem] theorem ikT_102 : ikT Tryd.prog 102 = some .u8 := by kernel_rfl
@[go_sem] theorem isA_102 : isA Tryd.prog 102 = some false := by kernel_rfl
@[go_sem] theorem elT_102 : elT Tryd.prog 102 = none := by kernel_rfl
@[go_sem] theorem isA_103 : isA Tryd.prog 103 = some false := by kernel_rfl
@[go_sem] theorem szT_103 : szT Tryd.prog 103 = some 1 := by kernel_rfl
@[go_sem] theorem hasT_104 : hasT Tryd.prog 104 = true := by kernel_rfl
@[go_sem] theorem conc_104 : Tryd.prog.concrete 104 = true := by kernel_rfl
@[go_sem] theorem isStr_104 : isStr Tryd.prog 104 = false := by kernel_rfl
@[go_sem] theorem isBoolT_104 : isBoolT Tryd.prog 104 = false := by kernel_rfl
@[go_sem] theorem ikT_104 : ikT Tryd.prog 104 = some .i32 := by kernel_rfl
@[go_sem] theorem isA_104 : isA Tryd.prog 104 = some false := by kernel_rfl
@[go_sem] theorem elT_104 : elT Tryd.prog 104 = none := by kernel_rfl
@[go_sem] theorem hasT_105 : hasT Tryd.prog 105 = true := by kernel_rfl
@[go_sem] theorem conc_105 : Tryd.prog.concrete 105 = true := by kernel_rfl
@[go_sem] theorem isStr_105 : isStr Tryd.prog 105 = false := by kernel_rfl
@[go_sem] theorem isBoolT_105 : isBoolT Tryd.prog 105 = false := by kernel_rfl
@[go_sem] theorem ikT_105 : ikT Tryd.prog 105 = some .i32 := by kernel_rfl
@[go_sem] theorem isA_105 : isA Tryd.prog 105 = some false := by kernel_rfl
@[go_sem] theorem elT_105 : elT Tryd.prog 105 = none := by kernel_rfl
@[go_sem] theorem hasT_106 : hasT Tryd.prog 106 = true := by kernel_rfl
@[go_sem] theorem conc_106 : Tryd.prog.concrete 106 = true := by kernel_rfl
@[go_sem] theorem isStr_106 : isStr Tryd.prog 106 = false := by kernel_rfl
@[go_sem] theorem isBoolT_106 : isBoolT Tryd.prog 106 = false := by kernel_rfl
@[go_sem] theorem ikT_106 : ikT Tryd.prog 106 = none := by kernel_rfl
@[go_sem] theorem isA_106 : isA Tryd.prog 106 = some true := by kernel_rfl
@[go_sem] theorem elT_106 : elT Tryd.prog 106 = none := by kernel_rfl
@[go_sem] theorem hasT_107 : hasT Tryd.prog 107 = true := by kernel_rfl
@[go_sem] theorem conc_107 : Tryd.prog.concrete 107 = true := by kernel_rfl
@[go_sem] theorem isStr_107 : isStr Tryd.prog 107 = false := by kernel_rfl
@[go_sem] theorem isBoolT_107 : isBoolT Tryd.prog 107 = false := by kernel_rfl
@[go_sem] theorem ikT_107 : ikT Tryd.prog 107 = none := by kernel_rfl
@[go_sem] theorem isA_107 : isA Tryd.prog 107 = some true := by kernel_rfl
@[go_sem] theorem elT_107 : elT Tryd.prog 107 = none := by kernel_rfl
@[go_sem] theorem szT_2 : szT Tryd.prog 2 = some 1 := by kernel_rfl
@[go_sem] theorem szT_3 : szT Tryd.prog 3 = some 1 := by kernel_rfl
@[go_sem] theorem szT_4 : szT Tryd.prog 4 = some 1 := by kernel_rfl
@[go_sem] theorem szT_5 : szT Tryd.prog 5 = some 1 := by kernel_rfl
@[go_sem] theorem szT_6 : szT Tryd.prog 6 = some 1 := by kernel_rfl
@[go_sem] theorem szT_7 : szT Tryd.prog 7 = some 4 := by kernel_rfl
@[go_sem] theorem arrE_7 : arrE Tryd.prog 7 = none := by kernel_rfl
@[go_sem] theorem isStruct_7 : isStruct Tryd.prog 7 = true := by kernel_rfl
@[go_sem] theorem fldI_7_0 : fldI Tryd.prog 7 0 = some (0, 2) := by kernel_rfl
@[go_sem] theorem fldI_7_1 : fldI Tryd.prog 7 1 = some (1, 3) := by kernel_rfl
@[go_sem] theorem fldI_7_2 : fldI Tryd.prog 7 2 = some (2, 4) := by kernel_rfl
@[go_sem] theorem fldI_7_3 : fldI Tryd.prog 7 3 = some (3, 6) := by kernel_rfl
@[go_sem] theorem szT_8 : szT Tryd.prog 8 = some 4 := by kernel_rfl
@[go_sem] theorem arrE_8 : arrE Tryd.prog 8 = none := by kernel_rfl
@[go_sem] theorem isStruct_8 : isStruct Tryd.prog 8 = true := by kernel_rfl
@[go_sem] theorem fldI_8_0 : fldI Tryd.prog 8 0 = some (0, 2) := by kernel_rfl
@[go_sem] theorem fldI_8_1 : fldI Tryd.prog 8 1 = some (1, 3) := by kernel_rfl
@[go_sem] theorem fldI_8_2 : fldI Tryd.prog 8 2 = some (2, 4) := by kernel_rfl
@[go_sem] theorem fldI_8_3 : fldI Tryd.prog 8 3 = some (3, 6) := by kernel_rfl
@[go_sem] theorem szT_9 : szT Tryd.prog 9 = some 1 := by kernel_rfl
@[go_sem] theorem szT_10 : szT Tryd.prog 10 = some 1 := by kernel_rfl
@[go_sem] theorem szT_11 : szT Tryd.prog 11 = some 1 := by kernel_rfl
@[go_sem] theorem szT_12 : szT Tryd.prog 12 = some 1 := by kernel_rfl
@[go_sem] theorem szT_13 : szT Tryd.prog 13 = some 2 := by kernel_rfl
@[go_sem] theorem arrE_13 : arrE Tryd.prog 13 = none := by kernel_rfl
@[go_sem] theorem isStruct_13 : isStruct Tryd.prog 13 = true := by kernel_rfl
@[go_sem] theorem fldI_13_0 : fldI Tryd.prog 13 0 = some (0, 9) := by kernel_rfl
@[go_sem] theorem fldI_13_1 : fldI Tryd.prog 13 1 = some (1, 12) := by kernel_rfl
@[go_sem] theorem szT_14 : szT Tryd.prog 14 = some 2 := by kernel_rfl
@[go_sem] theorem arrE_14 : arrE Tryd.prog 14 = none := by kernel_rfl
@[go_sem] theorem isStruct_14 : isStruct Tryd.prog 14 = true := by kernel_rfl
@[go_sem] theorem fldI_14_0 : fldI Tryd.prog 14 0 = some (0, 9) := by kernel_rfl
@[go_sem] theorem fldI_14_1 : fldI Tryd.prog 14 1 = some (1, 12) := by kernel_rfl
@[go_sem] theorem szT_15 : szT Tryd.prog 15 = some 1 := by kernel_rfl
@[go_sem] theorem szT_16 : szT Tryd.prog 16 = some 1 := by kernel_rfl
@[go_sem] theorem szT_17 : szT Tryd.prog 17 = some 1 := by kernel_rfl
@[go_sem] theorem szT_18 : szT Tryd.prog 18 = some 1 := by kernel_rfl
@[go_sem] theorem arrE_18 : arrE Tryd.prog 18 = none := by kernel_rfl
@[go_sem] theorem isStruct_18 : isStruct Tryd.prog 18 = true := by kernel_rfl
@[go_sem] theorem fldI_18_0 : fldI Tryd.prog 18 0 = some (0, 17) := by kernel_rfl
@[go_sem] theorem szT_19 : szT Tryd.prog 19 = some 1 := by kernel_rfl
@[go_sem] theorem arrE_19 : arrE Tryd.prog 19 = none := by kernel_rfl
@[go_sem] theorem isStruct_19 : isStruct Tryd.prog 19 = true := by kernel_rfl
@[go_sem] theorem fldI_19_0 : fldI Tryd.prog 19 0 = some (0, 17) := by kernel_rfl
@[go_sem] theorem szT_21 : szT Tryd.prog 21 = some 1 := by kernel_rfl
@[go_sem] theorem szT_23 : szT Tryd.prog 23 = some 1 := by kernel_rfl
@[go_sem] theorem szT_28 : szT Tryd.prog 28 = some 1 := by kernel_rfl
@[go_sem] theorem szE_28 : szE Tryd.prog 28 = some 1 := by kernel_rfl
@[go_sem] theorem szT_32 : szT Tryd.prog 32 = some 1 := by kernel_rfl
@[go_sem] theorem szE_32 : szE Tryd.prog 32 = some 2 := by kernel_rfl
@[go_sem] theorem szT_33 : szT Tryd.prog 33 = some 3 := by kernel_rfl
@[go_sem] theorem arrE_33 : arrE Tryd.prog 33 = none := by kernel_rfl
@[go_sem] theorem isStruct_33 : isStruct Tryd.prog 33 = true := by kernel_rfl
@[go_sem] theorem fldI_33_0 : fldI Tryd.prog 33 0 = some (0, 9) := by kernel_rfl
@[go_sem] theorem fldI_33_1 : fldI Tryd.prog 33 1 = some (1, 9) := by kernel_rfl
@[go_sem] theorem fldI_33_2 : fldI Tryd.prog 33 2 = some (2, 32) := by kernel_rfl
@[go_sem] theorem szT_34 : szT Tryd.prog 34 = some 3 := by kernel_rfl
@[go_sem] theorem arrE_34 : arrE Tryd.prog 34 = none := by kernel_rfl
@[go_sem] theorem isStruct_34 : isStruct Tryd.prog 34 = true := by kernel_rfl
@[go_sem] theorem fldI_34_0 : fldI Tryd.prog 34 0 = some (0, 9) := by kernel_rfl
@[go_sem] theorem fldI_34_1 : fldI Tryd.prog 34 1 = some (1, 9) := by kernel_rfl
@[go_sem] theorem fldI_34_2 : fldI Tryd.prog 34 2 = some (2, 32) := by kernel_rfl
@[go_sem] theorem szT_38 : szT Tryd.prog 38 = some 2 := by kernel_rfl
@[go_sem] theorem arrE_38 : arrE Tryd.prog 38 = none := by kernel_rfl
@[go_sem] theorem isStruct_38 : isStruct Tryd.prog 38 = true := by kernel_rfl
@[go_sem] theorem fldI_38_0 : fldI Tryd.prog 38 0 = some (0, 9) := by kernel_rfl
@[go_sem] theorem fldI_38_1 : fldI Tryd.prog 38 1 = some (1, 9) := by kernel_rfl
@[go_sem] theorem szT_39 : szT Tryd.prog 39 = some 2 := by kernel_rfl
@[go_sem] theorem arrE_39 : arrE Tryd.prog 39 = none := by kernel_rfl
@[go_sem] theorem isStruct_39 : isStruct Tryd.prog 39 = true := by kernel_rfl
@[go_sem] theorem fldI_39_0 : fldI Tryd.prog 39 0 = some (0, 9) := by kernel_rfl
@[go_sem] theorem fldI_39_1 : fldI Tryd.prog 39 1 = some (1, 9) := by kernel_rfl
@[go_sem] theorem szT_43 : szT Tryd.prog 43 = some 1 := by kernel_rfl
@[go_sem] theorem szE_43 : szE Tryd.prog 43 = some 1 := by kernel_rfl
@[go_sem] theorem szT_45 : szT Tryd.prog 45 = some 1 := by kernel_rfl
@[go_sem] theorem szT_46 : szT Tryd.prog 46 = some 1 := by kernel_rfl
@[go_sem] theorem szE_46 : szE Tryd.prog 46 = some 1 := by kernel_rfl
@[go_sem] theorem szT_47 : szT Tryd.prog 47 = some 2 := by kernel_rfl
@[go_sem] theorem arrE_47 : arrE Tryd.prog 47 = none := by kernel_rfl
@[go_sem] theorem isStruct_47 : isStruct Tryd.prog 47 = true := by kernel_rfl
@[go_sem] theorem fldI_47_0 : fldI Tryd.prog 47 0 = some (0, 45) := by kernel_rfl
@[go_sem] theorem fldI_47_1 : fldI Tryd.prog 47 1 = some (1, 46) := by kernel_rfl
@[go_sem] theorem szT_48 : szT Tryd.prog 48 = some 2 := by kernel_rfl
@[go_sem] theorem arrE_48 : arrE Tryd.prog 48 = none := by kernel_rfl
@[go_sem] theorem isStruct_48 : isStruct Tryd.prog 48 = true := by kernel_rfl
@[go_sem] theorem fldI_48_0 : fldI Tryd.prog 48 0 = some (0, 45) := by kernel_rfl
@[go_sem] theorem fldI_48_1 : fldI Tryd.prog 48 1 = some (1, 46) := by kernel_rfl
@[go_sem] theorem szT_64 : szT Tryd.prog 64 = some 1 := by kernel_rfl
@[go_sem] theorem szT_67 : szT Tryd.prog 67 = some 256 := by kernel_rfl
@[go_sem] theorem arN_67 : arN Tryd.prog 67 = some 256 := by kernel_rfl
@[go_sem] theorem arrE_67 : arrE Tryd.prog 67 = some 1 := by kernel_rfl
@[go_sem] theorem szT_68 : szT Tryd.prog 68 = some 256 := by kernel_rfl
@[go_sem] theorem arN_68 : arN Tryd.prog 68 = some 256 := by kernel_rfl
@[go_sem] theorem arrE_68 : arrE Tryd.prog 68 = some 1 := by kernel_rfl
@[go_sem] theorem szT_72 : szT Tryd.prog 72 = some 1 := by kernel_rfl
@[go_sem] theorem szT_73 : szT Tryd.prog 73 = some 1 := by kernel_rfl
@[go_sem] theorem szT_84 : szT Tryd.prog 84 = some 1 := by kernel_rfl
@[go_sem] theorem szT_87 : szT Tryd.prog 87 = some 256 := by kernel_rfl
@[go_sem] theorem arN_87 : arN Tryd.prog 87 = some 256 := by kernel_rfl
@[go_sem] theorem arrE_87 : arrE Tryd.prog 87 = some 1 := by kernel_rfl
@[go_sem] theorem szT_88 : szT Tryd.prog 88 = some 2 := by kernel_rfl
@[go_sem] theorem arrE_88 : arrE Tryd.prog 88 = none := by kernel_rfl
@[go_sem] theorem isStruct_88 : isStruct Tryd.prog 88 = true := by kernel_rfl
@[go_sem] theorem fldI_88_0 : fldI Tryd.prog 88 0 = some (0, 5) := by kernel_rfl
@[go_sem] theorem fldI_88_1 : fldI Tryd.prog 88 1 = some (1, 5) := by kernel_rfl
@[go_sem] theorem szT_89 : szT Tryd.prog 89 = some 2 := by kernel_rfl
@[go_sem] theorem arrE_89 : arrE Tryd.prog 89 = none := by kernel_rfl
@[go_sem] theorem isStruct_89 : isStruct Tryd.prog 89 = true := by kernel_rfl
@[go_sem] theorem fldI_89_0 : fldI Tryd.prog 89 0 = some (0, 5) := by kernel_rfl
@[go_sem] theorem fldI_89_1 : fldI Tryd.prog 89 1 = some (1, 5) := by kernel_rfl
@[go_sem] theorem szT_90 : szT Tryd.prog 90 = some 32 := by kernel_rfl
@[go_sem] theorem arrE_90 : arrE Tryd.prog 90 = some 2 := by kernel_rfl
@[go_sem] theorem szT_91 : szT Tryd.prog 91 = some 1 := by kernel_rfl
@[go_sem] theorem szT_95 : szT Tryd.prog 95 = some 4 := by kernel_rfl
@[go_sem] theorem arrE_95 : arrE Tryd.prog 95 = none := by kernel_rfl
@[go_sem] theorem isStruct_95 : isStruct Tryd.prog 95 = true := by kernel_rfl
@[go_sem] theorem fldI_95_0 : fldI Tryd.prog 95 0 = some (0, 17) := by kernel_rfl
@[go_sem] theorem fldI_95_1 : fldI Tryd.prog 95 1 = some (1, 17) := by kernel_rfl
@[go_sem] theorem fldI_95_2 : fldI Tryd.prog 95 2 = some (2, 17) := by kernel_rfl
@[go_sem] theorem fldI_95_3 : fldI Tryd.prog 95 3 = some (3, 9) := by kernel_rfl
@[go_sem] theorem szT_96 : szT Tryd.prog 96 = some 4 := by kernel_rfl
@[go_sem] theorem arrE_96 : arrE Tryd.prog 96 = none := by kernel_rfl
@[go_sem] theorem isStruct_96 : isStruct Tryd.prog 96 = true := by kernel_rfl
@[go_sem] theorem fldI_96_0 : fldI Tryd.prog 96 0 = some (0, 17) := by kernel_rfl
@[go_sem] theorem fldI_96_1 : fldI Tryd.prog 96 1 = some (1, 17) := by kernel_rfl
@[go_sem] theorem fldI_96_2 : fldI Tryd.prog 96 2 = some (2, 17) := by kernel_rfl
@[go_sem] theorem fldI_96_3 : fldI Tryd.prog 96 3 = some (3, 9) := by kernel_rfl
@[go_sem] theorem szT_97 : szT Tryd.prog 97 = some 0 := by kernel_rfl
@[go_sem] theorem arN_97 : arN Tryd.prog 97 = some 0 := by kernel_rfl
@[go_sem] theorem arrE_97 : arrE Tryd.prog 97 = some 1 := by kernel_rfl
@[go_sem] theorem szT_98 : szT Tryd.prog 98 = some 0 := by kernel_rfl
@[go_sem] theorem arrE_98 : arrE Tryd.prog 98 = none := by kernel_rfl
@[go_sem] theorem isStruct_98 : isStruct Tryd.prog 98 = true := by kernel_rfl
@[go_sem] theorem fldI_98_0 : fldI Tryd.prog 98 0 = some (0, 97) := by kernel_rfl
@[go_sem] theorem szT_99 : szT Tryd.prog 99 = some 0 := by kernel_rfl
@[go_sem] theorem arrE_99 : arrE Tryd.prog 99 = none := by kernel_rfl
@[go_sem] theorem isStruct_99 : isStruct Tryd.prog 99 = true := by kernel_rfl
@[go_sem] theorem fldI_99_0 : fldI Tryd.prog 99 0 = some (0, 97) := by kernel_rfl
@[go_sem] theorem szT_101 : szT Tryd.prog 101 = some 1 := by kernel_rfl
@[go_sem] theorem szT_102 : szT Tryd.prog 102 = some 1 := by kernel_rfl
@[go_sem] theorem szT_104 : szT Tryd.prog 104 = some 1 := by kernel_rfl
@[go_sem] theorem szT_105 : szT Tryd.prog 105 = some 1 := by kernel_rfl
@[go_sem] theorem szT_106 : szT Tryd.prog 106 = some 11 := by kernel_rfl
@[go_sem] theorem arrE_106 : arrE Tryd.prog 106 = none := by kernel_rfl
@[go_sem] theorem isStruct_106 : isStruct Tryd.prog 106 = true := by kernel_rfl
@[go_sem] theorem fldI_106_0 : fldI Tryd.prog 106 0 = some (0, 12) := by kernel_rfl
@[go_sem] theorem fldI_106_1 : fldI Tryd.prog 106 1 = some (1, 12) := by kernel_rfl
@[go_sem] theorem fldI_106_2 : fldI Tryd.prog 106 2 = some (2, 91) := by kernel_rfl
@[go_sem] theorem fldI_106_3 : fldI Tryd.prog 106 3 = some (3, 101) := by kernel_rfl
@[go_sem] theorem fldI_106_4 : fldI Tryd.prog 106 4 = some (4, 5) := by kernel_rfl
@[go_sem] theorem fldI_106_5 : fldI Tryd.prog 106 5 = some (5, 5) := by kernel_rfl
@[go_sem] theorem fldI_106_6 : fldI Tryd.prog 106 6 = some (6, 102) := by kernel_rfl
@[go_sem] theorem fldI_106_7 : fldI Tryd.prog 106 7 = some (7, 103) := by kernel_rfl
@[go_sem] theorem fldI_106_8 : fldI Tryd.prog 106 8 = some (8, 64) := by kernel_rfl
@[go_sem] theorem fldI_106_9 : fldI Tryd.prog 106 9 = some (9, 104) := by kernel_rfl
@[go_sem] theorem fldI_106_10 : fldI Tryd.prog 106 10 = some (10, 105) := by kernel_rfl
@[go_sem] theorem szT_107 : szT Tryd.prog 107 = some 11 := by kernel_rfl
@[go_sem] theorem arrE_107 : arrE Tryd.prog 107 = none := by kernel_rfl
@[go_sem] theorem isStruct_107 : isStruct Tryd.prog 107 = true := by kernel_rfl
@[go_sem] theorem fldI_107_0 : fldI Tryd.prog 107 0 = some (0, 12) := by kernel_rfl
@[go_sem] theorem fldI_107_1 : fldI Tryd.prog 107 1 = some (1, 12) := by kernel_rfl
@[go_sem] theorem fldI_107_2 : fldI Tryd.prog 107 2 = some (2, 91) := by kernel_rfl
@[go_sem] theorem fldI_107_3 : fldI Tryd.prog 107 3 = some (3, 101) := by kernel_rfl
@[go_sem] theorem fldI_107_4 : fldI Tryd.prog 107 4 = some (4, 5) := by kernel_rfl
@[go_sem] theorem fldI_107_5 : fldI Tryd.prog 107 5 = some (5, 5) := by kernel_rfl
@[go_sem] theorem fldI_107_6 : fldI Tryd.prog 107 6 = some (6, 102) := by kernel_rfl
@[go_sem] theorem fldI_107_7 : fldI Tryd.prog 107 7 = some (7, 103) := by kernel_rfl
@[go_sem] theorem fldI_107_8 : fldI Tryd.prog 107 8 = some (8, 64) := by kernel_rfl
@[go_sem] theorem fldI_107_9 : fldI Tryd.prog 107 9 = some (9, 104) := by kernel_rfl
@[go_sem] theorem fldI_107_10 : fldI Tryd.prog 107 10 = some (10, 105) := by kernel_rfl
@[go_sem] theorem stK_39 : stK Tryd.prog 39 = some [.s, .s] := by kernel_rfl
def enc_api_Param (p : (List UInt8) × (List UInt8)) : AV := .agg [.str p.1, .str p.2]
@[go_sem] theorem enc_api_Param_p (p : (List UInt8) × (List UInt8)) : enc_api_Param p = .agg [.str p.1, .str p.2] := rfl
@[go_sem] theorem set_enc_api_Param (l : List ((List UInt8) × (List UInt8))) (i : Nat) (a0 : List UInt8) (a1 : List UInt8) : (List.map enc_api_Param l).set i (.agg [.str a0, .str a1]) = List.map enc_api_Param (l.set i (a0, a1)) := by rw [List.map_set]; rfl
@[go_sem] theorem zeroA_1 : zeroA Tryd.prog 1 = some [.sc .nilFunc] := by kernel_rfl
@[go_sem] theorem zeroA_2 : zeroA Tryd.prog 2 = some [.int .i64 0] := by kernel_rfl
@[go_sem] theorem zeroA_3 : zeroA Tryd.prog 3 = some [.int .i64 0] := by kernel_rfl
@[go_sem] theorem zeroA_4 : zeroA Tryd.prog 4 = some [.bool false] := by kernel_rfl
@[go_sem] theorem zeroA_5 : zeroA Tryd.prog 5 = some [.int .u8 0] := by kernel_rfl
@[go_sem] theorem zeroA_6 : zeroA Tryd.prog 6 = some [.int .u8 0] := by kernel_rfl
@[go_sem] theorem zeroA_7 : zeroA Tryd.prog 7 = some [.int .i64 0, .int .i64 0, .bool false, .int .u8 0] := by kernel_rfl
@[go_sem] theorem zeroA_8 : zeroA Tryd.prog 8 = some [.int .i64 0, .int .i64 0, .bool false, .int .u8 0] := by kernel_rfl
@[go_sem] theorem zeroA_9 : zeroA Tryd.prog 9 = some [.str []] := by kernel_rfl
@[go_sem] theorem zeroA_10 : zeroA Tryd.prog 10 = some [.str []] := by kernel_rfl
@[go_sem] theorem zeroA_11 : zeroA Tryd.prog 11 = some [.str []] := by kernel_rfl
@[go_sem] theorem zeroA_12 : zeroA Tryd.prog 12 = some [.int .u64 0] := by kernel_rfl
@[go_sem] theorem zeroA_13 : zeroA Tryd.prog 13 = some [.str [], .int .u64 0] := by kernel_rfl
@[go_sem] theorem zeroA_14 : zeroA Tryd.prog 14 = some [.str [], .int .u64 0] := by kernel_rfl
@[go_sem] theorem zeroA_15 : zeroA Tryd.prog 15 = some [.sc (.pointer none)] := by kernel_rfl
@[go_sem] theorem zeroA_16 : zeroA Tryd.prog 16 = some [.sc (.pointer none)] := by kernel_rfl
@[go_sem] theorem zeroA_17 : zeroA Tryd.prog 17 = some [.sc (.pointer none)] := by kernel_rfl
@[go_sem] theorem zeroA_18 : zeroA Tryd.prog 18 = some [.sc (.pointer none)] := by kernel_rfl
@[go_sem] theorem zeroA_19 : zeroA Tryd.prog 19 = some [.sc (.pointer none)] := by kernel_rfl
@[go_sem] theorem zeroA_20 : zeroA Tryd.prog 20 = some [.sc .nilIface] := by kernel_rfl
@[go_sem] theorem zeroA_21 : zeroA Tryd.prog 21 = some [.int .i32 0] := by kernel_rfl
@[go_sem] theorem zeroA_22 : zeroA Tryd.prog 22 = some [.sc .nilFunc] := by kernel_rfl
@[go_sem] theorem zeroA_23 : zeroA Tryd.prog 23 = some [.int .i64 0] := by kernel_rfl
@[go_sem] theorem zeroA_25 : zeroA Tryd.prog 25 = some [.sc .nilFunc] := by kernel_rfl
@[go_sem] theorem zeroA_26 : zeroA Tryd.prog 26 = some [.sc .nilFunc] := by kernel_rfl
@[go_sem] theorem zeroA_27 : zeroA Tryd.prog 27 = some [.sc .nilFunc] := by kernel_rfl
@[go_sem] theorem zeroA_28 : zeroA Tryd.prog 28 = some [.sc (.slice none 0 0)] := by kernel_rfl
@[go_sem] theorem zeroA_30 : zeroA Tryd.prog 30 = some [.sc .nilFunc] := by kernel_rfl
@[go_sem] theorem zeroA_31 : zeroA Tryd.prog 31 = some [.sc .nilFunc] := by kernel_rfl
@[go_sem] theorem zeroA_32 : zeroA Tryd.prog 32 = some [.sc (.slice none 0 0)] := by kernel_rfl
@[go_sem] theorem zeroA_33 : zeroA Tryd.prog 33 = some [.str [], .str [], .sc (.slice none 0 0)] := by kernel_rfl
@[go_sem] theorem zeroA_34 : zeroA Tryd.prog 34 = some [.str [], .str [], .sc (.slice none 0 0)] := by kernel_rfl
@[go_sem] theorem zeroA_36 : zeroA Tryd.prog 36 = some [.sc .nilFunc] := by kernel_rfl
@[go_sem] theorem zeroA_37 : zeroA Tryd.prog 37 = some [.sc .nilFunc] := by kernel_rfl
@[go_sem] theorem zeroA_38 : zeroA Tryd.prog 38 = some [.str [], .str []] := by kernel_rfl
@[go_sem] theorem zeroA_39 : zeroA Tryd.prog 39 = some [.str [], .str []] := by kernel_rfl
@[go_sem] theorem zeroA_40 : zeroA Tryd.prog 40 = some [.sc .nilFunc] := by kernel_rfl
@[go_sem] theorem zeroA_41 : zeroA Tryd.prog 41 = some [.sc .nilFunc] := by kernel_rfl
@[go_sem] theorem zeroA_42 : zeroA Tryd.prog 42 = some [.sc .nilFunc] := by kernel_rfl
@[go_sem] theorem zeroA_43 : zeroA Tryd.prog 43 = some [.sc (.slice none 0 0)] := by kernel_rfl
@[go_sem] theorem zeroA_44 : zeroA Tryd.prog 44 = some [.sc .nilFunc] := by kernel_rfl
@[go_sem] theorem zeroA_45 : zeroA Tryd.prog 45 = some [.sc (.pointer none)] := by kernel_rfl
@[go_sem] theorem zeroA_46 : zeroA Tryd.prog 46 = some [.sc (.slice none 0 0)] := by kernel_rfl
@[go_sem] theorem zeroA_47 : zeroA Tryd.prog 47 = some [.sc (.pointer none), .sc (.slice none 0 0)] := by kernel_rfl
@[go_sem] theorem zeroA_48 : zeroA Tryd.prog 48 = some [.sc (.pointer none), .sc (.slice none 0 0)] := by kernel_rfl
@[go_sem] theorem zeroA_49 : zeroA Tryd.prog 49 = some [.sc .nilFunc] := by kernel_rfl
@[go_sem] theorem zeroA_50 : zeroA Tryd.prog 50 = some [.sc .nilFunc] := by kernel_rfl
@[go_sem] theorem zeroA_51 : zeroA Tryd.prog 51 = some [.sc .nilIface] := by kernel_rfl
@[go_sem] theorem zeroA_52 : zeroA Tryd.prog 52 = some [.sc .nilIface] := by kernel_rfl
@[go_sem] theorem zeroA_53 : zeroA Tryd.prog 53 = some [.sc .nilFunc] := by kernel_rfl
@[go_sem] theorem zeroA_54 : zeroA Tryd.prog 54 = some [.sc .nilFunc] := by kernel_rfl
@[go_sem] theorem zeroA_55 : zeroA Tryd.prog 55 = some [.sc .nilFunc] := by kernel_rfl
@[go_sem] theorem zeroA_56 : zeroA Tryd.prog 56 = some [.sc .nilFunc] := by kernel_rfl
@[go_sem] theorem zeroA_58 : zeroA Tryd.prog 58 = some [.sc .nilFunc] := by kernel_rfl
@[go_sem] theorem zeroA_60 : zeroA Tryd.prog 60 = some [.sc .nilFunc] := by kernel_rfl
@[go_sem] theorem zeroA_61 : zeroA Tryd.prog 61 = some [.sc .nilFunc] := by kernel_rfl
@[go_sem] theorem zeroA_63 : zeroA Tryd.prog 63 = some [.sc .nilFunc] := by kernel_rfl
@[go_sem] theorem zeroA_64 : zeroA Tryd.prog 64 = some [.sc (.pointer none)] := by kernel_rfl
@[go_sem] theorem zeroA_65 : zeroA Tryd.prog 65 = some [.sc .nilFunc] := by kernel_rfl
@[go_sem] theorem zeroA_66 : zeroA Tryd.prog 66 = some [.sc .nilFunc] := by kernel_rfl
@[go_sem] theorem zeroA_67 : zeroA Tryd.prog 67 = some [.bool false, .bool false, .bool false, .bool false, .bool false, .bool false, .bool false, .bool false, .bool false, .bool false, .bool false, .bool false, .bool false, .bool false, .bool false, .bool false, .bool false, .bool false, .bool false, .bool false, .bool false, .bool false, .bool false, .bool false, .bool false, .bool false, .bool false, .bool false, .bool false, .bool false, .bool false, .bool false, .bool false, .bool false, .bool false, .bool false, .bool false, .bool false, .bool false, .bool false, .bool false, .bool false, .bool false, .bool false, .bool false, .bool false, .bool false, .bool false, .bool false, .bool false, .bool false, .bool false, .bool false, .bool false, .bool false, .bool false, .bool false, .bool false, .bool false, .bool false, .bool false, .bool false, .bool false, .bool false, .bool false, .bool false, .bool false, .bool false, .bool false, .bool false, .bool false, .bool false, .bool false, .bool false, .bool false, .bool false, .bool false, .bool false, .bool false, .bool false, .bool false, .bool false, .bool false, .bool false, .bool false, .bool false, .bool false, .bool false, .bool false, .bool false, .bool false, .bool false, .bool false, .bool false, .bool false, .bool false, .bool false, .bool false, .bool false, .bool false, .bool false, .bool false, .bool false, .bool false, .bool false, .bool false, .bool false, .bool false, .bool false, .bool false, .bool false, .bool false, .bool false, .bool false, .bool false, .bool false, .bool false, .bool false, .bool false, .bool false, .bool false, .bool false, .bool false, .bool false, .bool false, .bool false, .bool false, .bool false, .bool false, .bool false, .bool false, .bool false, .bool false, .bool false, .bool false, .bool false, .bool false, .bool false, .bool false, .bool false, .bool false, .bool false, .bool false, .bool false, .bool false, .bool false, .bool false, .bool false, .bool false, .bool false, .bool false, .bool false, .bool false, .bool false, .bool false, .bool false, .bool false, .bool false, .bool false, .bool false, .bool false, .bool false, .bool false, .bool false, .bool false, .bool false, .bool false, .bool false, .bool false, .bool false, .bool false, .bool false, .bool false, .bool false, .bool false, .bool false, .bool false, .bool false, .bool false, .bool false, .bool false, .bool false, .bool false, .bool false, .bool false, .bool false, .bool false, .bool false, .bool false, .bool false, .bool false, .bool false, .bool false, .bool false, .bool false, .bool false, .bool false, .bool false, .bool false, .bool false, .bool false, .bool false, .bool false, .bool false, .bool false, .bool false, .bool false, .bool false, .bool false, .bool false, .bool false, .bool false, .bool false, .bool false, .bool false, .bool false, .bool false, .bool false, .bool false, .bool false, .bool false, .bool false, .bool false, .bool false, .bool false, .bool false, .bool false, .bool false, .bool false, .bool false, .bool false, .bool false, .bool false, .bool false, .bool false, .bool false, .bool false, .bool false, .bool false, .bool false, .bool false, .bool false, .bool false, .bool false, .bool false, .bool false, .bool false, .bool false, .bool false, .bool false, .bool false, .bool false, .bool false, .bool false, .bool false, .bool false] := by kernel_rfl
@[go_sem] theorem zeroA_68 : zeroA Tryd.prog 68 = some [.bool false, .bool false, .bool false, .bool false, .bool false, .bool false, .bool false, .bool false, .bool false, .bool false, .bool false, .bool false, .bool false, .bool false, .bool false, .bool false, .bool false, .bool false, .bool false, .bool false, .bool false, .bool false, .bool false, .bool false, .bool false, .bool false, .bool false, .bool false, .bool false, .bool false, .bool false, .bool false, .bool false, .bool false, .bool false, .bool false, .bool false, .bool false, .bool false, .bool false, .bool false, .bool false, .bool false, .bool false, .bool false, .bool false, .bool false, .bool false, .bool false, .bool false, .bool false, .bool false, .bool false, .bool false, .bool false, .bool false, .bool false, .bool false, .bool false, .bool false, .bool false, .bool false, .bool false, .bool false, .bool false, .bool false, .bool false, .bool false, .bool false, .bool false, .bool false, .bool false, .bool false, .bool false, .bool false, .bool false, .bool false, .bool false, .bool false, .bool false, .bool false, .bool false, .bool false, .bool false, .bool false, .bool false, .bool false, .bool false, .bool false, .bool false, .bool false, .bool false, .bool false, .bool false, .bool false, .bool false, .bool false, .bool false, .bool false, .bool false, .bool false, .bool false, .bool false, .bool false, .bool false, .bool false, .bool false, .bool false, .bool false, .bool false, .bool false, .bool false, .bool false, .bool false, .bool false, .bool false, .bool false, .bool false, .bool false, .bool false, .bool false, .bool false, .bool false, .bool false, .bool false, .bool false, .bool false, .bool false, .bool false, .bool false, .bool false, .bool false, .bool false, .bool false, .bool false, .bool false, .bool false, .bool false, .bool false, .bool false, .bool false, .bool false, .bool false, .bool false, .bool false, .bool false, .bool false, .bool false, .bool false, .bool false, .bool false, .bool false, .bool false, .bool false, .bool false, .bool false, .bool false, .bool false, .bool false, .bool false, .bool false, .bool false, .bool false, .bool false, .bool false, .bool false, .bool false, .bool false, .bool false, .bool false, .bool false, .bool false, .bool false, .bool false, .bool false, .bool false, .bool false, .bool false, .bool false, .bool false, .bool false, .bool false, .bool false, .bool false, .bool false, .bool false, .bool false, .bool false, .bool false, .bool false, .bool false, .bool false, .bool false, .bool false, .bool false, .bool false, .bool false, .bool false, .bool false, .bool false, .bool false, .bool false, .bool false, .bool false, .bool false, .bool false, .bool false, .bool false, .bool false, .bool false, .bool false, .bool false, .bool false, .bool false, .bool false, .bool false, .bool false, .bool false, .bool false, .bool false, .bool false, .bool false, .bool false, .bool false, .bool false, .bool false, .bool false, .bool false, .bool false, .bool false, .bool false, .bool false, .bool false, .bool false, .bool false, .bool false, .bool false, .bool false, .bool false, .bool false, .bool false, .bool false, .bool false, .bool false, .bool false, .bool false, .bool false, .bool false, .bool false, .bool false, .bool false, .bool false, .bool false, .bool false, .bool false, .bool false] := by kernel_rfl
@[go_sem] theorem zeroA_70 : zeroA Tryd.prog 70 = some [.sc .nilFunc] := by kernel_rfl
@[go_sem] theorem zeroA_71 : zeroA Tryd.prog 71 = some [.sc .nilFunc] := by kernel_rfl
@[go_sem] theorem zeroA_72 : zeroA Tryd.prog 72 = some [.sc (.pointer none)] := by kernel_rfl
@[go_sem] theorem zeroA_73 : zeroA Tryd.prog 73 = some [.sc (.pointer none)] := by kernel_rfl
@[go_sem] theorem zeroA_74 : zeroA Tryd.prog 74 = some [.sc .nilFunc] := by kernel_rfl
@[go_sem] theorem zeroA_75 : zeroA Tryd.prog 75 = some [.sc .nilFunc] := by kernel_rfl
@[go_sem] theorem zeroA_76 : zeroA Tryd.prog 76 = some [.sc .nilFunc] := by kernel_rfl
@[go_sem] theorem zeroA_78 : zeroA Tryd.prog 78 = some [.sc .nilFunc] := by kernel_rfl
@[go_sem] theorem zeroA_80 : zeroA Tryd.prog 80 = some [.sc .nilFunc] := by kernel_rfl
@[go_sem] theorem zeroA_81 : zeroA Tryd.prog 81 = some [.sc .nilFunc] := by kernel_rfl
@[go_sem] theorem zeroA_82 : zeroA Tryd.prog 82 = some [.sc .nilFunc] := by kernel_rfl
@[go_sem] theorem zeroA_83 : zeroA Tryd.prog 83 = some [.sc .nilFunc] := by kernel_rfl
@[go_sem] theorem zeroA_84 : zeroA Tryd.prog 84 = some [.int .u64 0] := by kernel_rfl
@[go_sem] theorem zeroA_85 : zeroA Tryd.prog 85 = some [.sc .nilFunc] := by kernel_rfl
@[go_sem] theorem zeroA_86 : zeroA Tryd.prog 86 = some [.sc .nilFunc] := by kernel_rfl
@[go_sem] theorem zeroA_87 : zeroA Tryd.prog 87 = some [.int .u8 0, .int .u8 0, .int .u8 0, .int .u8 0, .int .u8 0, .int .u8 0, .int .u8 0, .int .u8 0, .int .u8 0, .int .u8 0, .int .u8 0, .int .u8 0, .int .u8 0, .int .u8 0, .int .u8 0, .int .u8 0, .int .u8 0, .int .u8 0, .int .u8 0, .int .u8 0, .int .u8 0, .int .u8 0, .int .u8 0, .int .u8 0, .int .u8 0, .int .u8 0, .int .u8 0, .int .u8 0, .int .u8 0, .int .u8 0, .int .u8 0, .int .u8 0, .int .u8 0, .int .u8 0, .int .u8 0, .int .u8 0, .int .u8 0, .int .u8 0, .int .u8 0, .int .u8 0, .int .u8 0, .int .u8 0, .int .u8 0, .int .u8 0, .int .u8 0, .int .u8 0, .int .u8 0, .int .u8 0, .int .u8 0, .int .u8 0, .int .u8 0, .int .u8 0, .int .u8 0, .int .u8 0, .int .u8 0, .int .u8 0, .int .u8 0, .int .u8 0, .int .u8 0, .int .u8 0, .int .u8 0, .int .u8 0, .int .u8 0, .int .u8 0, .int .u8 0, .int .u8 0, .int .u8 0, .int .u8 0, .int .u8 0, .int .u8 0, .int .u8 0, .int .u8 0, .int .u8 0, .int .u8 0, .int .u8 0, .int .u8 0, .int .u8 0, .int .u8 0, .int .u8 0, .int .u8 0, .int .u8 0, .int .u8 0, .int .u8 0, .int .u8 0, .int .u8 0, .int .u8 0, .int .u8 0, .int .u8 0, .int .u8 0, .int .u8 0, .int .u8 0, .int .u8 0, .int .u8 0, .int .u8 0, .int .u8 0, .int .u8 0, .int .u8 0, .int .u8 0, .int .u8 0, .int .u8 0, .int .u8 0, .int .u8 0, .int .u8 0, .int .u8 0, .int .u8 0, .int .u8 0, .int .u8 0, .int .u8 0, .int .u8 0, .int .u8 0, .int .u8 0, .int .u8 0, .int .u8 0, .int .u8 0, .int .u8 0, .int .u8 0, .int .u8 0, .int .u8 0, .int .u8 0, .int .u8 0, .int .u8 0, .int .u8 0, .int .u8 0, .int .u8 0, .int .u8 0, .int .u8 0, .int .u8 0, .int .u8 0, .int .u8 0, .int .u8 0, .int .u8 0, .int .u8 0, .int .u8 0, .int .u8 0, .int .u8 0, .int .u8 0, .int .u8 0, .int .u8 0, .int .u8 0, .int .u8 0, .int .u8 0, .int .u8 0, .int .u8 0, .int .u8 0, .int .u8 0, .int .u8 0, .int .u8 0, .int .u8 0, .int .u8 0, .int .u8 0, .int .u8 0, .int .u8 0, .int .u8 0, .int .u8 0, .int .u8 0, .int .u8 0, .int .u8 0, .int .u8 0, .int .u8 0, .int .u8 0, .int .u8 0, .int .u8 0, .int .u8 0, .int .u8 0, .int .u8 0, .int .u8 0, .int .u8 0, .int .u8 0, .int .u8 0, .int .u8 0, .int .u8 0, .int .u8 0, .int .u8 0, .int .u8 0, .int .u8 0, .int .u8 0, .int .u8 0, .int .u8 0, .int .u8 0, .int .u8 0, .int .u8 0, .int .u8 0, .int .u8 0, .int .u8 0, .int .u8 0, .int .u8 0, .int .u8 0, .int .u8 0, .int .u8 0, .int .u8 0, .int .u8 0, .int .u8 0, .int .u8 0, .int .u8 0, .int .u8 0, .int .u8 0, .int .u8 0, .int .u8 0, .int .u8 0, .int .u8 0, .int .u8 0, .int .u8 0, .int .u8 0, .int .u8 0, .int .u8 0, .int .u8 0, .int .u8 0, .int .u8 0, .int .u8 0, .int .u8 0, .int .u8 0, .int .u8 0, .int .u8 0, .int .u8 0, .int .u8 0, .int .u8 0, .int .u8 0, .int .u8 0, .int .u8 0, .int .u8 0, .int .u8 0, .int .u8 0, .int .u8 0, .int .u8 0, .int .u8 0, .int .u8 0, .int .u8 0, .int .u8 0, .int .u8 0, .int .u8 0, .int .u8 0, .int .u8 0, .int .u8 0, .int .u8 0, .int .u8 0, .int .u8 0, .int .u8 0, .int .u8 0, .int .u8 0, .int .u8 0, .int .u8 0, .int .u8 0, .int .u8 0, .int .u8 0, .int .u8 0, .int .u8 0, .int .u8 0, .int .u8 0, .int .u8 0, .int .u8 0, .int .u8 0, .int .u8 0, .int .u8 0, .int .u8 0, .int .u8 0, .int .u8 0] := by kernel_rfl
@[go_sem] theorem zeroA_88 : zeroA Tryd.prog 88 = some [.int .u8 0, .int .u8 0] := by kernel_rfl
@[go_sem] theorem zeroA_89 : zeroA Tryd.prog 89 = some [.int .u8 0, .int .u8 0] := by kernel_rfl
@[go_sem] theorem zeroA_90 : zeroA Tryd.prog 90 = some [.int .u8 0, .int .u8 0, .int .u8 0, .int .u8 0, .int .u8 0, .int .u8 0, .int .u8 0, .int .u8 0, .int .u8 0, .int .u8 0, .int .u8 0, .int .u8 0, .int .u8 0, .int .u8 0, .int .u8 0, .int .u8 0, .int .u8 0, .int .u8 0, .int .u8 0, .int .u8 0, .int .u8 0, .int .u8 0, .int .u8 0, .int .u8 0, .int .u8 0, .int .u8 0, .int .u8 0, .int .u8 0, .int .u8 0, .int .u8 0, .int .u8 0, .int .u8 0] := by kernel_rfl
@[go_sem] theorem zeroA_91 : zeroA Tryd.prog 91 = some [.int .u32 0] := by kernel_rfl
@[go_sem] theorem zeroA_93 : zeroA Tryd.prog 93 = some [.sc .nilFunc] := by kernel_rfl
@[go_sem] theorem zeroA_94 : zeroA Tryd.prog 94 = some [.sc .nilFunc] := by kernel_rfl
@[go_sem] theorem zeroA_95 : zeroA Tryd.prog 95 = some [.sc (.pointer none), .sc (.pointer none), .sc (.pointer none), .str []] := by kernel_rfl
@[go_sem] theorem zeroA_96 : zeroA Tryd.prog 96 = some [.sc (.pointer none), .sc (.pointer none), .sc (.pointer none), .str []] := by kernel_rfl
@[go_sem] theorem zeroA_97 : zeroA Tryd.prog 97 = some [] := by kernel_rfl
@[go_sem] theorem zeroA_98 : zeroA Tryd.prog 98 = some [] := by kernel_rfl
@[go_sem] theorem zeroA_99 : zeroA Tryd.prog 99 = some [] := by kernel_rfl
@[go_sem] theorem zeroA_100 : zeroA Tryd.prog 100 = some [.sc .nilFunc] := by kernel_rfl
@[go_sem] theorem zeroA_101 : zeroA Tryd.prog 101 = some [.int .u8 0] := by kernel_rfl
@[go_sem] theorem zeroA_102 : zeroA Tryd.prog 102 = some [.int .u8 0] := by kernel_rfl
@[go_sem] theorem zeroA_103 : zeroA Tryd.prog 103 = some [.sc .nilFunc] := by kernel_rfl
@[go_sem] theorem zeroA_104 : zeroA Tryd.prog 104 = some [.int .i32 0] := by kernel_rfl
@[go_sem] theorem zeroA_105 : zeroA Tryd.prog 105 = some [.int .i32 0] := by kernel_rfl
@[go_sem] theorem zeroA_106 : zeroA Tryd.prog 106 = some [.int .u64 0, .int .u64 0, .int .u32 0, .int .u8 0, .int .u8 0, .int .u8 0, .int .u8 0, .sc .nilFunc, .sc (.pointer none), .int .i32 0, .int .i32 0] := by kernel_rfl
@[go_sem] theorem zeroA_107 : zeroA Tryd.prog 107 = some [.int .u64 0, .int .u64 0, .int .u32 0, .int .u8 0, .int .u8 0, .int .u8 0, .int .u8 0, .sc .nilFunc, .sc (.pointer none), .int .i32 0, .int .i32 0] := by kernel_rfl
@[go_sem] theorem tyS_28 : tyS Tryd.prog 28 = some (9, 1, 16) := by kernel_rfl
@[go_sem] theorem tyS_32 : tyS Tryd.prog 32 = some (39, 2, 32) := by kernel_rfl
@[go_sem] theorem tyS_43 : tyS Tryd.prog 43 = some (3, 1, 8) := by kernel_rfl
@[go_sem] theorem tyS_46 : tyS Tryd.prog 46 = some (5, 1, 1) := by kernel_rfl
@[go_sem] theorem ptrT_15 : ptrT Tryd.prog 15 = true := by kernel_rfl
@[go_sem] theorem ptrE_15 : ptrE Tryd.prog 15 = some 96 := by kernel_rfl
@[go_sem] theorem ptrT_16 : ptrT Tryd.prog 16 = true := by kernel_rfl
@[go_sem] theorem ptrE_16 : ptrE Tryd.prog 16 = some 99 := by kernel_rfl
@[go_sem] theorem ptrT_17 : ptrT Tryd.prog 17 = true := by kernel_rfl
@[go_sem] theorem ptrE_17 : ptrE Tryd.prog 17 = some 107 := by kernel_rfl
@[go_sem] theorem ptrT_45 : ptrT Tryd.prog 45 = true := by kernel_rfl
@[go_sem] theorem ptrE_45 : ptrE Tryd.prog 45 = some 48 := by kernel_rfl
@[go_sem] theorem unsTo_45_73 : unsOK Tryd.prog 45 73 48 2 0 = true := by kernel_rfl
@[go_sem] theorem unsFrom_45_73 : unsOK Tryd.prog 73 45 48 2 0 = true := by kernel_rfl
@[go_sem] theorem ptrT_64 : ptrT Tryd.prog 64 = true := by kernel_rfl
@[go_sem] theorem ptrE_64 : ptrE Tryd.prog 64 = some 5 := by kernel_rfl
@[go_sem] theorem ptrT_72 : ptrT Tryd.prog 72 = true := by kernel_rfl
@[go_sem] theorem ptrE_72 : ptrE Tryd.prog 72 = some 68 := by kernel_rfl
theorem follows_mixed : Tryd.prog.follows .mixedOrders = true := by kernel_rfl
end Go.Proofs.YteahieldmfehlaaDoor
