/- Closed facts on the types of this seat's program: what 'isA', 'szT' and their kin answer. Printed by wip/tools/facts.py. -/
import Derived.Test.YtmenoocaeakplaaDoorRows
import Derived.Test.YtmenoocaeakplaaDoorAvT
namespace Go.Proofs.YtmenoocaeakplaaDoor
open Go.Av
set_option linter.unusedVariables false
@[go_sem] theorem isA_1 : isA Tryd.prog 1 = some false := by kernel_rfl
@[go_sem] theorem szT_1 : szT Tryd.prog 1 = some 1 := by kernel_rfl
@[go_sem] theorem hasT_2 : hasT Tryd.prog 2 = true := by kernel_rfl
@[go_sem] theorem conc_2 : Tryd.prog.concrete 2 = true := by kernel_rfl
@[go_sem] theorem isStr_2 : isStr Tryd.prog 2 = false := by kernel_rfl
@[go_sem] theorem isBoolT_2 : isBoolT Tryd.prog 2 = false := by kernel_rfl
@[go_sem] theorem ikT_2 : ikT Tryd.prog 2 = some .i64 := by kernel_rfl
@[go_sem] theorem isA_2 : isA Tryd.prog 2 = some false := by kernel_rfl
@[go_sem] theorem elT_2 : elT Tryd.prog 2 = none := by kernel_rfl
@[go_sem] theorem hasT_3 : hasT Tryd.prog 3 = true := by kernel_rfl
@[go_sem] theorem conc_3 : Tryd.prog.concrete 3 = true := by kernel_rfl
@[go_sem] theorem isStr_3 : isStr Tryd.prog 3 = false := by kernel_rfl
@[go_sem] theorem isBoolT_3 : isBoolT Tryd.prog 3 = false := by kernel_rfl
@[go_sem] theorem ikT_3 : ikT Tryd.prog 3 = some .i64 := by kernel_rfl
@[go_sem] theorem isA_3 : isA Tryd.prog 3 = some false := by kernel_rfl
@[go_sem] theorem elT_3 : elT Tryd.prog 3 = none := by kernel_rfl
@[go_sem] theorem hasT_4 : hasT Tryd.prog 4 = true := by kernel_rfl
@[go_sem] theorem conc_4 : Tryd.prog.concrete 4 = true := by kernel_rfl
@[go_sem] theorem isStr_4 : isStr Tryd.prog 4 = false := by kernel_rfl
@[go_sem] theorem isBoolT_4 : isBoolT Tryd.prog 4 = true := by kernel_rfl
@[go_sem] theorem ikT_4 : ikT Tryd.prog 4 = none := by kernel_rfl
@[go_sem] theorem isA_4 : isA Tryd.prog 4 = some false := by kernel_rfl
@[go_sem] theorem elT_4 : elT Tryd.prog 4 = none := by kernel_rfl
@[go_sem] theorem hasT_5 : hasT Tryd.prog 5 = true := by kernel_rfl
@[go_sem] theorem conc_5 : Tryd.prog.concrete 5 = true := by kernel_rfl
@[go_sem] theorem isStr_5 : isStr Tryd.prog 5 = false := by kernel_rfl
@[go_sem] theorem isBoolT_5 : isBoolT Tryd.prog 5 = false := by kernel_rfl
@[go_sem] theorem ikT_5 : ikT Tryd.prog 5 = some .u8 := by kernel_rfl
@[go_sem] theorem isA_5 : isA Tryd.prog 5 = some false := by kernel_rfl
@[go_sem] theorem elT_5 : elT Tryd.prog 5 = none := by kernel_rfl
@[go_sem] theorem hasT_6 : hasT Tryd.prog 6 = true := by kernel_rfl
@[go_sem] theorem conc_6 : Tryd.prog.concrete 6 = true := by kernel_rfl
@[go_sem] theorem isStr_6 : isStr Tryd.prog 6 = false := by kernel_rfl
@[go_sem] theorem isBoolT_6 : isBoolT Tryd.prog 6 = false := by kernel_rfl
@[go_sem] theorem ikT_6 : ikT Tryd.prog 6 = some .u8 := by kernel_rfl
@[go_sem] theorem isA_6 : isA Tryd.prog 6 = some false := by kernel_rfl
@[go_sem] theorem elT_6 : elT Tryd.prog 6 = none := by kernel_rfl
@[go_sem] theorem hasT_7 : hasT Tryd.prog 7 = true := by kernel_rfl
@[go_sem] theorem conc_7 : Tryd.prog.concrete 7 = true := by kernel_rfl
@[go_sem] theorem isStr_7 : isStr Tryd.prog 7 = false := by kernel_rfl
@[go_sem] theorem isBoolT_7 : isBoolT Tryd.prog 7 = false := by kernel_rfl
@[go_sem] theorem ikT_7 : ikT Tryd.prog 7 = none := by kernel_rfl
@[go_sem] theorem isA_7 : isA Tryd.prog 7 = some true := by kernel_rfl
@[go_sem] theorem elT_7 : elT Tryd.prog 7 = none := by kernel_rfl
@[go_sem] theorem hasT_8 : hasT Tryd.prog 8 = true := by kernel_rfl
@[go_sem] theorem conc_8 : Tryd.prog.concrete 8 = true := by kernel_rfl
@[go_sem] theorem isStr_8 : isStr Tryd.prog 8 = false := by kernel_rfl
@[go_sem] theorem isBoolT_8 : isBoolT Tryd.prog 8 = false := by kernel_rfl
@[go_sem] theorem ikT_8 : ikT Tryd.prog 8 = none := by kernel_rfl
@[go_sem] theorem isA_8 : isA Tryd.prog 8 = some true := by kernel_rfl
@[go_sem] theorem elT_8 : elT Tryd.prog 8 = none := by kernel_rfl
@[go_sem] theorem hasT_9 : hasT Tryd.prog 9 = true := by kernel_rfl
@[go_sem] theorem conc_9 : Tryd.prog.concrete 9 = true := by kernel_rfl
@[go_sem] theorem isStr_9 : isStr Tryd.prog 9 = true := by kernel_rfl
@[go_sem] theorem isBoolT_9 : isBoolT Tryd.prog 9 = false := by kernel_rfl
@[go_sem] theorem ikT_9 : ikT Tryd.prog 9 = none := by kernel_rfl
@[go_sem] theorem isA_9 : isA Tryd.prog 9 = some false := by kernel_rfl
@[go_sem] theorem elT_9 : elT Tryd.prog 9 = none := by kernel_rfl
@[go_sem] theorem hasT_10 : hasT Tryd.prog 10 = true := by kernel_rfl
@[go_sem] theorem conc_10 : Tryd.prog.concrete 10 = true := by kernel_rfl
@[go_sem] theorem isStr_10 : isStr Tryd.prog 10 = true := by kernel_rfl
@[go_sem] theorem isBoolT_10 : isBoolT Tryd.prog 10 = false := by kernel_rfl
@[go_sem] theorem ikT_10 : ikT Tryd.prog 10 = none := by kernel_rfl
@[go_sem] theorem isA_10 : isA Tryd.prog 10 = some false := by kernel_rfl
@[go_sem] theorem elT_10 : elT Tryd.prog 10 = none := by kernel_rfl
@[go_sem] theorem hasT_11 : hasT Tryd.prog 11 = true := by kernel_rfl
@[go_sem] theorem conc_11 : Tryd.prog.concrete 11 = true := by kernel_rfl
@[go_sem] theorem isStr_11 : isStr Tryd.prog 11 = true := by kernel_rfl
@[go_sem] theorem isBoolT_11 : isBoolT Tryd.prog 11 = false := by kernel_rfl
@[go_sem] theorem ikT_11 : ikT Tryd.prog 11 = none := by kernel_rfl
@[go_sem] theorem isA_11 : isA Tryd.prog 11 = some false := by kernel_rfl
@[go_sem] theorem elT_11 : elT Tryd.prog 11 = none := by kernel_rfl
@[go_sem] theorem hasT_12 : hasT Tryd.prog 12 = true := by kernel_rfl
@[go_sem] theorem conc_12 : Tryd.prog.concrete 12 = true := by kernel_rfl
@[go_sem] theorem isStr_12 : isStr Tryd.prog 12 = false := by kernel_rfl
@[go_sem] theorem isBoolT_12 : isBoolT Tryd.prog 12 = false := by kernel_rfl
@[go_sem] theorem ikT_12 : ikT Tryd.prog 12 = some .u64 := by kernel_rfl
@[go_sem] theorem isA_12 : isA Tryd.prog 12 = some false := by kernel_rfl
@[go_sem] theorem elT_12 : elT Tryd.prog 12 = none := by kernel_rfl
@[go_sem] theorem hasT_13 : hasT Tryd.prog 13 = true := by kernel_rfl
@[go_sem] theorem conc_13 : Tryd.prog.concrete 13 = true := by kernel_rfl
@[go_sem] theorem isStr_13 : isStr Tryd.prog 13 = false := by kernel_rfl
@[go_sem] theorem isBoolT_13 : isBoolT Tryd.prog 13 = false := by kernel_rfl
@[go_sem] theorem ikT_13 : ikT Tryd.prog 13 = none := by kernel_rfl
@[go_sem] theorem isA_13 : isA Tryd.prog 13 = some true := by kernel_rfl
@[go_sem] theorem elT_13 : elT Tryd.prog 13 = none := by kernel_rfl
@[go_sem] theorem hasT_14 : hasT Tryd.prog 14 = true := by kernel_rfl
@[go_sem] theorem conc_14 : Tryd.prog.concrete 14 = true := by kernel_rfl
@[go_sem] theorem isStr_14 : isStr Tryd.prog 14 = false := by kernel_rfl
@[go_sem] theorem isBoolT_14 : isBoolT Tryd.prog 14 = false := by kernel_rfl
@[go_sem] theorem ikT_14 : ikT Tryd.prog 14 = none := by kernel_rfl
@[go_sem] theorem isA_14 : isA Tryd.prog 14 = some true := by kernel_rfl
@[go_sem] theorem elT_14 : elT Tryd.prog 14 = none := by kernel_rfl
@[go_sem] theorem hasT_15 : hasT Tryd.prog 15 = true := by kernel_rfl
@[go_sem] theorem conc_15 : Tryd.prog.concrete 15 = true := by kernel_rfl
@[go_sem] theorem isStr_15 : isStr Tryd.prog 15 = false := by kernel_rfl
@[go_sem] theorem isBoolT_15 : isBoolT Tryd.prog 15 = false := by kernel_rfl
@[go_sem] theorem ikT_15 : ikT Tryd.prog 15 = none := by kernel_rfl
@[go_sem] theorem isA_15 : isA Tryd.prog 15 = some false := by kernel_rfl
@[go_sem] theorem elT_15 : elT Tryd.prog 15 = none := by kernel_rfl
@[go_sem] theorem hasT_16 : hasT Tryd.prog 16 = true := by kernel_rfl
@[go_sem] theorem conc_16 : Tryd.prog.concrete 16 = true := by kernel_rfl
@[go_sem] theorem isStr_16 : isStr Tryd.prog 16 = false := by kernel_rfl
@[go_sem] theorem isBoolT_16 : isBoolT Tryd.prog 16 = false := by kernel_rfl
@[go_sem] theorem ikT_16 : ikT Tryd.prog 16 = none := by kernel_rfl
@[go_sem] theorem isA_16 : isA Tryd.prog 16 = some false := by kernel_rfl
@[go_sem] theorem elT_16 : elT Tryd.prog 16 = none := by kernel_rfl
@[go_sem] theorem hasT_17 : hasT Tryd.prog 17 = true := by kernel_rfl
@[go_sem] theorem conc_17 : Tryd.prog.concrete 17 = true := by kernel_rfl
@[go_sem] theorem isStr_17 : isStr Tryd.prog 17 = false := by kernel_rfl
@[go_sem] theorem isBoolT_17 : isBoolT Tryd.prog 17 = false := by kernel_rfl
@[go_sem] theorem ikT_17 : ikT Tryd.prog 17 = none := by kernel_rfl
@[go_sem] theorem isA_17 : isA Tryd.prog 17 = some false := by kernel_rfl
@[go_sem] theorem elT_17 : elT Tryd.prog 17 = none := by kernel_rfl
@[go_sem] theorem hasT_18 : hasT Tryd.prog 18 = true := by kernel_rfl
@[go_sem] theorem conc_18 : Tryd.prog.concrete 18 = true := by kernel_rfl
@[go_sem] theorem isStr_18 : isStr Tryd.prog 18 = false := by kernel_rfl
@[go_sem] theorem isBoolT_18 : isBoolT Tryd.prog 18 = false := by kernel_rfl
@[go_sem] theorem ikT_18 : ikT Tryd.prog 18 = none := by kernel_rfl
@[go_sem] theorem isA_18 : isA Tryd.prog 18 = some true := by kernel_rfl
@[go_sem] theorem elT_18 : elT Tryd.prog 18 = none := by kernel_rfl
@[go_sem] theorem hasT_19 : hasT Tryd.prog 19 = true := by kernel_rfl
@[go_sem] theorem conc_19 : Tryd.prog.concrete 19 = true := by kernel_rfl
@[go_sem] theorem isStr_19 : isStr Tryd.prog 19 = false := by kernel_rfl
@[go_sem] theorem isBoolT_19 : isBoolT Tryd.prog 19 = false := by kernel_rfl
@[go_sem] theorem ikT_19 : ikT Tryd.prog 19 = none := by kernel_rfl
@[go_sem] theorem isA_19 : isA Tryd.prog 19 = some true := by kernel_rfl
@[go_sem] theorem elT_19 : elT Tryd.prog 19 = none := by kernel_rfl
@[go_sem] theorem isA_20 : isA Tryd.prog 20 = some false := by kernel_rfl
@[go_sem] theorem szT_20 : szT Tryd.prog 20 = some 1 := by kernel_rfl
@[go_sem] theorem hasT_21 : hasT Tryd.prog 21 = true := by kernel_rfl
@[go_sem] theorem conc_21 : Tryd.prog.concrete 21 = true := by kernel_rfl
@[go_sem] theorem isStr_21 : isStr Tryd.prog 21 = false := by kernel_rfl
@[go_sem] theorem isBoolT_21 : isBoolT Tryd.prog 21 = false := by kernel_rfl
@[go_sem] theorem ikT_21 : ikT Tryd.prog 21 = some .i32 := by kernel_rfl
@[go_sem] theorem isA_21 : isA Tryd.prog 21 = some false := by kernel_rfl
@[go_sem] theorem elT_21 : elT Tryd.prog 21 = none := by kernel_rfl
@[go_sem] theorem isA_22 : isA Tryd.prog 22 = some false := by kernel_rfl
@[go_sem] theorem szT_22 : szT Tryd.prog 22 = some 1 := by kernel_rfl
@[go_sem] theorem hasT_23 : hasT Tryd.prog 23 = true := by kernel_rfl
@[go_sem] theorem conc_23 : Tryd.prog.concrete 23 = true := by kernel_rfl
@[go_sem] theorem isStr_23 : isStr Tryd.prog 23 = false := by kernel_rfl
@[go_sem] theorem isBoolT_23 : isBoolT Tryd.prog 23 = false := by kernel_rfl
@[go_sem] theorem ikT_23 : ikT Tryd.prog 23 = some .i64 := by kernel_rfl
@[go_sem] theorem isA_23 : isA Tryd.prog 23 = some false := by kernel_rfl
@[go_sem] theorem elT_23 : elT Tryd.prog 23 = none := by kernel_rfl
@[go_sem] theorem isA_25 : isA Tryd.prog 25 = some false := by kernel_rfl
@[go_sem] theorem szT_25 : szT Tryd.prog 25 = some 1 := by kernel_rfl
@[go_sem] theorem isA_26 : isA Tryd.prog 26 = some false := by kernel_rfl
@[go_sem] theorem szT_26 : szT Tryd.prog 26 = some 1 := by kernel_rfl
@[go_sem] theorem isA_27 : isA Tryd.prog 27 = some false := by kernel_rfl
@[go_sem] theorem szT_27 : szT Tryd.prog 27 = some 1 := by kernel_rfl
@[go_sem] theorem isA_28 : isA Tryd.prog 28 = some false := by kernel_rfl
@[go_sem] theorem szT_28 : szT Tryd.prog 28 = some 1 := by kernel_rfl
@[go_sem] theorem hasT_29 : hasT Tryd.prog 29 = true := by kernel_rfl
@[go_sem] theorem conc_29 : Tryd.prog.concrete 29 = true := by kernel_rfl
@[go_sem] theorem isStr_29 : isStr Tryd.prog 29 = false := by kernel_rfl
@[go_sem] theorem isBoolT_29 : isBoolT Tryd.prog 29 = false := by kernel_rfl
@[go_sem] theorem ikT_29 : ikT Tryd.prog 29 = none := by kernel_rfl
@[go_sem] theorem isA_29 : isA Tryd.prog 29 = some false := by kernel_rfl
@[go_sem] theorem elT_29 : elT Tryd.prog 29 = some 5 := by kernel_rfl
@[go_sem] theorem isA_30 : isA Tryd.prog 30 = some false := by kernel_rfl
@[go_sem] theorem szT_30 : szT Tryd.prog 30 = some 1 := by kernel_rfl
@[go_sem] theorem isA_31 : isA Tryd.prog 31 = some false := by kernel_rfl
@[go_sem] theorem szT_31 : szT Tryd.prog 31 = some 1 := by kernel_rfl
@[go_sem] theorem isA_32 : isA Tryd.prog 32 = some false := by kernel_rfl
@[go_sem] theorem szT_32 : szT Tryd.prog 32 = some 1 := by kernel_rfl
@[go_sem] theorem isA_33 : isA Tryd.prog 33 = some false := by kernel_rfl
@[go_sem] theorem szT_33 : szT Tryd.prog 33 = some 1 := by kernel_rfl
@[go_sem] theorem isA_34 : isA Tryd.prog 34 = some false := by kernel_rfl
@[go_sem] theorem szT_34 : szT Tryd.prog 34 = some 1 := by kernel_rfl
@[go_sem] theorem isA_35 : isA Tryd.prog 35 = some false := by kernel_rfl
@[go_sem] theorem szT_35 : szT Tryd.prog 35 = some 1 := by kernel_rfl
@[go_sem] theorem isA_36 : isA Tryd.prog 36 = some false := by kernel_rfl
@[go_sem] theorem szT_36 : szT Tryd.prog 36 = some 1 := by kernel_rfl
@[go_sem] theorem isA_37 : isA Tryd.prog 37 = some false := by kernel_rfl
@[go_sem] theorem szT_37 : szT Tryd.prog 37 = some 1 := by kernel_rfl
@[go_sem] theorem isA_38 : isA Tryd.prog 38 = some false := by kernel_rfl
@[go_sem] theorem szT_38 : szT Tryd.prog 38 = some 1 := by kernel_rfl
@[go_sem] theorem isA_39 : isA Tryd.prog 39 = some false := by kernel_rfl
@[go_sem] theorem szT_39 : szT Tryd.prog 39 = some 1 := by kernel_rfl
@[go_sem] theorem isA_40 : isA Tryd.prog 40 = some false := by kernel_rfl
@[go_sem] theorem szT_40 : szT Tryd.prog 40 = some 1 := by kernel_rfl
@[go_sem] theorem hasT_41 : hasT Tryd.prog 41 = true := by kernel_rfl
@[go_sem] theorem conc_41 : Tryd.prog.concrete 41 = true := by kernel_rfl
@[go_sem] theorem isStr_41 : isStr Tryd.prog 41 = false := by kernel_rfl
@[go_sem] theorem isBoolT_41 : isBoolT Tryd.prog 41 = false := by kernel_rfl
@[go_sem] theorem ikT_41 : ikT Tryd.prog 41 = none := by kernel_rfl
@[go_sem] theorem isA_41 : isA Tryd.prog 41 = some true := by kernel_rfl
@[go_sem] theorem elT_41 : elT Tryd.prog 41 = none := by kernel_rfl
@[go_sem] theorem hasT_42 : hasT Tryd.prog 42 = true := by kernel_rfl
@[go_sem] theorem conc_42 : Tryd.prog.concrete 42 = true := by kernel_rfl
@[go_sem] theorem isStr_42 : isStr Tryd.prog 42 = false := by kernel_rfl
@[go_sem] theorem isBoolT_42 : isBoolT Tryd.prog 42 = false := by kernel_rfl
@[go_sem] theorem ikT_42 : ikT Tryd.prog 42 = none := by kernel_rfl
@[go_sem] theorem isA_42 : isA Tryd.prog 42 = some true := by kernel_rfl
@[go_sem] theorem elT_42 : elT Tryd.prog 42 = none := by kernel_rfl
@[go_sem] theorem isA_44 : isA Tryd.prog 44 = some false := by kernel_rfl
@[go_sem] theorem szT_44 : szT Tryd.prog 44 = some 1 := by kernel_rfl
@[go_sem] theorem isA_45 : isA Tryd.prog 45 = some false := by kernel_rfl
@[go_sem] theorem szT_45 : szT Tryd.prog 45 = some 1 := by kernel_rfl
@[go_sem] theorem hasT_46 : hasT Tryd.prog 46 = true := by kernel_rfl
@[go_sem] theorem conc_46 : Tryd.prog.concrete 46 = true := by kernel_rfl
@[go_sem] theorem isStr_46 : isStr Tryd.prog 46 = false := by kernel_rfl
@[go_sem] theorem isBoolT_46 : isBoolT Tryd.prog 46 = false := by kernel_rfl
@[go_sem] theorem ikT_46 : ikT Tryd.prog 46 = none := by kernel_rfl
@[go_sem] theorem isA_46 : isA Tryd.prog 46 = some false := by kernel_rfl
@[go_sem] theorem elT_46 : elT Tryd.prog 46 = none := by kernel_rfl
@[go_sem] theorem hasT_47 : hasT Tryd.prog 47 = true := by kernel_rfl
@[go_sem] theorem conc_47 : Tryd.prog.concrete 47 = true := by kernel_rfl
@[go_sem] theorem isStr_47 : isStr Tryd.prog 47 = false := by kernel_rfl
@[go_sem] theorem isBoolT_47 : isBoolT Tryd.prog 47 = false := by kernel_rfl
@[go_sem] theorem ikT_47 : ikT Tryd.prog 47 = none := by kernel_rfl
@[go_sem] theorem isA_47 : isA Tryd.prog 47 = some false := by kernel_rfl
@[go_sem] theorem elT_47 : elT Tryd.prog 47 = none := by kernel_rfl
@[go_sem] theorem hasT_48 : hasT Tryd.prog 48 = true := by kernel_rfl
@[go_sem] theorem conc_48 : Tryd.prog.concrete 48 = true := by kernel_rfl
@[go_sem] theorem isStr_48 : isStr Tryd.prog 48 = false := by kernel_rfl
@[go_sem] theorem isBoolT_48 : isBoolT Tryd.prog 48 = false := by kernel_rfl
@[go_sem] theorem ikT_48 : ikT Tryd.prog 48 = none := by kernel_rfl
@[go_sem] theorem isA_48 : isA Tryd.prog 48 = some true := by kernel_rfl
@[go_sem] theorem elT_48 : elT Tryd.prog 48 = none := by kernel_rfl
@[go_sem] theorem hasT_49 : hasT Tryd.prog 49 = true := by kernel_rfl
@[go_sem] theorem conc_49 : Tryd.prog.concrete 49 = true := by kernel_rfl
@[go_sem] theorem isStr_49 : isStr Tryd.prog 49 = false := by kernel_rfl
@[go_sem] theorem isBoolT_49 : isBoolT Tryd.prog 49 = false := by kernel_rfl
@[go_sem] theorem ikT_49 : ikT Tryd.prog 49 = none := by kernel_rfl
@[go_sem] theorem isA_49 : isA Tryd.prog 49 = some true := by kernel_rfl
@[go_sem] theorem elT_49 : elT Tryd.prog 49 = none := by kernel_rfl
@[go_sem] theorem isA_50 : isA Tryd.prog 50 = some false := by kernel_rfl
@[go_sem] theorem szT_50 : szT Tryd.prog 50 = some 1 := by kernel_rfl
@[go_sem] theorem isA_51 : isA Tryd.prog 51 = some false := by kernel_rfl
@[go_sem] theorem szT_51 : szT Tryd.prog 51 = some 1 := by kernel_rfl
@[go_sem] theorem isA_52 : isA Tryd.prog 52 = some false := by kernel_rfl
@[go_sem] theorem szT_52 : szT Tryd.prog 52 = some 1 := by kernel_rfl
@[go_sem] theorem isA_54 : isA Tryd.prog 54 = some false := by kernel_rfl
@[go_sem] theorem szT_54 : szT Tryd.prog 54 = some 1 := by kernel_rfl
@[go_sem] theorem isA_55 : isA Tryd.prog 55 = some false := by kernel_rfl
@[go_sem] theorem szT_55 : szT Tryd.prog 55 = some 1 := by kernel_rfl
@[go_sem] theorem isA_56 : isA Tryd.prog 56 = some false := by kernel_rfl
@[go_sem] theorem szT_56 : szT Tryd.prog 56 = some 1 := by kernel_rfl
@[go_sem] theorem isA_57 : isA Tryd.prog 57 = some false := by kernel_rfl
@[go_sem] theorem szT_57 : szT Tryd.prog 57 = some 1 := by kernel_rfl
@[go_sem] theorem isA_58 : isA Tryd.prog 58 = some false := by kernel_rfl
@[go_sem] theorem szT_58 : szT Tryd.prog 58 = some 1 := by kernel_rfl
@[go_sem] theorem isA_59 : isA Tryd.prog 59 = some false := by kernel_rfl
@[go_sem] theorem szT_59 : szT Tryd.prog 59 = some 1 := by kernel_rfl
@[go_sem] theorem isA_60 : isA Tryd.prog 60 = some false := by kernel_rfl
@[go_sem] theorem szT_60 : szT Tryd.prog 60 = some 1 := by kernel_rfl
@[go_sem] theorem isA_61 : isA Tryd.prog 61 = some false := by kernel_rfl
@[go_sem] theorem szT_61 : szT Tryd.prog 61 = some 1 := by kernel_rfl
@[go_sem] theorem hasT_62 : hasT Tryd.prog 62 = true := by kernel_rfl
@[go_sem] theorem conc_62 : Tryd.prog.concrete 62 = true := by kernel_rfl
@[go_sem] theorem isStr_62 : isStr Tryd.prog 62 = false := by kernel_rfl
@[go_sem] theorem isBoolT_62 : isBoolT Tryd.prog 62 = false := by kernel_rfl
@[go_sem] theorem ikT_62 : ikT Tryd.prog 62 = some .u64 := by kernel_rfl
@[go_sem] theorem isA_62 : isA Tryd.prog 62 = some false := by kernel_rfl
@[go_sem] theorem elT_62 : elT Tryd.prog 62 = none := by kernel_rfl
@[go_sem] theorem isA_63 : isA Tryd.prog 63 = some false := by kernel_rfl
@[go_sem] theorem szT_63 : szT Tryd.prog 63 = some 1 := by kernel_rfl
@[go_sem] theorem isA_64 : isA Tryd.prog 64 = some false := by kernel_rfl
@[go_sem] theorem szT_64 : szT Tryd.prog 64 = some 1 := by kernel_rfl
@[go_sem] theorem isA_66 : isA Tryd.prog 66 = some false := by kernel_rfl
@[go_sem] theorem szT_66 : szT Tryd.prog 66 = some 1 := by kernel_rfl
@[go_sem] theorem isA_67 : isA Tryd.prog 67 = some false := by kernel_rfl
@[go_sem] theorem szT_67 : szT Tryd.prog 67 = some 1 := by kernel_rfl
@[go_sem] theorem hasT_68 : hasT Tryd.prog 68 = true := by kernel_rfl
@[go_sem] theorem conc_68 : Tryd.prog.concrete 68 = true := by kernel_rfl
@[go_sem] theorem isStr_68 : isStr Tryd.prog 68 = false := by kernel_rfl
@[go_sem] theorem isBoolT_68 : isBoolT Tryd.prog 68 = false := by kernel_rfl
@[go_sem] theorem ikT_68 : ikT Tryd.prog 68 = none := by kernel_rfl
@[go_sem] theorem isA_68 : isA Tryd.prog 68 = some false := by kernel_rfl
@[go_sem] theorem elT_68 : elT Tryd.prog 68 = none := by kernel_rfl
@[go_sem] theorem isA_69 : isA Tryd.prog 69 = some false := by kernel_rfl
@[go_sem] theorem szT_69 : szT Tryd.prog 69 = some 1 := by kernel_rfl
@[go_sem] theorem isA_70 : isA Tryd.prog 70 = some false := by kernel_rfl
@[go_sem] theorem szT_70 : szT Tryd.prog 70 = some 1 := by kernel_rfl
@[go_sem] theorem isA_71 : isA Tryd.prog 71 = some false := by kernel_rfl
@[go_sem] theorem szT_71 : szT Tryd.prog 71 = some 1 := by kernel_rfl
@[go_sem] theorem isA_72 : isA Tryd.prog 72 = some false := by kernel_rfl
@[go_sem] theorem szT_72 : szT Tryd.prog 72 = some 1 := by kernel_rfl
@[go_sem] theorem isA_73 : isA Tryd.prog 73 = some false := by kernel_rfl
@[go_sem] theorem szT_73 : szT Tryd.prog 73 = some 1 := by kernel_rfl
@[go_sem] theorem hasT_74 : hasT Tryd.prog 74 = true := by kernel_rfl
@[go_sem] theorem conc_74 : Tryd.prog.concrete 74 = true := by kernel_rfl
@[go_sem] theorem isStr_74 : isStr Tryd.prog 74 = false := by kernel_rfl
@[go_sem] theorem isBoolT_74 : isBoolT Tryd.prog 74 = false := by kernel_rfl
@[go_sem] theorem ikT_74 : ikT Tryd.prog 74 = none := by kernel_rfl
@[go_sem] theorem isA_74 : isA Tryd.prog 74 = some true := by kernel_rfl
@[go_sem] theorem elT_74 : elT Tryd.prog 74 = none := by kernel_rfl
@[go_sem] theorem hasT_75 : hasT Tryd.prog 75 = true := by kernel_rfl
@[go_sem] theorem conc_75 : Tryd.prog.concrete 75 = true := by kernel_rfl
@[go_sem] theorem isStr_75 : isStr Tryd.prog 75 = false := by kernel_rfl
@[go_sem] theorem isBoolT_75 : isBoolT Tryd.prog 75 = false := by kernel_rfl
@[go_sem] theorem ikT_75 : ikT Tryd.prog 75 = some .u64 := by kernel_rfl
@[go_sem] theorem isA_75 : isA Tryd.prog 75 = some false := by kernel_rfl
@[go_sem] theorem elT_75 : elT Tryd.prog 75 = none := by kernel_rfl
@[go_sem] theorem isA_76 : isA Tryd.prog 76 = some false := by kernel_rfl
@[go_sem] theorem szT_76 : szT Tryd.prog 76 = some 1 := by kernel_rfl
@[go_sem] theorem isA_77 : isA Tryd.prog 77 = some false := by kernel_rfl
@[go_sem] theorem szT_77 : szT Tryd.prog 77 = some 1 := by kernel_rfl
@[go_sem] theorem isA_79 : isA Tryd.prog 79 = some false := by kernel_rfl
@[go_sem] theorem szT_79 : szT Tryd.prog 79 = some 1 := by kernel_rfl
@[go_sem] theorem hasT_80 : hasT Tryd.prog 80 = true := by kernel_rfl
@[go_sem] theorem conc_80 : Tryd.prog.concrete 80 = true := by kernel_rfl
@[go_sem] theorem isStr_80 : isStr Tryd.prog 80 = false := by kernel_rfl
@[go_sem] theorem isBoolT_80 : isBoolT Tryd.prog 80 = false := by kernel_rfl
@[go_sem] theorem ikT_80 : ikT Tryd.prog 80 = none := by kernel_rfl
@[go_sem] theorem isA_80 : isA Tryd.prog 80 = some false := by kernel_rfl
@[go_sem] theorem elT_80 : elT Tryd.prog 80 = none := by kernel_rfl
@[go_sem] theorem isA_81 : isA Tryd.prog 81 = some false := by kernel_rfl
@[go_sem] theorem szT_81 : szT Tryd.prog 81 = some 1 := by kernel_rfl
@[go_sem] theorem isA_82 : isA Tryd.prog 82 = some false := by kernel_rfl
@[go_sem] theorem szT_82 : szT Tryd.prog 82 = some 1 := by kernel_rfl
@[go_sem] theorem isA_83 : isA Tryd.prog 83 = some false := by kernel_rfl
@[go_sem] theorem szT_83 : szT Tryd.prog 83 = some 1 := by kernel_rfl
@[go_sem] theorem isA_85 : isA Tryd.prog 85 = some false := by kernel_rfl
@[go_sem] theorem szT_85 : szT Tryd.prog 85 = some 1 := by kernel_rfl
@[go_sem] theorem hasT_86 : hasT Tryd.prog 86 = true := by kernel_rfl
@[go_sem] theorem conc_86 : Tryd.prog.concrete 86 = true := by kernel_rfl
@[go_sem] theorem isStr_86 : isStr Tryd.prog 86 = false := by kernel_rfl
@[go_sem] theorem isBoolT_86 : isBoolT Tryd.prog 86 = false := by kernel_rfl
@[go_sem] theorem ikT_86 : ikT Tryd.prog 86 = none := by kernel_rfl
@[go_sem] theorem isA_86 : isA Tryd.prog 86 = some false := by kernel_rfl
@[go_sem] theorem elT_86 : elT Tryd.prog 86 = some 104 := by kernel_rfl
@[go_sem] theorem isA_87 : isA Tryd.prog 87 = some false := by kernel_rfl
@[go_sem] theorem szT_87 : szT Tryd.prog 87 = some 1 := by kernel_rfl
@[go_sem] theorem hasT_88 : hasT Tryd.prog 88 = true := by kernel_rfl
@[go_sem] theorem conc_88 : Tryd.prog.concrete 88 = true := by kernel_rfl
@[go_sem] theorem isStr_88 : isStr Tryd.prog 88 = false := by kernel_rfl
@[go_sem] theorem isBoolT_88 : isBoolT Tryd.prog 88 = false := by kernel_rfl
@[go_sem] theorem ikT_88 : ikT Tryd.prog 88 = none := by kernel_rfl
@[go_sem] theorem isA_88 : isA Tryd.prog 88 = some true := by kernel_rfl
@[go_sem] theorem elT_88 : elT Tryd.prog 88 = none := by kernel_rfl
@[go_sem] theorem hasT_89 : hasT Tryd.prog 89 = true := by kernel_rfl
@[go_sem] theorem conc_89 : Tryd.prog.concrete 89 = true := by kernel_rfl
@[go_sem] theorem isStr_89 : isStr Tryd.prog 89 = false := by kernel_rfl
@[go_sem] theorem isBoolT_89 : isBoolT Tryd.prog 89 = false := by kernel_rfl
@[go_sem] theorem ikT_89 : ikT Tryd.prog 89 = some .u32 := by kernel_rfl
@[go_sem] theorem isA_89 : isA Tryd.prog 89 = some false := by kernel_rfl
@[go_sem] theorem elT_89 : elT Tryd.prog 89 = none := by kernel_rfl
@[go_sem] theorem hasT_90 : hasT Tryd.prog 90 = true := by kernel_rfl
@[go_sem] theorem conc_90 : Tryd.prog.concrete 90 = true := by kernel_rfl
@[go_sem] theorem isStr_90 : isStr Tryd.prog 90 = false := by kernel_rfl
@[go_sem] theorem isBoolT_90 : isBoolT Tryd.prog 90 = false := by kernel_rfl
@[go_sem] theorem ikT_90 : ikT Tryd.prog 90 = none := by kernel_rfl
@[go_sem] theorem isA_90 : isA Tryd.prog 90 = some true := by kernel_rfl
@[go_sem] theorem elT_90 : elT Tryd.prog 90 = none := by kernel_rfl
@[go_sem] theorem isA_91 : isA Tryd.prog 91 = some false := by kernel_rfl
@[go_sem] theorem szT_91 : szT Tryd.prog 91 = some 1 := by kernel_rfl
@[go_sem] theorem isA_92 : isA Tryd.prog 92 = some false := by kernel_rfl
@[go_sem] theorem szT_92 : szT Tryd.prog 92 = some 1 := by kernel_rfl
@[go_sem] theorem hasT_93 : hasT Tryd.prog 93 = true := by kernel_rfl
@[go_sem] theorem conc_93 : Tryd.prog.concrete 93 = true := by kernel_rfl
@[go_sem] theorem isStr_93 : isStr Tryd.prog 93 = false := by kernel_rfl
@[go_sem] theorem isBoolT_93 : isBoolT Tryd.prog 93 = false := by kernel_rfl
@[go_sem] theorem ikT_93 : ikT Tryd.prog 93 = none := by kernel_rfl
@[go_sem] theorem isA_93 : isA Tryd.prog 93 = some true := by kernel_rfl
@[go_sem] theorem elT_93 : elT Tryd.prog 93 = none := by kernel_rfl
@[go_sem] theorem hasT_94 : hasT Tryd.prog 94 = true := by kernel_rfl
@[go_sem] theorem conc_94 : Tryd.prog.concrete 94 = true := by kernel_rfl
@[go_sem] theorem isStr_94 : isStr Tryd.prog 94 = false := by kernel_rfl
@[go_sem] theorem isBoolT_94 : isBoolT Tryd.prog 94 = false := by kernel_rfl
@[go_sem] theorem ikT_94 : ikT Tryd.prog 94 = none := by kernel_rfl
@[go_sem] theorem isA_94 : isA Tryd.prog 94 = some true := by kernel_rfl
@[go_sem] theorem elT_94 : elT Tryd.prog 94 = none := by kernel_rfl
@[go_sem] theorem hasT_95 : hasT Tryd.prog 95 = true := by kernel_rfl
@[go_sem] theorem conc_95 : Tryd.prog.concrete 95 = true := by kernel_rfl
@[go_sem] theorem isStr_95 : isStr Tryd.prog 95 = false := by kernel_rfl
@[go_sem] theorem isBoolT_95 : isBoolT Tryd.prog 95 = false := by kernel_rfl
@[go_sem] theorem ikT_95 : ikT Tryd.prog 95 = none := by kernel_rfl
@[go_sem] theorem isA_95 : isA Tryd.prog 95 = some true := by kernel_rfl
@[go_sem] theorem elT_95 : elT Tryd.prog 95 = none := by kernel_rfl
@[go_sem] theorem hasT_96 : hasT Tryd.prog 96 = true := by kernel_rfl
@[go_sem] theorem conc_96 : Tryd.prog.concrete 96 = true := by kernel_rfl
@[go_sem] theorem isStr_96 : isStr Tryd.prog 96 = false := by kernel_rfl
@[go_sem] theorem isBoolT_96 : isBoolT Tryd.prog 96 = false := by kernel_rfl
@[go_sem] theorem ikT_96 : ikT Tryd.prog 96 = none := by kernel_rfl
@[go_sem] theorem isA_96 : isA Tryd.prog 96 = some true := by kernel_rfl
@[go_sem] theorem elT_96 : elT Tryd.prog 96 = none := by kernel_rfl
@[go_sem] theorem hasT_97 : hasT Tryd.prog 97 = true := by kernel_rfl
@[go_sem] theorem conc_97 : Tryd.prog.concrete 97 = true := by kernel_rfl
@[go_sem] theorem isStr_97 : isStr Tryd.prog 97 = false := by kernel_rfl
@[go_sem] theorem isBoolT_97 : isBoolT Tryd.prog 97 = false := by kernel_rfl
@[go_sem] theorem ikT_97 : ikT Tryd.prog 97 = none := by kernel_rfl
@[go_sem] theorem isA_97 : isA Tryd.prog 97 = some false := by kernel_rfl
@[go_sem] theorem elT_97 : elT Tryd.prog 97 = none := by kernel_rfl
@[go_sem] theorem isA_98 : isA Tryd.prog 98 = some false := by kernel_rfl
@[go_sem] theorem szT_98 : szT Tryd.prog 98 = some 1 := by kernel_rfl
@[go_sem] theorem isA_99 : isA Tryd.prog 99 = some false := by kernel_rfl
@[go_sem] theorem szT_99 : szT Tryd.prog 99 = some 1 := by kernel_rfl
@[go_sem] theorem isA_100 : isA Tryd.prog 100 = some false := by kernel_rfl
@[go_sem] theorem szT_100 : szT Tryd.prog 100 = some 1 := by kernel_rfl
@[go_sem] theorem hasT_101 : hasT Tryd.prog 101 = true := by kernel_rfl
@[go_sem] theorem conc_101 : Tryd.prog.concrete 101 = true := by kernel_rfl
@[go_sem] theorem isStr_101 : isStr Tryd.prog 101 = false := by kernel_rfl
@[go_sem] theorem isBoolT_101 : isBoolT Tryd.prog 101 = false := by kernel_rfl
@[go_sem] theorem ikT_101 : ikT Tryd.prog 101 = none := by kernel_rfl
@[go_sem] theorem isA_101 : isA Tryd.prog 101 = some true := by kernel_rfl
@[go_sem] theorem elT_101 : elT Tryd.prog 101 = none := by kernel_rfl
@[go_sem] theorem hasT_102 : hasT Tryd.prog 102 = true := by kernel_rfl
@[go_sem] theorem conc_102 : Tryd.prog.concrete 102 = true := by kernel_rfl
@[go_sem] theorem isStr_102 : isStr Tryd.prog 102 = false := by kernel_rfl
@[go_sem] theorem isBoolT_102 : isBoolT Tryd.prog 102 = false := by kernel_rfl
@[go_sem] theorem ikT_102 : ikT Tryd.prog 102 = none := by kernel_rfl
@[go_sem] theorem isA_102 : isA Tryd.prog 102 = some true := by kernel_rfl
@[go_sem] theorem elT_102 : elT Tryd.prog 102 = none := by kernel_rfl
@[go_sem] theorem hasT_103 : hasT Tryd.prog 103 = true := by kernel_rfl
@[go_sem] theorem conc_103 : Tryd.prog.concrete 103 = true := by kernel_rfl
@[go_sem] theorem isStr_103 : isStr Tryd.prog 103 = false := by kernel_rfl
@[go_sem] theorem isBoolT_103 : isBoolT Tryd.prog 103 = false := by kernel_rfl
@[go_sem] theorem ikT_103 : ikT Tryd.prog 103 = none := by kernel_rfl
@[go_sem] theorem isA_103 : isA Tryd.prog 103 = some true := by kernel_rfl
@[go_sem] theorem elT_103 : elT Tryd.prog 103 = none := by kernel_rfl
@[go_sem] theorem hasT_104 : hasT Tryd.prog 104 = true := by kernel_rfl
@[go_sem] theorem conc_104 : Tryd.prog.concrete 104 = true := by kernel_rfl
@[go_sem] theorem isStr_104 : isStr Tryd.prog 104 = false := by kernel_rfl
@[go_sem] theorem isBoolT_104 : isBoolT Tryd.prog 104 = false := by kernel_rfl
@[go_sem] theorem ikT_104 : ikT Tryd.prog 104 = none := by kernel_rfl
@[go_sem] theorem isA_104 : isA Tryd.prog 104 = some true := by kernel_rfl
@[go_sem] theorem elT_104 : elT Tryd.prog 104 = none := by kernel_rfl
@[go_sem] theorem hasT_105 : hasT Tryd.prog 105 = true := by kernel_rfl
@[go_sem] theorem conc_105 : Tryd.prog.concrete 105 = true := by kernel_rfl
@[go_sem] theorem isStr_105 : isStr Tryd.prog 105 = false := by kernel_rfl
@[go_sem] theorem isBoolT_105 : isBoolT Tryd.prog 105 = false := by kernel_rfl
@[go_sem] theorem ikT_105 : ikT Tryd.prog 105 = none := by kernel_rfl
@[go_sem] theorem isA_105 : isA Tryd.prog 105 = some true := by kernel_rfl
@[go_sem] theorem elT_105 : elT Tryd.prog 105 = none := by kernel_rfl
@[go_sem] theorem hasT_106 : hasT Tryd.prog 106 = true := by kernel_rfl
@[go_sem] theorem conc_106 : Tryd.prog.concrete 106 = true := by kernel_rfl
@[go_sem] theorem isStr_106 : isStr Tryd.prog 106 = false := by kernel_rfl
@[go_sem] theorem isBoolT_106 : isBoolT Tryd.prog 106 = false := by kernel_rfl
@[go_sem] theorem ikT_106 : ikT Tryd.prog 106 = none := by kernel_rfl
@[go_sem] theorem isA_106 : isA Tryd.prog 106 = some true := by kernel_rfl
@[go_sem] theorem elT_106 : elT Tryd.prog 106 = none := by kernel_rfl
@[go_sem] theorem hasT_107 : hasT Tryd.prog 107 = true := by kernel_rfl
@[go_sem] theorem conc_107 : Tryd.prog.concrete 107 = true := by kernel_rfl
@[go_sem] theorem isStr_107 : isStr Tryd.prog 107 = false := by kernel_rfl
@[go_sem] theorem isBoolT_107 : isBoolT Tryd.prog 107 = false := by kernel_rfl
@[go_sem] theorem ikT_107 : ikT Tryd.prog 107 = none := by kernel_rfl
@[go_sem] theorem isA_107 : isA Tryd.prog 107 = some true := by kernel_rfl
@[go_sem] theorem elT_107 : elT Tryd.prog 107 = none := by kernel_rfl
@[go_sem] theorem hasT_108 : hasT Tryd.prog 108 = true := by kernel_rfl
@[go_sem] theorem conc_108 : Tryd.prog.concrete 108 = true := by kernel_rfl
@[go_sem] theorem isStr_108 : isStr Tryd.prog 108 = false := by kernel_rfl
@[go_sem] theorem isBoolT_108 : isBoolT Tryd.prog 108 = false := by kernel_rfl
@[go_sem] theorem ikT_108 : ikT Tryd.prog 108 = none := by kernel_rfl
@[go_sem] theorem isA_108 : isA Tryd.prog 108 = some true := by kernel_rfl
@[go_sem] theorem elT_108 : elT Tryd.prog 108 = none := by kernel_rfl
@[go_sem] theorem hasT_109 : hasT Tryd.prog 109 = true := by kernel_rfl
@[go_sem] theorem conc_109 : Tryd.prog.concrete 109 = true := by kernel_rfl
@[go_sem] theorem isStr_109 : isStr Tryd.prog 109 = false := by kernel_rfl
@[go_sem] theorem isBoolT_109 : isBoolT Tryd.prog 109 = false := by kernel_rfl
@[go_sem] theorem ikT_109 : ikT Tryd.prog 109 = none := by kernel_rfl
@[go_sem] theorem isA_109 : isA Tryd.prog 109 = some true := by kernel_rfl
@[go_sem] theorem elT_109 : elT Tryd.prog 109 = none := by kernel_rfl
@[go_sem] theorem hasT_110 : hasT Tryd.prog 110 = true := by kernel_rfl
@[go_sem] theorem conc_110 : Tryd.prog.concrete 110 = true := by kernel_rfl
@[go_sem] theorem isStr_110 : isStr Tryd.prog 110 = false := by kernel_rfl
@[go_sem] theorem isBoolT_110 : isBoolT Tryd.prog 110 = false := by kernel_rfl
@[go_sem] theorem ikT_110 : ikT Tryd.prog 110 = none := by kernel_rfl
@[go_sem] theorem isA_110 : isA Tryd.prog 110 = some true := by kernel_rfl
@[go_sem] theorem elT_110 : elT Tryd.prog 110 = none := by kernel_rfl
@[go_sem] theorem hasT_111 : hasT Tryd.prog 111 = true := by kernel_rfl
@[go_sem] theorem conc_111 : Tryd.prog.concrete 111 = true := by kernel_rfl
@[go_sem] theorem isStr_111 : isStr Tryd.prog 111 = false := by kernel_rfl
@[go_sem] theorem isBoolT_111 : isBoolT Tryd.prog 111 = false := by kernel_rfl
@[go_sem] theorem ikT_111 : ikT Tryd.prog 111 = none := by kernel_rfl
@[go_sem] theorem isA_111 : isA Tryd.prog 111 = some true := by kernel_rfl
@[go_sem] theorem elT_111 : elT Tryd.prog 111 = none := by kernel_rfl
@[go_sem] theorem hasT_112 : hasT Tryd.prog 112 = true := by kernel_rfl
@[go_sem] theorem conc_112 : Tryd.prog.concrete 112 = true := by kernel_rfl
@[go_sem] theorem isStr_112 : isStr Tryd.prog 112 = false := by kernel_rfl
@[go_sem] theorem isBoolT_112 : isBoolT Tryd.prog 112 = false := by kernel_rfl
@[go_sem] theorem ikT_112 : ikT Tryd.prog 112 = some .u8 := by kernel_rfl
@[go_sem] theorem isA_112 : isA Tryd.prog 112 = some false := by kernel_rfl
@[go_sem] theorem elT_112 : elT Tryd.prog 112 = none := by kernel_rfl
@[go_sem] theorem hasT_113 : hasT Tryd.prog 113 = true := by kernel_rfl
@[go_sem] theorem conc_113 : Tryd.prog.concrete 113 = true := by kernel_rfl
@[go_sem] theorem isStr_113 : isStr Tryd.prog 113 = false := by kernel_rfl
@[go_sem] theorem isBoolT_113 : isBoolT Tryd.prog 113 = false := by kernel_rfl
@[go_sem] theorem ikT_113 : ikT Tryd.prog 113 = some .u8 := by kernel_rfl
@[go_sem] theorem isA_113 : isA Tryd.prog 113 = some false := by kernel_rfl
@[go_sem] theorem elT_113 : elT Tryd.prog 113 = none := by kernel_rfl
@[go_sem] theorem isA_114 : isA Tryd.prog 114 = some false := by kernel_rfl
@[go_sem] theorem szT_114 : szT Tryd.prog 114 = some 1 := by kernel_rfl
@[go_sem] theorem hasT_115 : hasT Tryd.prog 115 = true := by kernel_rfl
@[go_sem] theorem conc_115 : Tryd.prog.concrete 115 = true := by kernel_rfl
@[go_sem] theorem isStr_115 : isStr Tryd.prog 115 = false := by kernel_rfl
@[go_sem] theorem isBoolT_115 : isBoolT Tryd.prog 115 = false := by kernel_rfl
@[go_sem] theorem ikT_115 : ikT Tryd.prog 115 = some .i32 := by kernel_rfl
@[go_sem] theorem isA_115 : isA Tryd.prog 115 = some false := by kernel_rfl
@[go_sem] theorem elT_115 : elT Tryd.prog 115 = none := by kernel_rfl
@[go_sem] theorem hasT_116 : hasT Tryd.prog 116 = true := by kernel_rfl
@[go_sem] theorem conc_116 : Tryd.prog.concrete 116 = true := by kernel_rfl
@[go_sem] theorem isStr_116 : isStr Tryd.prog 116 = false := by kernel_rfl
@[go_sem] theorem isBoolT_116 : isBoolT Tryd.prog 116 = false := by kernel_rfl
@[go_sem] theorem ikT_116 : ikT Tryd.prog 116 = some .i32 := by kernel_rfl
@[go_sem] theorem isA_116 : isA Tryd.prog 116 = some false := by kernel_rfl
@[go_sem] theorem elT_116 : elT Tryd.prog 116 = none := by kernel_rfl
@[go_sem] theorem hasT_117 : hasT Tryd.prog 117 = true := by kernel_rfl
@[go_sem] theorem conc_117 : Tryd.prog.concrete 117 = true := by kernel_rfl
@[go_sem] theorem isStr_117 : isStr Tryd.prog 117 = false := by kernel_rfl
@[go_sem] theorem isBoolT_117 : isBoolT Tryd.prog 117 = false := by kernel_rfl
@[go_sem] theorem ikT_117 : ikT Tryd.prog 117 = none := by kernel_rfl
@[go_sem] theorem isA_117 : isA Tryd.prog 117 = some true := by kernel_rfl
@[go_sem] theorem elT_117 : elT Tryd.prog 117 = none := by kernel_rfl
@[go_sem] theorem hasT_118 : hasT Tryd.prog 118 = true := by kernel_rfl
@[go_sem] theorem conc_118 : Tryd.prog.concrete 118 = true := by kernel_rfl
@[go_sem] theorem isStr_118 : isStr Tryd.prog 118 = false := by kernel_rfl
@[go_sem] theorem isBoolT_118 : isBoolT Tryd.prog 118 = false := by kernel_rfl
@[go_sem] theorem ikT_118 : ikT Tryd.prog 118 = none := by kernel_rfl
@[go_sem] theorem isA_118 : isA Tryd.prog 118 = some true := by kernel_rfl
@[go_sem] theorem elT_118 : elT Tryd.prog 118 = none := by kernel_rfl
@[go_sem] theorem szT_2 : szT Tryd.prog 2 = some 1 := by kernel_rfl
@[go_sem] theorem szT_3 : szT Tryd.prog 3 = some 1 := by kernel_rfl
@[go_sem] theorem szT_4 : szT Tryd.prog 4 = some 1 := by kernel_rfl
@[go_sem] theorem szT_5 : szT Tryd.prog 5 = some 1 := by kernel_rfl
@[go_sem] theorem szT_6 : szT Tryd.prog 6 = some 1 := by kernel_rfl
@[go_sem] theorem szT_7 : szT Tryd.prog 7 = some 4 := by kernel_rfl
@[go_sem] theorem arrE_7 : arrE Tryd.prog 7 = none := by kernel_rfl
@[go_sem] theorem isStruct_7 : isStruct Tryd.prog 7 = true := by kernel_rfl
@[go_sem] theorem fldI_7_0 : fldI Tryd.prog 7 0 = some (0, 2) := by kernel_rfl
@[go_sem] theorem fldI_7_1 : fldI Tryd.prog 7 1 = some (1, 3) := by kernel_rfl
@[go_sem] theorem fldI_7_2 : fldI Tryd.prog 7 2 = some (2, 4) := by kernel_rfl
@[go_sem] theorem fldI_7_3 : fldI Tryd.prog 7 3 = some (3, 6) := by kernel_rfl
@[go_sem] theorem szT_8 : szT Tryd.prog 8 = some 4 := by kernel_rfl
@[go_sem] theorem arrE_8 : arrE Tryd.prog 8 = none := by kernel_rfl
@[go_sem] theorem isStruct_8 : isStruct Tryd.prog 8 = true := by kernel_rfl
@[go_sem] theorem fldI_8_0 : fldI Tryd.prog 8 0 = some (0, 2) := by kernel_rfl
@[go_sem] theorem fldI_8_1 : fldI Tryd.prog 8 1 = some (1, 3) := by kernel_rfl
@[go_sem] theorem fldI_8_2 : fldI Tryd.prog 8 2 = some (2, 4) := by kernel_rfl
@[go_sem] theorem fldI_8_3 : fldI Tryd.prog 8 3 = some (3, 6) := by kernel_rfl
@[go_sem] theorem szT_9 : szT Tryd.prog 9 = some 1 := by kernel_rfl
@[go_sem] theorem szT_10 : szT Tryd.prog 10 = some 1 := by kernel_rfl
@[go_sem] theorem szT_11 : szT Tryd.prog 11 = some 1 := by kernel_rfl
@[go_sem] theorem szT_12 : szT Tryd.prog 12 = some 1 := by kernel_rfl
@[go_sem] theorem szT_13 : szT Tryd.prog 13 = some 2 := by kernel_rfl
@[go_sem] theorem arrE_13 : arrE Tryd.prog 13 = none := by kernel_rfl
@[go_sem] theorem isStruct_13 : isStruct Tryd.prog 13 = true := by kernel_rfl
@[go_sem] theorem fldI_13_0 : fldI Tryd.prog 13 0 = some (0, 9) := by kernel_rfl
@[go_sem] theorem fldI_13_1 : fldI Tryd.prog 13 1 = some (1, 12) := by kernel_rfl
@[go_sem] theorem szT_14 : szT Tryd.prog 14 = some 2 := by kernel_rfl
@[go_sem] theorem arrE_14 : arrE Tryd.prog 14 = none := by kernel_rfl
@[go_sem] theorem isStruct_14 : isStruct Tryd.prog 14 = true := by kernel_rfl
@[go_sem] theorem fldI_14_0 : fldI Tryd.prog 14 0 = some (0, 9) := by kernel_rfl
@[go_sem] theorem fldI_14_1 : fldI Tryd.prog 14 1 = some (1, 12) := by kernel_rfl
@[go_sem] theorem szT_15 : szT Tryd.prog 15 = some 1 := by kernel_rfl
@[go_sem] theorem szT_16 : szT Tryd.prog 16 = some 1 := by kernel_rfl
@[go_sem] theorem szT_17 : szT Tryd.prog 17 = some 1 := by kernel_rfl
@[go_sem] theorem szT_18 : szT Tryd.prog 18 = some 1 := by kernel_rfl
@[go_sem] theorem arrE_18 : arrE Tryd.prog 18 = none := by kernel_rfl
@[go_sem] theorem isStruct_18 : isStruct Tryd.prog 18 = true := by kernel_rfl
@[go_sem] theorem fldI_18_0 : fldI Tryd.prog 18 0 = some (0, 17) := by kernel_rfl
@[go_sem] theorem szT_19 : szT Tryd.prog 19 = some 1 := by kernel_rfl
@[go_sem] theorem arrE_19 : arrE Tryd.prog 19 = none := by kernel_rfl
@[go_sem] theorem isStruct_19 : isStruct Tryd.prog 19 = true := by kernel_rfl
@[go_sem] theorem fldI_19_0 : fldI Tryd.prog 19 0 = some (0, 17) := by kernel_rfl
@[go_sem] theorem szT_21 : szT Tryd.prog 21 = some 1 := by kernel_rfl
@[go_sem] theorem szT_23 : szT Tryd.prog 23 = some 1 := by kernel_rfl
@[go_sem] theorem szT_29 : szT Tryd.prog 29 = some 1 := by kernel_rfl
@[go_sem] theorem szE_29 : szE Tryd.prog 29 = some 1 := by kernel_rfl
@[go_sem] theorem szT_41 : szT Tryd.prog 41 = some 256 := by kernel_rfl
@[go_sem] theorem arN_41 : arN Tryd.prog 41 = some 256 := by kernel_rfl
@[go_sem] theorem arrE_41 : arrE Tryd.prog 41 = some 1 := by kernel_rfl
@[go_sem] theorem szT_42 : szT Tryd.prog 42 = some 256 := by kernel_rfl
@[go_sem] theorem arN_42 : arN Tryd.prog 42 = some 256 := by kernel_rfl
@[go_sem] theorem arrE_42 : arrE Tryd.prog 42 = some 1 := by kernel_rfl
@[go_sem] theorem szT_46 : szT Tryd.prog 46 = some 1 := by kernel_rfl
@[go_sem] theorem szT_47 : szT Tryd.prog 47 = some 1 := by kernel_rfl
@[go_sem] theorem szT_48 : szT Tryd.prog 48 = some 2 := by kernel_rfl
@[go_sem] theorem arrE_48 : arrE Tryd.prog 48 = none := by kernel_rfl
@[go_sem] theorem isStruct_48 : isStruct Tryd.prog 48 = true := by kernel_rfl
@[go_sem] theorem fldI_48_0 : fldI Tryd.prog 48 0 = some (0, 47) := by kernel_rfl
@[go_sem] theorem fldI_48_1 : fldI Tryd.prog 48 1 = some (1, 29) := by kernel_rfl
@[go_sem] theorem szT_49 : szT Tryd.prog 49 = some 2 := by kernel_rfl
@[go_sem] theorem arrE_49 : arrE Tryd.prog 49 = none := by kernel_rfl
@[go_sem] theorem isStruct_49 : isStruct Tryd.prog 49 = true := by kernel_rfl
@[go_sem] theorem fldI_49_0 : fldI Tryd.prog 49 0 = some (0, 47) := by kernel_rfl
@[go_sem] theorem fldI_49_1 : fldI Tryd.prog 49 1 = some (1, 29) := by kernel_rfl
@[go_sem] theorem szT_62 : szT Tryd.prog 62 = some 1 := by kernel_rfl
@[go_sem] theorem szT_68 : szT Tryd.prog 68 = some 1 := by kernel_rfl
@[go_sem] theorem szT_74 : szT Tryd.prog 74 = some 24 := by kernel_rfl
@[go_sem] theorem arN_74 : arN Tryd.prog 74 = some 24 := by kernel_rfl
@[go_sem] theorem arrE_74 : arrE Tryd.prog 74 = some 1 := by kernel_rfl
@[go_sem] theorem szT_75 : szT Tryd.prog 75 = some 1 := by kernel_rfl
@[go_sem] theorem szT_80 : szT Tryd.prog 80 = some 1 := by kernel_rfl
@[go_sem] theorem szT_86 : szT Tryd.prog 86 = some 1 := by kernel_rfl
@[go_sem] theorem szE_86 : szE Tryd.prog 86 = some 5 := by kernel_rfl
@[go_sem] theorem szT_88 : szT Tryd.prog 88 = some 20 := by kernel_rfl
@[go_sem] theorem arN_88 : arN Tryd.prog 88 = some 20 := by kernel_rfl
@[go_sem] theorem arrE_88 : arrE Tryd.prog 88 = some 1 := by kernel_rfl
@[go_sem] theorem szT_89 : szT Tryd.prog 89 = some 1 := by kernel_rfl
@[go_sem] theorem szT_90 : szT Tryd.prog 90 = some 65 := by kernel_rfl
@[go_sem] theorem arN_90 : arN Tryd.prog 90 = some 65 := by kernel_rfl
@[go_sem] theorem arrE_90 : arrE Tryd.prog 90 = some 1 := by kernel_rfl
@[go_sem] theorem szT_93 : szT Tryd.prog 93 = some 256 := by kernel_rfl
@[go_sem] theorem arN_93 : arN Tryd.prog 93 = some 256 := by kernel_rfl
@[go_sem] theorem arrE_93 : arrE Tryd.prog 93 = some 1 := by kernel_rfl
@[go_sem] theorem szT_94 : szT Tryd.prog 94 = some 2 := by kernel_rfl
@[go_sem] theorem arrE_94 : arrE Tryd.prog 94 = none := by kernel_rfl
@[go_sem] theorem isStruct_94 : isStruct Tryd.prog 94 = true := by kernel_rfl
@[go_sem] theorem fldI_94_0 : fldI Tryd.prog 94 0 = some (0, 5) := by kernel_rfl
@[go_sem] theorem fldI_94_1 : fldI Tryd.prog 94 1 = some (1, 5) := by kernel_rfl
@[go_sem] theorem szT_95 : szT Tryd.prog 95 = some 2 := by kernel_rfl
@[go_sem] theorem arrE_95 : arrE Tryd.prog 95 = none := by kernel_rfl
@[go_sem] theorem isStruct_95 : isStruct Tryd.prog 95 = true := by kernel_rfl
@[go_sem] theorem fldI_95_0 : fldI Tryd.prog 95 0 = some (0, 5) := by kernel_rfl
@[go_sem] theorem fldI_95_1 : fldI Tryd.prog 95 1 = some (1, 5) := by kernel_rfl
@[go_sem] theorem szT_96 : szT Tryd.prog 96 = some 32 := by kernel_rfl
@[go_sem] theorem arrE_96 : arrE Tryd.prog 96 = some 2 := by kernel_rfl
@[go_sem] theorem szT_97 : szT Tryd.prog 97 = some 1 := by kernel_rfl
@[go_sem] theorem szT_101 : szT Tryd.prog 101 = some 3 := by kernel_rfl
@[go_sem] theorem arN_101 : arN Tryd.prog 101 = some 3 := by kernel_rfl
@[go_sem] theorem arrE_101 : arrE Tryd.prog 101 = some 1 := by kernel_rfl
@[go_sem] theorem szT_102 : szT Tryd.prog 102 = some 3 := by kernel_rfl
@[go_sem] theorem arN_102 : arN Tryd.prog 102 = some 3 := by kernel_rfl
@[go_sem] theorem arrE_102 : arrE Tryd.prog 102 = some 1 := by kernel_rfl
@[go_sem] theorem szT_103 : szT Tryd.prog 103 = some 5 := by kernel_rfl
@[go_sem] theorem arrE_103 : arrE Tryd.prog 103 = none := by kernel_rfl
@[go_sem] theorem isStruct_103 : isStruct Tryd.prog 103 = true := by kernel_rfl
@[go_sem] theorem fldI_103_0 : fldI Tryd.prog 103 0 = some (0, 89) := by kernel_rfl
@[go_sem] theorem fldI_103_1 : fldI Tryd.prog 103 1 = some (1, 89) := by kernel_rfl
@[go_sem] theorem fldI_103_2 : fldI Tryd.prog 103 2 = some (2, 102) := by kernel_rfl
@[go_sem] theorem szT_104 : szT Tryd.prog 104 = some 5 := by kernel_rfl
@[go_sem] theorem arrE_104 : arrE Tryd.prog 104 = none := by kernel_rfl
@[go_sem] theorem isStruct_104 : isStruct Tryd.prog 104 = true := by kernel_rfl
@[go_sem] theorem fldI_104_0 : fldI Tryd.prog 104 0 = some (0, 89) := by kernel_rfl
@[go_sem] theorem fldI_104_1 : fldI Tryd.prog 104 1 = some (1, 89) := by kernel_rfl
@[go_sem] theorem fldI_104_2 : fldI Tryd.prog 104 2 = some (2, 102) := by kernel_rfl
@[go_sem] theorem szT_105 : szT Tryd.prog 105 = some 32 := by kernel_rfl
@[go_sem] theorem arN_105 : arN Tryd.prog 105 = some 32 := by kernel_rfl
@[go_sem] theorem arrE_105 : arrE Tryd.prog 105 = some 1 := by kernel_rfl
@[go_sem] theorem szT_106 : szT Tryd.prog 106 = some 64 := by kernel_rfl
@[go_sem] theorem arN_106 : arN Tryd.prog 106 = some 64 := by kernel_rfl
@[go_sem] theorem arrE_106 : arrE Tryd.prog 106 = some 1 := by kernel_rfl
@[go_sem] theorem szT_107 : szT Tryd.prog 107 = some 4 := by kernel_rfl
@[go_sem] theorem arrE_107 : arrE Tryd.prog 107 = none := by kernel_rfl
@[go_sem] theorem isStruct_107 : isStruct Tryd.prog 107 = true := by kernel_rfl
@[go_sem] theorem fldI_107_0 : fldI Tryd.prog 107 0 = some (0, 17) := by kernel_rfl
@[go_sem] theorem fldI_107_1 : fldI Tryd.prog 107 1 = some (1, 17) := by kernel_rfl
@[go_sem] theorem fldI_107_2 : fldI Tryd.prog 107 2 = some (2, 17) := by kernel_rfl
@[go_sem] theorem fldI_107_3 : fldI Tryd.prog 107 3 = some (3, 9) := by kernel_rfl
@[go_sem] theorem szT_108 : szT Tryd.prog 108 = some 4 := by kernel_rfl
@[go_sem] theorem arrE_108 : arrE Tryd.prog 108 = none := by kernel_rfl
@[go_sem] theorem isStruct_108 : isStruct Tryd.prog 108 = true := by kernel_rfl
@[go_sem] theorem fldI_108_0 : fldI Tryd.prog 108 0 = some (0, 17) := by kernel_rfl
@[go_sem] theorem fldI_108_1 : fldI Tryd.prog 108 1 = some (1, 17) := by kernel_rfl
@[go_sem] theorem fldI_108_2 : fldI Tryd.prog 108 2 = some (2, 17) := by kernel_rfl
@[go_sem] theorem fldI_108_3 : fldI Tryd.prog 108 3 = some (3, 9) := by kernel_rfl
@[go_sem] theorem szT_109 : szT Tryd.prog 109 = some 0 := by kernel_rfl
@[go_sem] theorem arN_109 : arN Tryd.prog 109 = some 0 := by kernel_rfl
@[go_sem] theorem arrE_109 : arrE Tryd.prog 109 = some 1 := by kernel_rfl
@[go_sem] theorem szT_110 : szT Tryd.prog 110 = some 0 := by kernel_rfl
@[go_sem] theorem arrE_110 : arrE Tryd.prog 110 = none := by kernel_rfl
@[go_sem] theorem isStruct_110 : isStruct Tryd.prog 110 = true := by kernel_rfl
@[go_sem] theorem fldI_110_0 : fldI Tryd.prog 110 0 = some (0, 109) := by kernel_rfl
@[go_sem] theorem szT_111 : szT Tryd.prog 111 = some 0 := by kernel_rfl
@[go_sem] theorem arrE_111 : arrE Tryd.prog 111 = none := by kernel_rfl
@[go_sem] theorem isStruct_111 : isStruct Tryd.prog 111 = true := by kernel_rfl
@[go_sem] theorem fldI_111_0 : fldI Tryd.prog 111 0 = some (0, 109) := by kernel_rfl
@[go_sem] theorem szT_112 : szT Tryd.prog 112 = some 1 := by kernel_rfl
@[go_sem] theorem szT_113 : szT Tryd.prog 113 = some 1 := by kernel_rfl
@[go_sem] theorem szT_115 : szT Tryd.prog 115 = some 1 := by kernel_rfl
@[go_sem] theorem szT_116 : szT Tryd.prog 116 = some 1 := by kernel_rfl
@[go_sem] theorem szT_117 : szT Tryd.prog 117 = some 11 := by kernel_rfl
@[go_sem] theorem arrE_117 : arrE Tryd.prog 117 = none := by kernel_rfl
@[go_sem] theorem isStruct_117 : isStruct Tryd.prog 117 = true := by kernel_rfl
@[go_sem] theorem fldI_117_0 : fldI Tryd.prog 117 0 = some (0, 12) := by kernel_rfl
@[go_sem] theorem fldI_117_1 : fldI Tryd.prog 117 1 = some (1, 12) := by kernel_rfl
@[go_sem] theorem fldI_117_2 : fldI Tryd.prog 117 2 = some (2, 89) := by kernel_rfl
@[go_sem] theorem fldI_117_3 : fldI Tryd.prog 117 3 = some (3, 112) := by kernel_rfl
@[go_sem] theorem fldI_117_4 : fldI Tryd.prog 117 4 = some (4, 5) := by kernel_rfl
@[go_sem] theorem fldI_117_5 : fldI Tryd.prog 117 5 = some (5, 5) := by kernel_rfl
@[go_sem] theorem fldI_117_6 : fldI Tryd.prog 117 6 = some (6, 113) := by kernel_rfl
@[go_sem] theorem fldI_117_7 : fldI Tryd.prog 117 7 = some (7, 114) := by kernel_rfl
@[go_sem] theorem fldI_117_8 : fldI Tryd.prog 117 8 = some (8, 68) := by kernel_rfl
@[go_sem] theorem fldI_117_9 : fldI Tryd.prog 117 9 = some (9, 115) := by kernel_rfl
@[go_sem] theorem fldI_117_10 : fldI Tryd.prog 117 10 = some (10, 116) := by kernel_rfl
@[go_sem] theorem szT_118 : szT Tryd.prog 118 = some 11 := by kernel_rfl
@[go_sem] theorem arrE_118 : arrE Tryd.prog 118 = none := by kernel_rfl
@[go_sem] theorem isStruct_118 : isStruct Tryd.prog 118 = true := by kernel_rfl
@[go_sem] theorem fldI_118_0 : fldI Tryd.prog 118 0 = some (0, 12) := by kernel_rfl
@[go_sem] theorem fldI_118_1 : fldI Tryd.prog 118 1 = some (1, 12) := by kernel_rfl
@[go_sem] theorem fldI_118_2 : fldI Tryd.prog 118 2 = some (2, 89) := by kernel_rfl
@[go_sem] theorem fldI_118_3 : fldI Tryd.prog 118 3 = some (3, 112) := by kernel_rfl
@[go_sem] theorem fldI_118_4 : fldI Tryd.prog 118 4 = some (4, 5) := by kernel_rfl
@[go_sem] theorem fldI_118_5 : fldI Tryd.prog 118 5 = some (5, 5) := by kernel_rfl
@[go_sem] theorem fldI_118_6 : fldI Tryd.prog 118 6 = some (6, 113) := by kernel_rfl
@[go_sem] theorem fldI_118_7 : fldI Tryd.prog 118 7 = some (7, 114) := by kernel_rfl
@[go_sem] theorem fldI_118_8 : fldI Tryd.prog 118 8 = some (8, 68) := by kernel_rfl
@[go_sem] theorem fldI_118_9 : fldI Tryd.prog 118 9 = some (9, 115) := by kernel_rfl
@[go_sem] theorem fldI_118_10 : fldI Tryd.prog 118 10 = some (10, 116) := by kernel_rfl
@[go_sem] theorem zeroA_1 : zeroA Tryd.prog 1 = some [.sc .nilFunc] := by kernel_rfl
@[go_sem] theorem zeroA_2 : zeroA Tryd.prog 2 = some [.int .i64 0] := by kernel_rfl
@[go_sem] theorem zeroA_3 : zeroA Tryd.prog 3 = some [.int .i64 0] := by kernel_rfl
@[go_sem] theorem zeroA_4 : zeroA Tryd.prog 4 = some [.bool false] := by kernel_rfl
@[go_sem] theorem zeroA_5 : zeroA Tryd.prog 5 = some [.int .u8 0] := by kernel_rfl
@[go_sem] theorem zeroA_6 : zeroA Tryd.prog 6 = some [.int .u8 0] := by kernel_rfl
@[go_sem] theorem zeroA_7 : zeroA Tryd.prog 7 = some [.int .i64 0, .int .i64 0, .bool false, .int .u8 0] := by kernel_rfl
@[go_sem] theorem zeroA_8 : zeroA Tryd.prog 8 = some [.int .i64 0, .int .i64 0, .bool false, .int .u8 0] := by kernel_rfl
@[go_sem] theorem zeroA_9 : zeroA Tryd.prog 9 = some [.str []] := by kernel_rfl
@[go_sem] theorem zeroA_10 : zeroA Tryd.prog 10 = some [.str []] := by kernel_rfl
@[go_sem] theorem zeroA_11 : zeroA Tryd.prog 11 = some [.str []] := by kernel_rfl
@[go_sem] theorem zeroA_12 : zeroA Tryd.prog 12 = some [.int .u64 0] := by kernel_rfl
@[go_sem] theorem zeroA_13 : zeroA Tryd.prog 13 = some [.str [], .int .u64 0] := by kernel_rfl
@[go_sem] theorem zeroA_14 : zeroA Tryd.prog 14 = some [.str [], .int .u64 0] := by kernel_rfl
@[go_sem] theorem zeroA_15 : zeroA Tryd.prog 15 = some [.sc (.pointer none)] := by kernel_rfl
@[go_sem] theorem zeroA_16 : zeroA Tryd.prog 16 = some [.sc (.pointer none)] := by kernel_rfl
@[go_sem] theorem zeroA_17 : zeroA Tryd.prog 17 = some [.sc (.pointer none)] := by kernel_rfl
@[go_sem] theorem zeroA_18 : zeroA Tryd.prog 18 = some [.sc (.pointer none)] := by kernel_rfl
@[go_sem] theorem zeroA_19 : zeroA Tryd.prog 19 = some [.sc (.pointer none)] := by kernel_rfl
@[go_sem] theorem zeroA_20 : zeroA Tryd.prog 20 = some [.sc .nilIface] := by kernel_rfl
@[go_sem] theorem zeroA_21 : zeroA Tryd.prog 21 = some [.int .i32 0] := by kernel_rfl
@[go_sem] theorem zeroA_22 : zeroA Tryd.prog 22 = some [.sc .nilFunc] := by kernel_rfl
@[go_sem] theorem zeroA_23 : zeroA Tryd.prog 23 = some [.int .i64 0] := by kernel_rfl
@[go_sem] theorem zeroA_25 : zeroA Tryd.prog 25 = some [.sc .nilFunc] := by kernel_rfl
@[go_sem] theorem zeroA_26 : zeroA Tryd.prog 26 = some [.sc .nilFunc] := by kernel_rfl
@[go_sem] theorem zeroA_27 : zeroA Tryd.prog 27 = some [.sc .nilFunc] := by kernel_rfl
@[go_sem] theorem zeroA_28 : zeroA Tryd.prog 28 = some [.sc .nilFunc] := by kernel_rfl
@[go_sem] theorem zeroA_29 : zeroA Tryd.prog 29 = some [.sc (.slice none 0 0)] := by kernel_rfl
@[go_sem] theorem zeroA_30 : zeroA Tryd.prog 30 = some [.sc .nilFunc] := by kernel_rfl
@[go_sem] theorem zeroA_31 : zeroA Tryd.prog 31 = some [.sc .nilFunc] := by kernel_rfl
@[go_sem] theorem zeroA_32 : zeroA Tryd.prog 32 = some [.sc .nilFunc] := by kernel_rfl
@[go_sem] theorem zeroA_33 : zeroA Tryd.prog 33 = some [.sc .nilFunc] := by kernel_rfl
@[go_sem] theorem zeroA_34 : zeroA Tryd.prog 34 = some [.sc .nilFunc] := by kernel_rfl
@[go_sem] theorem zeroA_35 : zeroA Tryd.prog 35 = some [.sc .nilFunc] := by kernel_rfl
@[go_sem] theorem zeroA_36 : zeroA Tryd.prog 36 = some [.sc .nilFunc] := by kernel_rfl
@[go_sem] theorem zeroA_37 : zeroA Tryd.prog 37 = some [.sc .nilFunc] := by kernel_rfl
@[go_sem] theorem zeroA_38 : zeroA Tryd.prog 38 = some [.sc .nilFunc] := by kernel_rfl
@[go_sem] theorem zeroA_39 : zeroA Tryd.prog 39 = some [.sc .nilFunc] := by kernel_rfl
@[go_sem] theorem zeroA_40 : zeroA Tryd.prog 40 = some [.sc .nilFunc] := by kernel_rfl
@[go_sem] theorem zeroA_41 : zeroA Tryd.prog 41 = some [.bool false, .bool false, .bool false, .bool false, .bool false, .bool false, .bool false, .bool false, .bool false, .bool false, .bool false, .bool false, .bool false, .bool false, .bool false, .bool false, .bool false, .bool false, .bool false, .bool false, .bool false, .bool false, .bool false, .bool false, .bool false, .bool false, .bool false, .bool false, .bool false, .bool false, .bool false, .bool false, .bool false, .bool false, .bool false, .bool false, .bool false, .bool false, .bool false, .bool false, .bool false, .bool false, .bool false, .bool false, .bool false, .bool false, .bool false, .bool false, .bool false, .bool false, .bool false, .bool false, .bool false, .bool false, .bool false, .bool false, .bool false, .bool false, .bool false, .bool false, .bool false, .bool false, .bool false, .bool false, .bool false, .bool false, .bool false, .bool false, .bool false, .bool false, .bool false, .bool false, .bool false, .bool false, .bool false, .bool false, .bool false, .bool false, .bool false, .bool false, .bool false, .bool false, .bool false, .bool false, .bool false, .bool false, .bool false, .bool false, .bool false, .bool false, .bool false, .bool false, .bool false, .bool false, .bool false, .bool false, .bool false, .bool false, .bool false, .bool false, .bool false, .bool false, .bool false, .bool false, .bool false, .bool false, .bool false, .bool false, .bool false, .bool false, .bool false, .bool false, .bool false, .bool false, .bool false, .bool false, .bool false, .bool false, .bool false, .bool false, .bool false, .bool false, .bool false, .bool false, .bool false, .bool false, .bool false, .bool false, .bool false, .bool false, .bool false, .bool false, .bool false, .bool false, .bool false, .bool false, .bool false, .bool false, .bool false, .bool false, .bool false, .bool false, .bool false, .bool false, .bool false, .bool false, .bool false, .bool false, .bool false, .bool false, .bool false, .bool false, .bool false, .bool false, .bool false, .bool false, .bool false, .bool false, .bool false, .bool false, .bool false, .bool false, .bool false, .bool false, .bool false, .bool false, .bool false, .bool false, .bool false, .bool false, .bool false, .bool false, .bool false, .bool false, .bool false, .bool false, .bool false, .bool false, .bool false, .bool false, .bool false, .bool false, .bool false, .bool false, .bool false, .bool false, .bool false, .bool false, .bool false, .bool false, .bool false, .bool false, .bool false, .bool false, .bool false, .bool false, .bool false, .bool false, .bool false, .bool false, .bool false, .bool false, .bool false, .bool false, .bool false, .bool false, .bool false, .bool false, .bool false, .bool false, .bool false, .bool false, .bool false, .bool false, .bool false, .bool false, .bool false, .bool false, .bool false, .bool false, .bool false, .bool false, .bool false, .bool false, .bool false, .bool false, .bool false, .bool false, .bool false, .bool false, .bool false, .bool false, .bool false, .bool false, .bool false, .bool false, .bool false, .bool false, .bool false, .bool false, .bool false, .bool false, .bool false, .bool false, .bool false, .bool false, .bool false, .bool false, .bool false, .bool false, .bool false, .bool false, .bool false, .bool false, .bool false, .bool false] := by kernel_rfl
@[go_sem] theorem zeroA_42 : zeroA Tryd.prog 42 = some [.bool false, .bool false, .bool false, .bool false, .bool false, .bool false, .bool false, .bool false, .bool false, .bool false, .bool false, .bool false, .bool false, .bool false, .bool false, .bool false, .bool false, .bool false, .bool false, .bool false, .bool false, .bool false, .bool false, .bool false, .bool false, .bool false, .bool false, .bool false, .bool false, .bool false, .bool false, .bool false, .bool false, .bool false, .bool false, .bool false, .bool false, .bool false, .bool false, .bool false, .bool false, .bool false, .bool false, .bool false, .bool false, .bool false, .bool false, .bool false, .bool false, .bool false, .bool false, .bool false, .bool false, .bool false, .bool false, .bool false, .bool false, .bool false, .bool false, .bool false, .bool false, .bool false, .bool false, .bool false, .bool false, .bool false, .bool false, .bool false, .bool false, .bool false, .bool false, .bool false, .bool false, .bool false, .bool false, .bool false, .bool false, .bool false, .bool false, .bool false, .bool false, .bool false, .bool false, .bool false, .bool false, .bool false, .bool false, .bool false, .bool false, .bool false, .bool false, .bool false, .bool false, .bool false, .bool false, .bool false, .bool false, .bool false, .bool false, .bool false, .bool false, .bool false, .bool false, .bool false, .bool false, .bool false, .bool false, .bool false, .bool false, .bool false, .bool false, .bool false, .bool false, .bool false, .bool false, .bool false, .bool false, .bool false, .bool false, .bool false, .bool false, .bool false, .bool false, .bool false, .bool false, .bool false, .bool false, .bool false, .bool false, .bool false, .bool false, .bool false, .bool false, .bool false, .bool false, .bool false, .bool false, .bool false, .bool false, .bool false, .bool false, .bool false, .bool false, .bool false, .bool false, .bool false, .bool false, .bool false, .bool false, .bool false, .bool false, .bool false, .bool false, .bool false, .bool false, .bool false, .bool false, .bool false, .bool false, .bool false, .bool false, .bool false, .bool false, .bool false, .bool false, .bool false, .bool false, .bool false, .bool false, .bool false, .bool false, .bool false, .bool false, .bool false, .bool false, .bool false, .bool false, .bool false, .bool false, .bool false, .bool false, .bool false, .bool false, .bool false, .bool false, .bool false, .bool false, .bool false, .bool false, .bool false, .bool false, .bool false, .bool false, .bool false, .bool false, .bool false, .bool false, .bool false, .bool false, .bool false, .bool false, .bool false, .bool false, .bool false, .bool false, .bool false, .bool false, .bool false, .bool false, .bool false, .bool false, .bool false, .bool false, .bool false, .bool false, .bool false, .bool false, .bool false, .bool false, .bool false, .bool false, .bool false, .bool false, .bool false, .bool false, .bool false, .bool false, .bool false, .bool false, .bool false, .bool false, .bool false, .bool false, .bool false, .bool false, .bool false, .bool false, .bool false, .bool false, .bool false, .bool false, .bool false, .bool false, .bool false, .bool false, .bool false, .bool false, .bool false, .bool false, .bool false, .bool false, .bool false, .bool false, .bool false, .bool false, .bool false] := by kernel_rfl
@[go_sem] theorem zeroA_44 : zeroA Tryd.prog 44 = some [.sc .nilFunc] := by kernel_rfl
@[go_sem] theorem zeroA_45 : zeroA Tryd.prog 45 = some [.sc .nilFunc] := by kernel_rfl
@[go_sem] theorem zeroA_46 : zeroA Tryd.prog 46 = some [.sc (.pointer none)] := by kernel_rfl
@[go_sem] theorem zeroA_47 : zeroA Tryd.prog 47 = some [.sc (.pointer none)] := by kernel_rfl
@[go_sem] theorem zeroA_48 : zeroA Tryd.prog 48 = some [.sc (.pointer none), .sc (.slice none 0 0)] := by kernel_rfl
@[go_sem] theorem zeroA_49 : zeroA Tryd.prog 49 = some [.sc (.pointer none), .sc (.slice none 0 0)] := by kernel_rfl
@[go_sem] theorem zeroA_50 : zeroA Tryd.prog 50 = some [.sc .nilFunc] := by kernel_rfl
@[go_sem] theorem zeroA_51 : zeroA Tryd.prog 51 = some [.sc .nilIface] := by kernel_rfl
@[go_sem] theorem zeroA_52 : zeroA Tryd.prog 52 = some [.sc .nilIface] := by kernel_rfl
@[go_sem] theorem zeroA_54 : zeroA Tryd.prog 54 = some [.sc .nilFunc] := by kernel_rfl
@[go_sem] theorem zeroA_55 : zeroA Tryd.prog 55 = some [.sc .nilFunc] := by kernel_rfl
@[go_sem] theorem zeroA_56 : zeroA Tryd.prog 56 = some [.sc .nilFunc] := by kernel_rfl
@[go_sem] theorem zeroA_57 : zeroA Tryd.prog 57 = some [.sc .nilFunc] := by kernel_rfl
@[go_sem] theorem zeroA_58 : zeroA Tryd.prog 58 = some [.sc .nilFunc] := by kernel_rfl
@[go_sem] theorem zeroA_59 : zeroA Tryd.prog 59 = some [.sc .nilFunc] := by kernel_rfl
@[go_sem] theorem zeroA_60 : zeroA Tryd.prog 60 = some [.sc .nilFunc] := by kernel_rfl
@[go_sem] theorem zeroA_61 : zeroA Tryd.prog 61 = some [.sc .nilFunc] := by kernel_rfl
@[go_sem] theorem zeroA_62 : zeroA Tryd.prog 62 = some [.int .u64 0] := by kernel_rfl
@[go_sem] theorem zeroA_63 : zeroA Tryd.prog 63 = some [.sc .nilFunc] := by kernel_rfl
@[go_sem] theorem zeroA_64 : zeroA Tryd.prog 64 = some [.sc .nilFunc] := by kernel_rfl
@[go_sem] theorem zeroA_66 : zeroA Tryd.prog 66 = some [.sc .nilFunc] := by kernel_rfl
@[go_sem] theorem zeroA_67 : zeroA Tryd.prog 67 = some [.sc .nilFunc] := by kernel_rfl
@[go_sem] theorem zeroA_68 : zeroA Tryd.prog 68 = some [.sc (.pointer none)] := by kernel_rfl
@[go_sem] theorem zeroA_69 : zeroA Tryd.prog 69 = some [.sc .nilFunc] := by kernel_rfl
@[go_sem] theorem zeroA_70 : zeroA Tryd.prog 70 = some [.sc .nilFunc] := by kernel_rfl
@[go_sem] theorem zeroA_71 : zeroA Tryd.prog 71 = some [.sc .nilFunc] := by kernel_rfl
@[go_sem] theorem zeroA_72 : zeroA Tryd.prog 72 = some [.sc .nilFunc] := by kernel_rfl
@[go_sem] theorem zeroA_73 : zeroA Tryd.prog 73 = some [.sc .nilFunc] := by kernel_rfl
@[go_sem] theorem zeroA_74 : zeroA Tryd.prog 74 = some [.int .u8 0, .int .u8 0, .int .u8 0, .int .u8 0, .int .u8 0, .int .u8 0, .int .u8 0, .int .u8 0, .int .u8 0, .int .u8 0, .int .u8 0, .int .u8 0, .int .u8 0, .int .u8 0, .int .u8 0, .int .u8 0, .int .u8 0, .int .u8 0, .int .u8 0, .int .u8 0, .int .u8 0, .int .u8 0, .int .u8 0, .int .u8 0] := by kernel_rfl
@[go_sem] theorem zeroA_75 : zeroA Tryd.prog 75 = some [.int .u64 0] := by kernel_rfl
@[go_sem] theorem zeroA_76 : zeroA Tryd.prog 76 = some [.sc .nilFunc] := by kernel_rfl
@[go_sem] theorem zeroA_77 : zeroA Tryd.prog 77 = some [.sc .nilFunc] := by kernel_rfl
@[go_sem] theorem zeroA_79 : zeroA Tryd.prog 79 = some [.sc .nilFunc] := by kernel_rfl
@[go_sem] theorem zeroA_80 : zeroA Tryd.prog 80 = some [.sc (.pointer none)] := by kernel_rfl
@[go_sem] theorem zeroA_81 : zeroA Tryd.prog 81 = some [.sc .nilFunc] := by kernel_rfl
@[go_sem] theorem zeroA_82 : zeroA Tryd.prog 82 = some [.sc .nilFunc] := by kernel_rfl
@[go_sem] theorem zeroA_83 : zeroA Tryd.prog 83 = some [.sc .nilFunc] := by kernel_rfl
@[go_sem] theorem zeroA_85 : zeroA Tryd.prog 85 = some [.sc .nilFunc] := by kernel_rfl
@[go_sem] theorem zeroA_86 : zeroA Tryd.prog 86 = some [.sc (.slice none 0 0)] := by kernel_rfl
@[go_sem] theorem zeroA_87 : zeroA Tryd.prog 87 = some [.sc .nilFunc] := by kernel_rfl
@[go_sem] theorem zeroA_88 : zeroA Tryd.prog 88 = some [.int .u64 0, .int .u64 0, .int .u64 0, .int .u64 0, .int .u64 0, .int .u64 0, .int .u64 0, .int .u64 0, .int .u64 0, .int .u64 0, .int .u64 0, .int .u64 0, .int .u64 0, .int .u64 0, .int .u64 0, .int .u64 0, .int .u64 0, .int .u64 0, .int .u64 0, .int .u64 0] := by kernel_rfl
@[go_sem] theorem zeroA_89 : zeroA Tryd.prog 89 = some [.int .u32 0] := by kernel_rfl
@[go_sem] theorem zeroA_90 : zeroA Tryd.prog 90 = some [.int .u8 0, .int .u8 0, .int .u8 0, .int .u8 0, .int .u8 0, .int .u8 0, .int .u8 0, .int .u8 0, .int .u8 0, .int .u8 0, .int .u8 0, .int .u8 0, .int .u8 0, .int .u8 0, .int .u8 0, .int .u8 0, .int .u8 0, .int .u8 0, .int .u8 0, .int .u8 0, .int .u8 0, .int .u8 0, .int .u8 0, .int .u8 0, .int .u8 0, .int .u8 0, .int .u8 0, .int .u8 0, .int .u8 0, .int .u8 0, .int .u8 0, .int .u8 0, .int .u8 0, .int .u8 0, .int .u8 0, .int .u8 0, .int .u8 0, .int .u8 0, .int .u8 0, .int .u8 0, .int .u8 0, .int .u8 0, .int .u8 0, .int .u8 0, .int .u8 0, .int .u8 0, .int .u8 0, .int .u8 0, .int .u8 0, .int .u8 0, .int .u8 0, .int .u8 0, .int .u8 0, .int .u8 0, .int .u8 0, .int .u8 0, .int .u8 0, .int .u8 0, .int .u8 0, .int .u8 0, .int .u8 0, .int .u8 0, .int .u8 0, .int .u8 0, .int .u8 0] := by kernel_rfl
@[go_sem] theorem zeroA_91 : zeroA Tryd.prog 91 = some [.sc .nilFunc] := by kernel_rfl
@[go_sem] theorem zeroA_92 : zeroA Tryd.prog 92 = some [.sc .nilFunc] := by kernel_rfl
@[go_sem] theorem zeroA_93 : zeroA Tryd.prog 93 = some [.int .u8 0, .int .u8 0, .int .u8 0, .int .u8 0, .int .u8 0, .int .u8 0, .int .u8 0, .int .u8 0, .int .u8 0, .int .u8 0, .int .u8 0, .int .u8 0, .int .u8 0, .int .u8 0, .int .u8 0, .int .u8 0, .int .u8 0, .int .u8 0, .int .u8 0, .int .u8 0, .int .u8 0, .int .u8 0, .int .u8 0, .int .u8 0, .int .u8 0, .int .u8 0, .int .u8 0, .int .u8 0, .int .u8 0, .int .u8 0, .int .u8 0, .int .u8 0, .int .u8 0, .int .u8 0, .int .u8 0, .int .u8 0, .int .u8 0, .int .u8 0, .int .u8 0, .int .u8 0, .int .u8 0, .int .u8 0, .int .u8 0, .int .u8 0, .int .u8 0, .int .u8 0, .int .u8 0, .int .u8 0, .int .u8 0, .int .u8 0, .int .u8 0, .int .u8 0, .int .u8 0, .int .u8 0, .int .u8 0, .int .u8 0, .int .u8 0, .int .u8 0, .int .u8 0, .int .u8 0, .int .u8 0, .int .u8 0, .int .u8 0, .int .u8 0, .int .u8 0, .int .u8 0, .int .u8 0, .int .u8 0, .int .u8 0, .int .u8 0, .int .u8 0, .int .u8 0, .int .u8 0, .int .u8 0, .int .u8 0, .int .u8 0, .int .u8 0, .int .u8 0, .int .u8 0, .int .u8 0, .int .u8 0, .int .u8 0, .int .u8 0, .int .u8 0, .int .u8 0, .int .u8 0, .int .u8 0, .int .u8 0, .int .u8 0, .int .u8 0, .int .u8 0, .int .u8 0, .int .u8 0, .int .u8 0, .int .u8 0, .int .u8 0, .int .u8 0, .int .u8 0, .int .u8 0, .int .u8 0, .int .u8 0, .int .u8 0, .int .u8 0, .int .u8 0, .int .u8 0, .int .u8 0, .int .u8 0, .int .u8 0, .int .u8 0, .int .u8 0, .int .u8 0, .int .u8 0, .int .u8 0, .int .u8 0, .int .u8 0, .int .u8 0, .int .u8 0, .int .u8 0, .int .u8 0, .int .u8 0, .int .u8 0, .int .u8 0, .int .u8 0, .int .u8 0, .int .u8 0, .int .u8 0, .int .u8 0, .int .u8 0, .int .u8 0, .int .u8 0, .int .u8 0, .int .u8 0, .int .u8 0, .int .u8 0, .int .u8 0, .int .u8 0, .int .u8 0, .int .u8 0, .int .u8 0, .int .u8 0, .int .u8 0, .int .u8 0, .int .u8 0, .int .u8 0, .int .u8 0, .int .u8 0, .int .u8 0, .int .u8 0, .int .u8 0, .int .u8 0, .int .u8 0, .int .u8 0, .int .u8 0, .int .u8 0, .int .u8 0, .int .u8 0, .int .u8 0, .int .u8 0, .int .u8 0, .int .u8 0, .int .u8 0, .int .u8 0, .int .u8 0, .int .u8 0, .int .u8 0, .int .u8 0, .int .u8 0, .int .u8 0, .int .u8 0, .int .u8 0, .int .u8 0, .int .u8 0, .int .u8 0, .int .u8 0, .int .u8 0, .int .u8 0, .int .u8 0, .int .u8 0, .int .u8 0, .int .u8 0, .int .u8 0, .int .u8 0, .int .u8 0, .int .u8 0, .int .u8 0, .int .u8 0, .int .u8 0, .int .u8 0, .int .u8 0, .int .u8 0, .int .u8 0, .int .u8 0, .int .u8 0, .int .u8 0, .int .u8 0, .int .u8 0, .int .u8 0, .int .u8 0, .int .u8 0, .int .u8 0, .int .u8 0, .int .u8 0, .int .u8 0, .int .u8 0, .int .u8 0, .int .u8 0, .int .u8 0, .int .u8 0, .int .u8 0, .int .u8 0, .int .u8 0, .int .u8 0, .int .u8 0, .int .u8 0, .int .u8 0, .int .u8 0, .int .u8 0, .int .u8 0, .int .u8 0, .int .u8 0, .int .u8 0, .int .u8 0, .int .u8 0, .int .u8 0, .int .u8 0, .int .u8 0, .int .u8 0, .int .u8 0, .int .u8 0, .int .u8 0, .int .u8 0, .int .u8 0, .int .u8 0, .int .u8 0, .int .u8 0, .int .u8 0, .int .u8 0, .int .u8 0, .int .u8 0, .int .u8 0, .int .u8 0, .int .u8 0, .int .u8 0, .int .u8 0, .int .u8 0, .int .u8 0, .int .u8 0, .int .u8 0, .int .u8 0, .int .u8 0, .int .u8 0, .int .u8 0, .int .u8 0, .int .u8 0, .int .u8 0, .int .u8 0] := by kernel_rfl
@[go_sem] theorem zeroA_94 : zeroA Tryd.prog 94 = some [.int .u8 0, .int .u8 0] := by kernel_rfl
@[go_sem] theorem zeroA_95 : zeroA Tryd.prog 95 = some [.int .u8 0, .int .u8 0] := by kernel_rfl
@[go_sem] theorem zeroA_96 : zeroA Tryd.prog 96 = some [.int .u8 0, .int .u8 0, .int .u8 0, .int .u8 0, .int .u8 0, .int .u8 0, .int .u8 0, .int .u8 0, .int .u8 0, .int .u8 0, .int .u8 0, .int .u8 0, .int .u8 0, .int .u8 0, .int .u8 0, .int .u8 0, .int .u8 0, .int .u8 0, .int .u8 0, .int .u8 0, .int .u8 0, .int .u8 0, .int .u8 0, .int .u8 0, .int .u8 0, .int .u8 0, .int .u8 0, .int .u8 0, .int .u8 0, .int .u8 0, .int .u8 0, .int .u8 0] := by kernel_rfl
@[go_sem] theorem zeroA_97 : zeroA Tryd.prog 97 = some [.sc (.pointer none)] := by kernel_rfl
@[go_sem] theorem zeroA_98 : zeroA Tryd.prog 98 = some [.sc .nilFunc] := by kernel_rfl
@[go_sem] theorem zeroA_99 : zeroA Tryd.prog 99 = some [.sc .nilFunc] := by kernel_rfl
@[go_sem] theorem zeroA_100 : zeroA Tryd.prog 100 = some [.sc .nilFunc] := by kernel_rfl
@[go_sem] theorem zeroA_101 : zeroA Tryd.prog 101 = some [.int .i32 0, .int .i32 0, .int .i32 0] := by kernel_rfl
@[go_sem] theorem zeroA_102 : zeroA Tryd.prog 102 = some [.int .i32 0, .int .i32 0, .int .i32 0] := by kernel_rfl
@[go_sem] theorem zeroA_103 : zeroA Tryd.prog 103 = some [.int .u32 0, .int .u32 0, .int .i32 0, .int .i32 0, .int .i32 0] := by kernel_rfl
@[go_sem] theorem zeroA_104 : zeroA Tryd.prog 104 = some [.int .u32 0, .int .u32 0, .int .i32 0, .int .i32 0, .int .i32 0] := by kernel_rfl
@[go_sem] theorem zeroA_105 : zeroA Tryd.prog 105 = some [.int .u8 0, .int .u8 0, .int .u8 0, .int .u8 0, .int .u8 0, .int .u8 0, .int .u8 0, .int .u8 0, .int .u8 0, .int .u8 0, .int .u8 0, .int .u8 0, .int .u8 0, .int .u8 0, .int .u8 0, .int .u8 0, .int .u8 0, .int .u8 0, .int .u8 0, .int .u8 0, .int .u8 0, .int .u8 0, .int .u8 0, .int .u8 0, .int .u8 0, .int .u8 0, .int .u8 0, .int .u8 0, .int .u8 0, .int .u8 0, .int .u8 0, .int .u8 0] := by kernel_rfl
@[go_sem] theorem zeroA_106 : zeroA Tryd.prog 106 = some [.int .u8 0, .int .u8 0, .int .u8 0, .int .u8 0, .int .u8 0, .int .u8 0, .int .u8 0, .int .u8 0, .int .u8 0, .int .u8 0, .int .u8 0, .int .u8 0, .int .u8 0, .int .u8 0, .int .u8 0, .int .u8 0, .int .u8 0, .int .u8 0, .int .u8 0, .int .u8 0, .int .u8 0, .int .u8 0, .int .u8 0, .int .u8 0, .int .u8 0, .int .u8 0, .int .u8 0, .int .u8 0, .int .u8 0, .int .u8 0, .int .u8 0, .int .u8 0, .int .u8 0, .int .u8 0, .int .u8 0, .int .u8 0, .int .u8 0, .int .u8 0, .int .u8 0, .int .u8 0, .int .u8 0, .int .u8 0, .int .u8 0, .int .u8 0, .int .u8 0, .int .u8 0, .int .u8 0, .int .u8 0, .int .u8 0, .int .u8 0, .int .u8 0, .int .u8 0, .int .u8 0, .int .u8 0, .int .u8 0, .int .u8 0, .int .u8 0, .int .u8 0, .int .u8 0, .int .u8 0, .int .u8 0, .int .u8 0, .int .u8 0, .int .u8 0] := by kernel_rfl
@[go_sem] theorem zeroA_107 : zeroA Tryd.prog 107 = some [.sc (.pointer none), .sc (.pointer none), .sc (.pointer none), .str []] := by kernel_rfl
@[go_sem] theorem zeroA_108 : zeroA Tryd.prog 108 = some [.sc (.pointer none), .sc (.pointer none), .sc (.pointer none), .str []] := by kernel_rfl
@[go_sem] theorem zeroA_109 : zeroA Tryd.prog 109 = some [] := by kernel_rfl
@[go_sem] theorem zeroA_110 : zeroA Tryd.prog 110 = some [] := by kernel_rfl
@[go_sem] theorem zeroA_111 : zeroA Tryd.prog 111 = some [] := by kernel_rfl
@[go_sem] theorem zeroA_112 : zeroA Tryd.prog 112 = some [.int .u8 0] := by kernel_rfl
@[go_sem] theorem zeroA_113 : zeroA Tryd.prog 113 = some [.int .u8 0] := by kernel_rfl
@[go_sem] theorem zeroA_114 : zeroA Tryd.prog 114 = some [.sc .nilFunc] := by kernel_rfl
@[go_sem] theorem zeroA_115 : zeroA Tryd.prog 115 = some [.int .i32 0] := by kernel_rfl
@[go_sem] theorem zeroA_116 : zeroA Tryd.prog 116 = some [.int .i32 0] := by kernel_rfl
@[go_sem] theorem zeroA_117 : zeroA Tryd.prog 117 = some [.int .u64 0, .int .u64 0, .int .u32 0, .int .u8 0, .int .u8 0, .int .u8 0, .int .u8 0, .sc .nilFunc, .sc (.pointer none), .int .i32 0, .int .i32 0] := by kernel_rfl
@[go_sem] theorem zeroA_118 : zeroA Tryd.prog 118 = some [.int .u64 0, .int .u64 0, .int .u32 0, .int .u8 0, .int .u8 0, .int .u8 0, .int .u8 0, .sc .nilFunc, .sc (.pointer none), .int .i32 0, .int .i32 0] := by kernel_rfl
@[go_sem] theorem tyS_29 : tyS Tryd.prog 29 = some (5, 1, 1) := by kernel_rfl
@[go_sem] theorem tyS_86 : tyS Tryd.prog 86 = some (104, 5, 20) := by kernel_rfl
@[go_sem] theorem ptrT_15 : ptrT Tryd.prog 15 = true := by kernel_rfl
@[go_sem] theorem ptrE_15 : ptrE Tryd.prog 15 = some 108 := by kernel_rfl
@[go_sem] theorem ptrT_16 : ptrT Tryd.prog 16 = true := by kernel_rfl
@[go_sem] theorem ptrE_16 : ptrE Tryd.prog 16 = some 111 := by kernel_rfl
@[go_sem] theorem ptrT_17 : ptrT Tryd.prog 17 = true := by kernel_rfl
@[go_sem] theorem ptrE_17 : ptrE Tryd.prog 17 = some 118 := by kernel_rfl
@[go_sem] theorem ptrT_46 : ptrT Tryd.prog 46 = true := by kernel_rfl
@[go_sem] theorem ptrE_46 : ptrE Tryd.prog 46 = some 42 := by kernel_rfl
@[go_sem] theorem ptrT_47 : ptrT Tryd.prog 47 = true := by kernel_rfl
@[go_sem] theorem ptrE_47 : ptrE Tryd.prog 47 = some 49 := by kernel_rfl
@[go_sem] theorem unsTo_47_80 : unsOK Tryd.prog 47 80 49 2 0 = true := by kernel_rfl
@[go_sem] theorem unsFrom_47_80 : unsOK Tryd.prog 80 47 49 2 0 = true := by kernel_rfl
@[go_sem] theorem ptrT_68 : ptrT Tryd.prog 68 = true := by kernel_rfl
@[go_sem] theorem ptrE_68 : ptrE Tryd.prog 68 = some 5 := by kernel_rfl
@[go_sem] theorem ptrT_97 : ptrT Tryd.prog 97 = true := by kernel_rfl
@[go_sem] theorem ptrE_97 : ptrE Tryd.prog 97 = some 104 := by kernel_rfl
theorem follows_mixed : Tryd.prog.follows .mixedOrders = true := by kernel_rfl
end Go.Proofs.YtmenoocaeakplaaDoor
