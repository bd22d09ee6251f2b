/- Closed facts on the types of this seat's program: what 'isA', 'szT' and their kin answer. Printed by wip/tools/facts.py. -/
import Derived.Test.YtcmmmomkfamodaaRows
import Derived.Test.YtcmmmomkfamodaaAvQ
namespace Go.Proofs.Ytcmmmomkfamodaa
open Go.Av
set_option linter.unusedVariables false
@[go_sem] theorem isA_1 : isA Try.prog 1 = some false := by kernel_rfl
@[go_sem] theorem szT_1 : szT Try.prog 1 = some 1 := by kernel_rfl
@[go_sem] theorem hasT_2 : hasT Try.prog 2 = true := by kernel_rfl
@[go_sem] theorem conc_2 : Try.prog.concrete 2 = true := by kernel_rfl
@[go_sem] theorem isStr_2 : isStr Try.prog 2 = false := by kernel_rfl
@[go_sem] theorem isBoolT_2 : isBoolT Try.prog 2 = false := by kernel_rfl
@[go_sem] theorem ikT_2 : ikT Try.prog 2 = some .i64 := by kernel_rfl
@[go_sem] theorem isA_2 : isA Try.prog 2 = some false := by kernel_rfl
@[go_sem] theorem elT_2 : elT Try.prog 2 = none := by kernel_rfl
@[go_sem] theorem hasT_3 : hasT Try.prog 3 = true := by kernel_rfl
@[go_sem] theorem conc_3 : Try.prog.concrete 3 = true := by kernel_rfl
@[go_sem] theorem isStr_3 : isStr Try.prog 3 = false := by kernel_rfl
@[go_sem] theorem isBoolT_3 : isBoolT Try.prog 3 = false := by kernel_rfl
@[go_sem] theorem ikT_3 : ikT Try.prog 3 = some .i64 := by kernel_rfl
@[go_sem] theorem isA_3 : isA Try.prog 3 = some false := by kernel_rfl
@[go_sem] theorem elT_3 : elT Try.prog 3 = none := by kernel_rfl
@[go_sem] theorem hasT_4 : hasT Try.prog 4 = true := by kernel_rfl
@[go_sem] theorem conc_4 : Try.prog.concrete 4 = true := by kernel_rfl
@[go_sem] theorem isStr_4 : isStr Try.prog 4 = false := by kernel_rfl
@[go_sem] theorem isBoolT_4 : isBoolT Try.prog 4 = true := by kernel_rfl
@[go_sem] theorem ikT_4 : ikT Try.prog 4 = none := by kernel_rfl
@[go_sem] theorem isA_4 : isA Try.prog 4 = some false := by kernel_rfl
@[go_sem] theorem elT_4 : elT Try.prog 4 = none := by kernel_rfl
@[go_sem] theorem hasT_5 : hasT Try.prog 5 = true := by kernel_rfl
@[go_sem] theorem conc_5 : Try.prog.concrete 5 = true := by kernel_rfl
@[go_sem] theorem isStr_5 : isStr Try.prog 5 = false := by kernel_rfl
@[go_sem] theorem isBoolT_5 : isBoolT Try.prog 5 = false := by kernel_rfl
@[go_sem] theorem ikT_5 : ikT Try.prog 5 = some .u8 := by kernel_rfl
@[go_sem] theorem isA_5 : isA Try.prog 5 = some false := by kernel_rfl
@[go_sem] theorem elT_5 : elT Try.prog 5 = none := by kernel_rfl
@[go_sem] theorem hasT_6 : hasT Try.prog 6 = true := by kernel_rfl
@[go_sem] theorem conc_6 : Try.prog.concrete 6 = true := by kernel_rfl
@[go_sem] theorem isStr_6 : isStr Try.prog 6 = false := by kernel_rfl
@[go_sem] theorem isBoolT_6 : isBoolT Try.prog 6 = false := by kernel_rfl
@[go_sem] theorem ikT_6 : ikT Try.prog 6 = some .u8 := by kernel_rfl
@[go_sem] theorem isA_6 : isA Try.prog 6 = some false := by kernel_rfl
@[go_sem] theorem elT_6 : elT Try.prog 6 = none := by kernel_rfl
@[go_sem] theorem hasT_7 : hasT Try.prog 7 = true := by kernel_rfl
@[go_sem] theorem conc_7 : Try.prog.concrete 7 = true := by kernel_rfl
@[go_sem] theorem isStr_7 : isStr Try.prog 7 = false := by kernel_rfl
@[go_sem] theorem isBoolT_7 : isBoolT Try.prog 7 = false := by kernel_rfl
@[go_sem] theorem ikT_7 : ikT Try.prog 7 = none := by kernel_rfl
@[go_sem] theorem isA_7 : isA Try.prog 7 = some true := by kernel_rfl
@[go_sem] theorem elT_7 : elT Try.prog 7 = none := by kernel_rfl
@[go_sem] theorem hasT_8 : hasT Try.prog 8 = true := by kernel_rfl
@[go_sem] theorem conc_8 : Try.prog.concrete 8 = true := by kernel_rfl
@[go_sem] theorem isStr_8 : isStr Try.prog 8 = false := by kernel_rfl
@[go_sem] theorem isBoolT_8 : isBoolT Try.prog 8 = false := by kernel_rfl
@[go_sem] theorem ikT_8 : ikT Try.prog 8 = none := by kernel_rfl
@[go_sem] theorem isA_8 : isA Try.prog 8 = some true := by kernel_rfl
@[go_sem] theorem elT_8 : elT Try.prog 8 = none := by kernel_rfl
@[go_sem] theorem hasT_9 : hasT Try.prog 9 = true := by kernel_rfl
@[go_sem] theorem conc_9 : Try.prog.concrete 9 = true := by kernel_rfl
@[go_sem] theorem isStr_9 : isStr Try.prog 9 = true := by kernel_rfl
@[go_sem] theorem isBoolT_9 : isBoolT Try.prog 9 = false := by kernel_rfl
@[go_sem] theorem ikT_9 : ikT Try.prog 9 = none := by kernel_rfl
@[go_sem] theorem isA_9 : isA Try.prog 9 = some false := by kernel_rfl
@[go_sem] theorem elT_9 : elT Try.prog 9 = none := by kernel_rfl
@[go_sem] theorem hasT_10 : hasT Try.prog 10 = true := by kernel_rfl
@[go_sem] theorem conc_10 : Try.prog.concrete 10 = true := by kernel_rfl
@[go_sem] theorem isStr_10 : isStr Try.prog 10 = true := by kernel_rfl
@[go_sem] theorem isBoolT_10 : isBoolT Try.prog 10 = false := by kernel_rfl
@[go_sem] theorem ikT_10 : ikT Try.prog 10 = none := by kernel_rfl
@[go_sem] theorem isA_10 : isA Try.prog 10 = some false := by kernel_rfl
@[go_sem] theorem elT_10 : elT Try.prog 10 = none := by kernel_rfl
@[go_sem] theorem hasT_11 : hasT Try.prog 11 = true := by kernel_rfl
@[go_sem] theorem conc_11 : Try.prog.concrete 11 = true := by kernel_rfl
@[go_sem] theorem isStr_11 : isStr Try.prog 11 = true := by kernel_rfl
@[go_sem] theorem isBoolT_11 : isBoolT Try.prog 11 = false := by kernel_rfl
@[go_sem] theorem ikT_11 : ikT Try.prog 11 = none := by kernel_rfl
@[go_sem] theorem isA_11 : isA Try.prog 11 = some false := by kernel_rfl
@[go_sem] theorem elT_11 : elT Try.prog 11 = none := by kernel_rfl
@[go_sem] theorem hasT_12 : hasT Try.prog 12 = true := by kernel_rfl
@[go_sem] theorem conc_12 : Try.prog.concrete 12 = true := by kernel_rfl
@[go_sem] theorem isStr_12 : isStr Try.prog 12 = false := by kernel_rfl
@[go_sem] theorem isBoolT_12 : isBoolT Try.prog 12 = false := by kernel_rfl
@[go_sem] theorem ikT_12 : ikT Try.prog 12 = some .u64 := by kernel_rfl
@[go_sem] theorem isA_12 : isA Try.prog 12 = some false := by kernel_rfl
@[go_sem] theorem elT_12 : elT Try.prog 12 = none := by kernel_rfl
@[go_sem] theorem hasT_13 : hasT Try.prog 13 = true := by kernel_rfl
@[go_sem] theorem conc_13 : Try.prog.concrete 13 = true := by kernel_rfl
@[go_sem] theorem isStr_13 : isStr Try.prog 13 = false := by kernel_rfl
@[go_sem] theorem isBoolT_13 : isBoolT Try.prog 13 = false := by kernel_rfl
@[go_sem] theorem ikT_13 : ikT Try.prog 13 = none := by kernel_rfl
@[go_sem] theorem isA_13 : isA Try.prog 13 = some true := by kernel_rfl
@[go_sem] theorem elT_13 : elT Try.prog 13 = none := by kernel_rfl
@[go_sem] theorem hasT_14 : hasT Try.prog 14 = true := by kernel_rfl
@[go_sem] theorem conc_14 : Try.prog.concrete 14 = true := by kernel_rfl
@[go_sem] theorem isStr_14 : isStr Try.prog 14 = false := by kernel_rfl
@[go_sem] theorem isBoolT_14 : isBoolT Try.prog 14 = false := by kernel_rfl
@[go_sem] theorem ikT_14 : ikT Try.prog 14 = none := by kernel_rfl
@[go_sem] theorem isA_14 : isA Try.prog 14 = some true := by kernel_rfl
@[go_sem] theorem elT_14 : elT Try.prog 14 = none := by kernel_rfl
@[go_sem] theorem hasT_15 : hasT Try.prog 15 = true := by kernel_rfl
@[go_sem] theorem conc_15 : Try.prog.concrete 15 = true := by kernel_rfl
@[go_sem] theorem isStr_15 : isStr Try.prog 15 = false := by kernel_rfl
@[go_sem] theorem isBoolT_15 : isBoolT Try.prog 15 = false := by kernel_rfl
@[go_sem] theorem ikT_15 : ikT Try.prog 15 = none := by kernel_rfl
@[go_sem] theorem isA_15 : isA Try.prog 15 = some false := by kernel_rfl
@[go_sem] theorem elT_15 : elT Try.prog 15 = none := by kernel_rfl
@[go_sem] theorem hasT_16 : hasT Try.prog 16 = true := by kernel_rfl
@[go_sem] theorem conc_16 : Try.prog.concrete 16 = true := by kernel_rfl
@[go_sem] theorem isStr_16 : isStr Try.prog 16 = false := by kernel_rfl
@[go_sem] theorem isBoolT_16 : isBoolT Try.prog 16 = false := by kernel_rfl
@[go_sem] theorem ikT_16 : ikT Try.prog 16 = none := by kernel_rfl
@[go_sem] theorem isA_16 : isA Try.prog 16 = some false := by kernel_rfl
@[go_sem] theorem elT_16 : elT Try.prog 16 = none := by kernel_rfl
@[go_sem] theorem hasT_17 : hasT Try.prog 17 = true := by kernel_rfl
@[go_sem] theorem conc_17 : Try.prog.concrete 17 = true := by kernel_rfl
@[go_sem] theorem isStr_17 : isStr Try.prog 17 = false := by kernel_rfl
@[go_sem] theorem isBoolT_17 : isBoolT Try.prog 17 = false := by kernel_rfl
@[go_sem] theorem ikT_17 : ikT Try.prog 17 = none := by kernel_rfl
@[go_sem] theorem isA_17 : isA Try.prog 17 = some false := by kernel_rfl
@[go_sem] theorem elT_17 : elT Try.prog 17 = none := by kernel_rfl
@[go_sem] theorem hasT_18 : hasT Try.prog 18 = true := by kernel_rfl
@[go_sem] theorem conc_18 : Try.prog.concrete 18 = true := by kernel_rfl
@[go_sem] theorem isStr_18 : isStr Try.prog 18 = false := by kernel_rfl
@[go_sem] theorem isBoolT_18 : isBoolT Try.prog 18 = false := by kernel_rfl
@[go_sem] theorem ikT_18 : ikT Try.prog 18 = none := by kernel_rfl
@[go_sem] theorem isA_18 : isA Try.prog 18 = some true := by kernel_rfl
@[go_sem] theorem elT_18 : elT Try.prog 18 = none := by kernel_rfl
@[go_sem] theorem hasT_19 : hasT Try.prog 19 = true := by kernel_rfl
@[go_sem] theorem conc_19 : Try.prog.concrete 19 = true := by kernel_rfl
@[go_sem] theorem isStr_19 : isStr Try.prog 19 = false := by kernel_rfl
@[go_sem] theorem isBoolT_19 : isBoolT Try.prog 19 = false := by kernel_rfl
@[go_sem] theorem ikT_19 : ikT Try.prog 19 = none := by kernel_rfl
@[go_sem] theorem isA_19 : isA Try.prog 19 = some true := by kernel_rfl
@[go_sem] theorem elT_19 : elT Try.prog 19 = none := by kernel_rfl
@[go_sem] theorem isA_20 : isA Try.prog 20 = some false := by kernel_rfl
@[go_sem] theorem szT_20 : szT Try.prog 20 = some 1 := by kernel_rfl
@[go_sem] theorem hasT_21 : hasT Try.prog 21 = true := by kernel_rfl
@[go_sem] theorem conc_21 : Try.prog.concrete 21 = true := by kernel_rfl
@[go_sem] theorem isStr_21 : isStr Try.prog 21 = false := by kernel_rfl
@[go_sem] theorem isBoolT_21 : isBoolT Try.prog 21 = false := by kernel_rfl
@[go_sem] theorem ikT_21 : ikT Try.prog 21 = some .i32 := by kernel_rfl
@[go_sem] theorem isA_21 : isA Try.prog 21 = some false := by kernel_rfl
@[go_sem] theorem elT_21 : elT Try.prog 21 = none := by kernel_rfl
@[go_sem] theorem hasT_22 : hasT Try.prog 22 = true := by kernel_rfl
@[go_sem] theorem conc_22 : Try.prog.concrete 22 = true := by kernel_rfl
@[go_sem] theorem isStr_22 : isStr Try.prog 22 = false := by kernel_rfl
@[go_sem] theorem isBoolT_22 : isBoolT Try.prog 22 = false := by kernel_rfl
@[go_sem] theorem ikT_22 : ikT Try.prog 22 = none := by kernel_rfl
@[go_sem] theorem isA_22 : isA Try.prog 22 = some false := by kernel_rfl
@[go_sem] theorem elT_22 : elT Try.prog 22 = some 5 := by kernel_rfl
@[go_sem] theorem isA_23 : isA Try.prog 23 = some false := by kernel_rfl
@[go_sem] theorem szT_23 : szT Try.prog 23 = some 1 := by kernel_rfl
@[go_sem] theorem isA_24 : isA Try.prog 24 = some false := by kernel_rfl
@[go_sem] theorem szT_24 : szT Try.prog 24 = some 1 := by kernel_rfl
@[go_sem] theorem isA_25 : isA Try.prog 25 = some false := by kernel_rfl
@[go_sem] theorem szT_25 : szT Try.prog 25 = some 1 := by kernel_rfl
@[go_sem] theorem hasT_26 : hasT Try.prog 26 = true := by kernel_rfl
@[go_sem] theorem conc_26 : Try.prog.concrete 26 = true := by kernel_rfl
@[go_sem] theorem isStr_26 : isStr Try.prog 26 = false := by kernel_rfl
@[go_sem] theorem isBoolT_26 : isBoolT Try.prog 26 = false := by kernel_rfl
@[go_sem] theorem ikT_26 : ikT Try.prog 26 = none := by kernel_rfl
@[go_sem] theorem isA_26 : isA Try.prog 26 = some false := by kernel_rfl
@[go_sem] theorem elT_26 : elT Try.prog 26 = some 21 := by kernel_rfl
@[go_sem] theorem isA_27 : isA Try.prog 27 = some false := by kernel_rfl
@[go_sem] theorem szT_27 : szT Try.prog 27 = some 1 := by kernel_rfl
@[go_sem] theorem isA_28 : isA Try.prog 28 = some false := by kernel_rfl
@[go_sem] theorem szT_28 : szT Try.prog 28 = some 1 := by kernel_rfl
@[go_sem] theorem isA_29 : isA Try.prog 29 = some false := by kernel_rfl
@[go_sem] theorem szT_29 : szT Try.prog 29 = some 1 := by kernel_rfl
@[go_sem] theorem isA_30 : isA Try.prog 30 = some false := by kernel_rfl
@[go_sem] theorem szT_30 : szT Try.prog 30 = some 1 := by kernel_rfl
@[go_sem] theorem isA_31 : isA Try.prog 31 = some false := by kernel_rfl
@[go_sem] theorem szT_31 : szT Try.prog 31 = some 1 := by kernel_rfl
@[go_sem] theorem isA_32 : isA Try.prog 32 = some false := by kernel_rfl
@[go_sem] theorem szT_32 : szT Try.prog 32 = some 1 := by kernel_rfl
@[go_sem] theorem isA_33 : isA Try.prog 33 = some false := by kernel_rfl
@[go_sem] theorem szT_33 : szT Try.prog 33 = some 1 := by kernel_rfl
@[go_sem] theorem isA_34 : isA Try.prog 34 = some false := by kernel_rfl
@[go_sem] theorem szT_34 : szT Try.prog 34 = some 1 := by kernel_rfl
@[go_sem] theorem isA_35 : isA Try.prog 35 = some false := by kernel_rfl
@[go_sem] theorem szT_35 : szT Try.prog 35 = some 1 := by kernel_rfl
@[go_sem] theorem hasT_36 : hasT Try.prog 36 = true := by kernel_rfl
@[go_sem] theorem conc_36 : Try.prog.concrete 36 = true := by kernel_rfl
@[go_sem] theorem isStr_36 : isStr Try.prog 36 = false := by kernel_rfl
@[go_sem] theorem isBoolT_36 : isBoolT Try.prog 36 = false := by kernel_rfl
@[go_sem] theorem ikT_36 : ikT Try.prog 36 = none := by kernel_rfl
@[go_sem] theorem isA_36 : isA Try.prog 36 = some false := by kernel_rfl
@[go_sem] theorem elT_36 : elT Try.prog 36 = some 22 := by kernel_rfl
@[go_sem] theorem hasT_37 : hasT Try.prog 37 = true := by kernel_rfl
@[go_sem] theorem conc_37 : Try.prog.concrete 37 = true := by kernel_rfl
@[go_sem] theorem isStr_37 : isStr Try.prog 37 = false := by kernel_rfl
@[go_sem] theorem isBoolT_37 : isBoolT Try.prog 37 = false := by kernel_rfl
@[go_sem] theorem ikT_37 : ikT Try.prog 37 = none := by kernel_rfl
@[go_sem] theorem isA_37 : isA Try.prog 37 = some false := by kernel_rfl
@[go_sem] theorem elT_37 : elT Try.prog 37 = some 3 := by kernel_rfl
@[go_sem] theorem hasT_38 : hasT Try.prog 38 = true := by kernel_rfl
@[go_sem] theorem conc_38 : Try.prog.concrete 38 = true := by kernel_rfl
@[go_sem] theorem isStr_38 : isStr Try.prog 38 = false := by kernel_rfl
@[go_sem] theorem isBoolT_38 : isBoolT Try.prog 38 = false := by kernel_rfl
@[go_sem] theorem ikT_38 : ikT Try.prog 38 = none := by kernel_rfl
@[go_sem] theorem isA_38 : isA Try.prog 38 = some false := by kernel_rfl
@[go_sem] theorem elT_38 : elT Try.prog 38 = none := by kernel_rfl
@[go_sem] theorem isA_39 : isA Try.prog 39 = some false := by kernel_rfl
@[go_sem] theorem szT_39 : szT Try.prog 39 = some 1 := by kernel_rfl
@[go_sem] theorem isA_40 : isA Try.prog 40 = some false := by kernel_rfl
@[go_sem] theorem szT_40 : szT Try.prog 40 = some 1 := by kernel_rfl
@[go_sem] theorem isA_41 : isA Try.prog 41 = some false := by kernel_rfl
@[go_sem] theorem szT_41 : szT Try.prog 41 = some 1 := by kernel_rfl
@[go_sem] theorem isA_42 : isA Try.prog 42 = some false := by kernel_rfl
@[go_sem] theorem szT_42 : szT Try.prog 42 = some 1 := by kernel_rfl
@[go_sem] theorem isA_43 : isA Try.prog 43 = some false := by kernel_rfl
@[go_sem] theorem szT_43 : szT Try.prog 43 = some 1 := by kernel_rfl
@[go_sem] theorem hasT_44 : hasT Try.prog 44 = true := by kernel_rfl
@[go_sem] theorem conc_44 : Try.prog.concrete 44 = true := by kernel_rfl
@[go_sem] theorem isStr_44 : isStr Try.prog 44 = false := by kernel_rfl
@[go_sem] theorem isBoolT_44 : isBoolT Try.prog 44 = false := by kernel_rfl
@[go_sem] theorem ikT_44 : ikT Try.prog 44 = none := by kernel_rfl
@[go_sem] theorem isA_44 : isA Try.prog 44 = some false := by kernel_rfl
@[go_sem] theorem elT_44 : elT Try.prog 44 = none := by kernel_rfl
@[go_sem] theorem hasT_45 : hasT Try.prog 45 = true := by kernel_rfl
@[go_sem] theorem conc_45 : Try.prog.concrete 45 = true := by kernel_rfl
@[go_sem] theorem isStr_45 : isStr Try.prog 45 = false := by kernel_rfl
@[go_sem] theorem isBoolT_45 : isBoolT Try.prog 45 = false := by kernel_rfl
@[go_sem] theorem ikT_45 : ikT Try.prog 45 = none := by kernel_rfl
@[go_sem] theorem isA_45 : isA Try.prog 45 = some true := by kernel_rfl
@[go_sem] theorem elT_45 : elT Try.prog 45 = none := by kernel_rfl
@[go_sem] theorem hasT_46 : hasT Try.prog 46 = true := by kernel_rfl
@[go_sem] theorem conc_46 : Try.prog.concrete 46 = true := by kernel_rfl
@[go_sem] theorem isStr_46 : isStr Try.prog 46 = false := by kernel_rfl
@[go_sem] theorem isBoolT_46 : isBoolT Try.prog 46 = false := by kernel_rfl
@[go_sem] theorem ikT_46 : ikT Try.prog 46 = none := by kernel_rfl
@[go_sem] theorem isA_46 : isA Try.prog 46 = some true := by kernel_rfl
@[go_sem] theorem elT_46 : elT Try.prog 46 = none := by kernel_rfl
@[go_sem] theorem isA_48 : isA Try.prog 48 = some false := by kernel_rfl
@[go_sem] theorem szT_48 : szT Try.prog 48 = some 1 := by kernel_rfl
@[go_sem] theorem isA_49 : isA Try.prog 49 = some false := by kernel_rfl
@[go_sem] theorem szT_49 : szT Try.prog 49 = some 1 := by kernel_rfl
@[go_sem] theorem isA_50 : isA Try.prog 50 = some false := by kernel_rfl
@[go_sem] theorem szT_50 : szT Try.prog 50 = some 1 := by kernel_rfl
@[go_sem] theorem isA_52 : isA Try.prog 52 = some false := by kernel_rfl
@[go_sem] theorem szT_52 : szT Try.prog 52 = some 1 := by kernel_rfl
@[go_sem] theorem isA_53 : isA Try.prog 53 = some false := by kernel_rfl
@[go_sem] theorem szT_53 : szT Try.prog 53 = some 1 := by kernel_rfl
@[go_sem] theorem isA_55 : isA Try.prog 55 = some false := by kernel_rfl
@[go_sem] theorem szT_55 : szT Try.prog 55 = some 1 := by kernel_rfl
@[go_sem] theorem isA_56 : isA Try.prog 56 = some false := by kernel_rfl
@[go_sem] theorem szT_56 : szT Try.prog 56 = some 1 := by kernel_rfl
@[go_sem] theorem hasT_57 : hasT Try.prog 57 = true := by kernel_rfl
@[go_sem] theorem conc_57 : Try.prog.concrete 57 = true := by kernel_rfl
@[go_sem] theorem isStr_57 : isStr Try.prog 57 = false := by kernel_rfl
@[go_sem] theorem isBoolT_57 : isBoolT Try.prog 57 = false := by kernel_rfl
@[go_sem] theorem ikT_57 : ikT Try.prog 57 = none := by kernel_rfl
@[go_sem] theorem isA_57 : isA Try.prog 57 = some true := by kernel_rfl
@[go_sem] theorem elT_57 : elT Try.prog 57 = none := by kernel_rfl
@[go_sem] theorem hasT_58 : hasT Try.prog 58 = true := by kernel_rfl
@[go_sem] theorem conc_58 : Try.prog.concrete 58 = true := by kernel_rfl
@[go_sem] theorem isStr_58 : isStr Try.prog 58 = false := by kernel_rfl
@[go_sem] theorem isBoolT_58 : isBoolT Try.prog 58 = false := by kernel_rfl
@[go_sem] theorem ikT_58 : ikT Try.prog 58 = none := by kernel_rfl
@[go_sem] theorem isA_58 : isA Try.prog 58 = some true := by kernel_rfl
@[go_sem] theorem elT_58 : elT Try.prog 58 = none := by kernel_rfl
@[go_sem] theorem isA_60 : isA Try.prog 60 = some false := by kernel_rfl
@[go_sem] theorem szT_60 : szT Try.prog 60 = some 1 := by kernel_rfl
@[go_sem] theorem isA_61 : isA Try.prog 61 = some false := by kernel_rfl
@[go_sem] theorem szT_61 : szT Try.prog 61 = some 1 := by kernel_rfl
@[go_sem] theorem hasT_62 : hasT Try.prog 62 = true := by kernel_rfl
@[go_sem] theorem conc_62 : Try.prog.concrete 62 = true := by kernel_rfl
@[go_sem] theorem isStr_62 : isStr Try.prog 62 = false := by kernel_rfl
@[go_sem] theorem isBoolT_62 : isBoolT Try.prog 62 = false := by kernel_rfl
@[go_sem] theorem ikT_62 : ikT Try.prog 62 = none := by kernel_rfl
@[go_sem] theorem isA_62 : isA Try.prog 62 = some false := by kernel_rfl
@[go_sem] theorem elT_62 : elT Try.prog 62 = none := by kernel_rfl
@[go_sem] theorem isA_64 : isA Try.prog 64 = some false := by kernel_rfl
@[go_sem] theorem szT_64 : szT Try.prog 64 = some 1 := by kernel_rfl
@[go_sem] theorem isA_65 : isA Try.prog 65 = some false := by kernel_rfl
@[go_sem] theorem szT_65 : szT Try.prog 65 = some 1 := by kernel_rfl
@[go_sem] theorem hasT_66 : hasT Try.prog 66 = true := by kernel_rfl
@[go_sem] theorem conc_66 : Try.prog.concrete 66 = true := by kernel_rfl
@[go_sem] theorem isStr_66 : isStr Try.prog 66 = false := by kernel_rfl
@[go_sem] theorem isBoolT_66 : isBoolT Try.prog 66 = false := by kernel_rfl
@[go_sem] theorem ikT_66 : ikT Try.prog 66 = none := by kernel_rfl
@[go_sem] theorem isA_66 : isA Try.prog 66 = some false := by kernel_rfl
@[go_sem] theorem elT_66 : elT Try.prog 66 = none := by kernel_rfl
@[go_sem] theorem isA_67 : isA Try.prog 67 = some false := by kernel_rfl
@[go_sem] theorem szT_67 : szT Try.prog 67 = some 1 := by kernel_rfl
@[go_sem] theorem hasT_68 : hasT Try.prog 68 = true := by kernel_rfl
@[go_sem] theorem conc_68 : Try.prog.concrete 68 = true := by kernel_rfl
@[go_sem] theorem isStr_68 : isStr Try.prog 68 = false := by kernel_rfl
@[go_sem] theorem isBoolT_68 : isBoolT Try.prog 68 = false := by kernel_rfl
@[go_sem] theorem ikT_68 : ikT Try.prog 68 = some .u32 := by kernel_rfl
@[go_sem] theorem isA_68 : isA Try.prog 68 = some false := by kernel_rfl
@[go_sem] theorem elT_68 : elT Try.prog 68 = none := by kernel_rfl
@[go_sem] theorem hasT_69 : hasT Try.prog 69 = true := by kernel_rfl
@[go_sem] theorem conc_69 : Try.prog.concrete 69 = true := by kernel_rfl
@[go_sem] theorem isStr_69 : isStr Try.prog 69 = false := by kernel_rfl
@[go_sem] theorem isBoolT_69 : isBoolT Try.prog 69 = false := by kernel_rfl
@[go_sem] theorem ikT_69 : ikT Try.prog 69 = some .u64 := by kernel_rfl
@[go_sem] theorem isA_69 : isA Try.prog 69 = some false := by kernel_rfl
@[go_sem] theorem elT_69 : elT Try.prog 69 = none := by kernel_rfl
@[go_sem] theorem hasT_70 : hasT Try.prog 70 = true := by kernel_rfl
@[go_sem] theorem conc_70 : Try.prog.concrete 70 = true := by kernel_rfl
@[go_sem] theorem isStr_70 : isStr Try.prog 70 = false := by kernel_rfl
@[go_sem] theorem isBoolT_70 : isBoolT Try.prog 70 = false := by kernel_rfl
@[go_sem] theorem ikT_70 : ikT Try.prog 70 = none := by kernel_rfl
@[go_sem] theorem isA_70 : isA Try.prog 70 = some true := by kernel_rfl
@[go_sem] theorem elT_70 : elT Try.prog 70 = none := by kernel_rfl
@[go_sem] theorem hasT_71 : hasT Try.prog 71 = true := by kernel_rfl
@[go_sem] theorem conc_71 : Try.prog.concrete 71 = true := by kernel_rfl
@[go_sem] theorem isStr_71 : isStr Try.prog 71 = false := by kernel_rfl
@[go_sem] theorem isBoolT_71 : isBoolT Try.prog 71 = false := by kernel_rfl
@[go_sem] theorem ikT_71 : ikT Try.prog 71 = none := by kernel_rfl
@[go_sem] theorem isA_71 : isA Try.prog 71 = some true := by kernel_rfl
@[go_sem] theorem elT_71 : elT Try.prog 71 = none := by kernel_rfl
@[go_sem] theorem hasT_72 : hasT Try.prog 72 = true := by kernel_rfl
@[go_sem] theorem conc_72 : Try.prog.concrete 72 = true := by kernel_rfl
@[go_sem] theorem isStr_72 : isStr Try.prog 72 = false := by kernel_rfl
@[go_sem] theorem isBoolT_72 : isBoolT Try.prog 72 = false := by kernel_rfl
@[go_sem] theorem ikT_72 : ikT Try.prog 72 = none := by kernel_rfl
@[go_sem] theorem isA_72 : isA Try.prog 72 = some true := by kernel_rfl
@[go_sem] theorem elT_72 : elT Try.prog 72 = none := by kernel_rfl
@[go_sem] theorem hasT_73 : hasT Try.prog 73 = true := by kernel_rfl
@[go_sem] theorem conc_73 : Try.prog.concrete 73 = true := by kernel_rfl
@[go_sem] theorem isStr_73 : isStr Try.prog 73 = false := by kernel_rfl
@[go_sem] theorem isBoolT_73 : isBoolT Try.prog 73 = false := by kernel_rfl
@[go_sem] theorem ikT_73 : ikT Try.prog 73 = none := by kernel_rfl
@[go_sem] theorem isA_73 : isA Try.prog 73 = some true := by kernel_rfl
@[go_sem] theorem elT_73 : elT Try.prog 73 = none := by kernel_rfl
@[go_sem] theorem hasT_74 : hasT Try.prog 74 = true := by kernel_rfl
@[go_sem] theorem conc_74 : Try.prog.concrete 74 = true := by kernel_rfl
@[go_sem] theorem isStr_74 : isStr Try.prog 74 = false := by kernel_rfl
@[go_sem] theorem isBoolT_74 : isBoolT Try.prog 74 = false := by kernel_rfl
@[go_sem] theorem ikT_74 : ikT Try.prog 74 = none := by kernel_rfl
@[go_sem] theorem isA_74 : isA Try.prog 74 = some true := by kernel_rfl
@[go_sem] theorem elT_74 : elT Try.prog 74 = none := by kernel_rfl
@[go_sem] theorem hasT_75 : hasT Try.prog 75 = true := by kernel_rfl
@[go_sem] theorem conc_75 : Try.prog.concrete 75 = true := by kernel_rfl
@[go_sem] theorem isStr_75 : isStr Try.prog 75 = false := by kernel_rfl
@[go_sem] theorem isBoolT_75 : isBoolT Try.prog 75 = false := by kernel_rfl
@[go_sem] theorem ikT_75 : ikT Try.prog 75 = some .u8 := by kernel_rfl
@[go_sem] theorem isA_75 : isA Try.prog 75 = some false := by kernel_rfl
@[go_sem] theorem elT_75 : elT Try.prog 75 = none := by kernel_rfl
@[go_sem] theorem hasT_76 : hasT Try.prog 76 = true := by kernel_rfl
@[go_sem] theorem conc_76 : Try.prog.concrete 76 = true := by kernel_rfl
@[go_sem] theorem isStr_76 : isStr Try.prog 76 = false := by kernel_rfl
@[go_sem] theorem isBoolT_76 : isBoolT Try.prog 76 = false := by kernel_rfl
@[go_sem] theorem ikT_76 : ikT Try.prog 76 = some .u8 := by kernel_rfl
@[go_sem] theorem isA_76 : isA Try.prog 76 = some false := by kernel_rfl
@[go_sem] theorem elT_76 : elT Try.prog 76 = none := by kernel_rfl
@[go_sem] theorem isA_77 : isA Try.prog 77 = some false := by kernel_rfl
@[go_sem] theorem szT_77 : szT Try.prog 77 = some 1 := by kernel_rfl
@[go_sem] theorem hasT_78 : hasT Try.prog 78 = true := by kernel_rfl
@[go_sem] theorem conc_78 : Try.prog.concrete 78 = true := by kernel_rfl
@[go_sem] theorem isStr_78 : isStr Try.prog 78 = false := by kernel_rfl
@[go_sem] theorem isBoolT_78 : isBoolT Try.prog 78 = false := by kernel_rfl
@[go_sem] theorem ikT_78 : ikT Try.prog 78 = some .i32 := by kernel_rfl
@[go_sem] theorem isA_78 : isA Try.prog 78 = some false := by kernel_rfl
@[go_sem] theorem elT_78 : elT Try.prog 78 = none := by kernel_rfl
@[go_sem] theorem hasT_79 : hasT Try.prog 79 = true := by kernel_rfl
@[go_sem] theorem conc_79 : Try.prog.concrete 79 = true := by kernel_rfl
@[go_sem] theorem isStr_79 : isStr Try.prog 79 = false := by kernel_rfl
@[go_sem] theorem isBoolT_79 : isBoolT Try.prog 79 = false := by kernel_rfl
@[go_sem] theorem ikT_79 : ikT Try.prog 79 = some .i32 := by kernel_rfl
@[go_sem] theorem isA_79 : isA Try.prog 79 = some false := by kernel_rfl
@[go_sem] theorem elT_79 : elT Try.prog 79 = none := by kernel_rfl
@[go_sem] theorem hasT_80 : hasT Try.prog 80 = true := by kernel_rfl
@[go_sem] theorem conc_80 : Try.prog.concrete 80 = true := by kernel_rfl
@[go_sem] theorem isStr_80 : isStr Try.prog 80 = false := by kernel_rfl
@[go_sem] theorem isBoolT_80 : isBoolT Try.prog 80 = false := by kernel_rfl
@[go_sem] theorem ikT_80 : ikT Try.prog 80 = none := by kernel_rfl
@[go_sem] theorem isA_80 : isA Try.prog 80 = some true := by kernel_rfl
@[go_sem] theorem elT_80 : elT Try.prog 80 = none := by kernel_rfl
@[go_sem] theorem hasT_81 : hasT Try.prog 81 = true := by kernel_rfl
@[go_sem] theorem conc_81 : Try.prog.concrete 81 = true := by kernel_rfl
@[go_sem] theorem isStr_81 : isStr Try.prog 81 = false := by kernel_rfl
@[go_sem] theorem isBoolT_81 : isBoolT Try.prog 81 = false := by kernel_rfl
@[go_sem] theorem ikT_81 : ikT Try.prog 81 = none := by kernel_rfl
@[go_sem] theorem isA_81 : isA Try.prog 81 = some true := by kernel_rfl
@[go_sem] theorem elT_81 : elT Try.prog 81 = none := by kernel_rfl
@[go_sem] theorem szT_2 : szT Try.prog 2 = some 1 := by kernel_rfl
@[go_sem] theorem szT_3 : szT Try.prog 3 = some 1 := by kernel_rfl
@[go_sem] theorem szT_4 : szT Try.prog 4 = some 1 := by kernel_rfl
@[go_sem] theorem szT_5 : szT Try.prog 5 = some 1 := by kernel_rfl
@[go_sem] theorem szT_6 : szT Try.prog 6 = some 1 := by kernel_rfl
@[go_sem] theorem szT_7 : szT Try.prog 7 = some 4 := by kernel_rfl
@[go_sem] theorem isStruct_7 : isStruct Try.prog 7 = true := by kernel_rfl
@[go_sem] theorem fldI_7_0 : fldI Try.prog 7 0 = some (0, 2) := by kernel_rfl
@[go_sem] theorem fldI_7_1 : fldI Try.prog 7 1 = some (1, 3) := by kernel_rfl
@[go_sem] theorem fldI_7_2 : fldI Try.prog 7 2 = some (2, 4) := by kernel_rfl
@[go_sem] theorem fldI_7_3 : fldI Try.prog 7 3 = some (3, 6) := by kernel_rfl
@[go_sem] theorem szT_8 : szT Try.prog 8 = some 4 := by kernel_rfl
@[go_sem] theorem isStruct_8 : isStruct Try.prog 8 = true := by kernel_rfl
@[go_sem] theorem fldI_8_0 : fldI Try.prog 8 0 = some (0, 2) := by kernel_rfl
@[go_sem] theorem fldI_8_1 : fldI Try.prog 8 1 = some (1, 3) := by kernel_rfl
@[go_sem] theorem fldI_8_2 : fldI Try.prog 8 2 = some (2, 4) := by kernel_rfl
@[go_sem] theorem fldI_8_3 : fldI Try.prog 8 3 = some (3, 6) := by kernel_rfl
@[go_sem] theorem szT_9 : szT Try.prog 9 = some 1 := by kernel_rfl
@[go_sem] theorem szT_10 : szT Try.prog 10 = some 1 := by kernel_rfl
@[go_sem] theorem szT_11 : szT Try.prog 11 = some 1 := by kernel_rfl
@[go_sem] theorem szT_12 : szT Try.prog 12 = some 1 := by kernel_rfl
@[go_sem] theorem szT_13 : szT Try.prog 13 = some 2 := by kernel_rfl
@[go_sem] theorem isStruct_13 : isStruct Try.prog 13 = true := by kernel_rfl
@[go_sem] theorem fldI_13_0 : fldI Try.prog 13 0 = some (0, 9) := by kernel_rfl
@[go_sem] theorem fldI_13_1 : fldI Try.prog 13 1 = some (1, 12) := by kernel_rfl
@[go_sem] theorem szT_14 : szT Try.prog 14 = some 2 := by kernel_rfl
@[go_sem] theorem isStruct_14 : isStruct Try.prog 14 = true := by kernel_rfl
@[go_sem] theorem fldI_14_0 : fldI Try.prog 14 0 = some (0, 9) := by kernel_rfl
@[go_sem] theorem fldI_14_1 : fldI Try.prog 14 1 = some (1, 12) := by kernel_rfl
@[go_sem] theorem szT_15 : szT Try.prog 15 = some 1 := by kernel_rfl
@[go_sem] theorem szT_16 : szT Try.prog 16 = some 1 := by kernel_rfl
@[go_sem] theorem szT_17 : szT Try.prog 17 = some 1 := by kernel_rfl
@[go_sem] theorem szT_18 : szT Try.prog 18 = some 1 := by kernel_rfl
@[go_sem] theorem isStruct_18 : isStruct Try.prog 18 = true := by kernel_rfl
@[go_sem] theorem fldI_18_0 : fldI Try.prog 18 0 = some (0, 17) := by kernel_rfl
@[go_sem] theorem szT_19 : szT Try.prog 19 = some 1 := by kernel_rfl
@[go_sem] theorem isStruct_19 : isStruct Try.prog 19 = true := by kernel_rfl
@[go_sem] theorem fldI_19_0 : fldI Try.prog 19 0 = some (0, 17) := by kernel_rfl
@[go_sem] theorem szT_21 : szT Try.prog 21 = some 1 := by kernel_rfl
@[go_sem] theorem szT_22 : szT Try.prog 22 = some 1 := by kernel_rfl
@[go_sem] theorem szE_22 : szE Try.prog 22 = some 1 := by kernel_rfl
@[go_sem] theorem szT_26 : szT Try.prog 26 = some 1 := by kernel_rfl
@[go_sem] theorem szE_26 : szE Try.prog 26 = some 1 := by kernel_rfl
@[go_sem] theorem szT_36 : szT Try.prog 36 = some 1 := by kernel_rfl
@[go_sem] theorem szE_36 : szE Try.prog 36 = some 1 := by kernel_rfl
@[go_sem] theorem szT_37 : szT Try.prog 37 = some 1 := by kernel_rfl
@[go_sem] theorem szE_37 : szE Try.prog 37 = some 1 := by kernel_rfl
@[go_sem] theorem szT_38 : szT Try.prog 38 = some 1 := by kernel_rfl
@[go_sem] theorem szT_44 : szT Try.prog 44 = some 1 := by kernel_rfl
@[go_sem] theorem szT_45 : szT Try.prog 45 = some 2 := by kernel_rfl
@[go_sem] theorem isStruct_45 : isStruct Try.prog 45 = true := by kernel_rfl
@[go_sem] theorem fldI_45_0 : fldI Try.prog 45 0 = some (0, 44) := by kernel_rfl
@[go_sem] theorem fldI_45_1 : fldI Try.prog 45 1 = some (1, 22) := by kernel_rfl
@[go_sem] theorem szT_46 : szT Try.prog 46 = some 2 := by kernel_rfl
@[go_sem] theorem isStruct_46 : isStruct Try.prog 46 = true := by kernel_rfl
@[go_sem] theorem fldI_46_0 : fldI Try.prog 46 0 = some (0, 44) := by kernel_rfl
@[go_sem] theorem fldI_46_1 : fldI Try.prog 46 1 = some (1, 22) := by kernel_rfl
@[go_sem] theorem szT_57 : szT Try.prog 57 = some 1 := by kernel_rfl
@[go_sem] theorem isStruct_57 : isStruct Try.prog 57 = true := by kernel_rfl
@[go_sem] theorem fldI_57_0 : fldI Try.prog 57 0 = some (0, 22) := by kernel_rfl
@[go_sem] theorem szT_58 : szT Try.prog 58 = some 1 := by kernel_rfl
@[go_sem] theorem isStruct_58 : isStruct Try.prog 58 = true := by kernel_rfl
@[go_sem] theorem fldI_58_0 : fldI Try.prog 58 0 = some (0, 22) := by kernel_rfl
@[go_sem] theorem szT_62 : szT Try.prog 62 = some 1 := by kernel_rfl
@[go_sem] theorem szT_66 : szT Try.prog 66 = some 1 := by kernel_rfl
@[go_sem] theorem szT_68 : szT Try.prog 68 = some 1 := by kernel_rfl
@[go_sem] theorem szT_69 : szT Try.prog 69 = some 1 := by kernel_rfl
@[go_sem] theorem szT_70 : szT Try.prog 70 = some 4 := by kernel_rfl
@[go_sem] theorem isStruct_70 : isStruct Try.prog 70 = true := by kernel_rfl
@[go_sem] theorem fldI_70_0 : fldI Try.prog 70 0 = some (0, 17) := by kernel_rfl
@[go_sem] theorem fldI_70_1 : fldI Try.prog 70 1 = some (1, 17) := by kernel_rfl
@[go_sem] theorem fldI_70_2 : fldI Try.prog 70 2 = some (2, 17) := by kernel_rfl
@[go_sem] theorem fldI_70_3 : fldI Try.prog 70 3 = some (3, 9) := by kernel_rfl
@[go_sem] theorem szT_71 : szT Try.prog 71 = some 4 := by kernel_rfl
@[go_sem] theorem isStruct_71 : isStruct Try.prog 71 = true := by kernel_rfl
@[go_sem] theorem fldI_71_0 : fldI Try.prog 71 0 = some (0, 17) := by kernel_rfl
@[go_sem] theorem fldI_71_1 : fldI Try.prog 71 1 = some (1, 17) := by kernel_rfl
@[go_sem] theorem fldI_71_2 : fldI Try.prog 71 2 = some (2, 17) := by kernel_rfl
@[go_sem] theorem fldI_71_3 : fldI Try.prog 71 3 = some (3, 9) := by kernel_rfl
@[go_sem] theorem szT_72 : szT Try.prog 72 = some 0 := by kernel_rfl
@[go_sem] theorem szT_73 : szT Try.prog 73 = some 0 := by kernel_rfl
@[go_sem] theorem isStruct_73 : isStruct Try.prog 73 = true := by kernel_rfl
@[go_sem] theorem fldI_73_0 : fldI Try.prog 73 0 = some (0, 72) := by kernel_rfl
@[go_sem] theorem szT_74 : szT Try.prog 74 = some 0 := by kernel_rfl
@[go_sem] theorem isStruct_74 : isStruct Try.prog 74 = true := by kernel_rfl
@[go_sem] theorem fldI_74_0 : fldI Try.prog 74 0 = some (0, 72) := by kernel_rfl
@[go_sem] theorem szT_75 : szT Try.prog 75 = some 1 := by kernel_rfl
@[go_sem] theorem szT_76 : szT Try.prog 76 = some 1 := by kernel_rfl
@[go_sem] theorem szT_78 : szT Try.prog 78 = some 1 := by kernel_rfl
@[go_sem] theorem szT_79 : szT Try.prog 79 = some 1 := by kernel_rfl
@[go_sem] theorem szT_80 : szT Try.prog 80 = some 11 := by kernel_rfl
@[go_sem] theorem isStruct_80 : isStruct Try.prog 80 = true := by kernel_rfl
@[go_sem] theorem fldI_80_0 : fldI Try.prog 80 0 = some (0, 12) := by kernel_rfl
@[go_sem] theorem fldI_80_1 : fldI Try.prog 80 1 = some (1, 12) := by kernel_rfl
@[go_sem] theorem fldI_80_2 : fldI Try.prog 80 2 = some (2, 68) := by kernel_rfl
@[go_sem] theorem fldI_80_3 : fldI Try.prog 80 3 = some (3, 75) := by kernel_rfl
@[go_sem] theorem fldI_80_4 : fldI Try.prog 80 4 = some (4, 5) := by kernel_rfl
@[go_sem] theorem fldI_80_5 : fldI Try.prog 80 5 = some (5, 5) := by kernel_rfl
@[go_sem] theorem fldI_80_6 : fldI Try.prog 80 6 = some (6, 76) := by kernel_rfl
@[go_sem] theorem fldI_80_7 : fldI Try.prog 80 7 = some (7, 77) := by kernel_rfl
@[go_sem] theorem fldI_80_8 : fldI Try.prog 80 8 = some (8, 62) := by kernel_rfl
@[go_sem] theorem fldI_80_9 : fldI Try.prog 80 9 = some (9, 78) := by kernel_rfl
@[go_sem] theorem fldI_80_10 : fldI Try.prog 80 10 = some (10, 79) := by kernel_rfl
@[go_sem] theorem szT_81 : szT Try.prog 81 = some 11 := by kernel_rfl
@[go_sem] theorem isStruct_81 : isStruct Try.prog 81 = true := by kernel_rfl
@[go_sem] theorem fldI_81_0 : fldI Try.prog 81 0 = some (0, 12) := by kernel_rfl
@[go_sem] theorem fldI_81_1 : fldI Try.prog 81 1 = some (1, 12) := by kernel_rfl
@[go_sem] theorem fldI_81_2 : fldI Try.prog 81 2 = some (2, 68) := by kernel_rfl
@[go_sem] theorem fldI_81_3 : fldI Try.prog 81 3 = some (3, 75) := by kernel_rfl
@[go_sem] theorem fldI_81_4 : fldI Try.prog 81 4 = some (4, 5) := by kernel_rfl
@[go_sem] theorem fldI_81_5 : fldI Try.prog 81 5 = some (5, 5) := by kernel_rfl
@[go_sem] theorem fldI_81_6 : fldI Try.prog 81 6 = some (6, 76) := by kernel_rfl
@[go_sem] theorem fldI_81_7 : fldI Try.prog 81 7 = some (7, 77) := by kernel_rfl
@[go_sem] theorem fldI_81_8 : fldI Try.prog 81 8 = some (8, 62) := by kernel_rfl
@[go_sem] theorem fldI_81_9 : fldI Try.prog 81 9 = some (9, 78) := by kernel_rfl
@[go_sem] theorem fldI_81_10 : fldI Try.prog 81 10 = some (10, 79) := by kernel_rfl
@[go_sem] theorem zeroA_1 : zeroA Try.prog 1 = some [.sc .nilFunc] := by kernel_rfl
@[go_sem] theorem zeroA_2 : zeroA Try.prog 2 = some [.int .i64 0] := by kernel_rfl
@[go_sem] theorem zeroA_3 : zeroA Try.prog 3 = some [.int .i64 0] := by kernel_rfl
@[go_sem] theorem zeroA_4 : zeroA Try.prog 4 = some [.bool false] := by kernel_rfl
@[go_sem] theorem zeroA_5 : zeroA Try.prog 5 = some [.int .u8 0] := by kernel_rfl
@[go_sem] theorem zeroA_6 : zeroA Try.prog 6 = some [.int .u8 0] := by kernel_rfl
@[go_sem] theorem zeroA_7 : zeroA Try.prog 7 = some [.int .i64 0, .int .i64 0, .bool false, .int .u8 0] := by kernel_rfl
@[go_sem] theorem zeroA_8 : zeroA Try.prog 8 = some [.int .i64 0, .int .i64 0, .bool false, .int .u8 0] := by kernel_rfl
@[go_sem] theorem zeroA_9 : zeroA Try.prog 9 = some [.str []] := by kernel_rfl
@[go_sem] theorem zeroA_10 : zeroA Try.prog 10 = some [.str []] := by kernel_rfl
@[go_sem] theorem zeroA_11 : zeroA Try.prog 11 = some [.str []] := by kernel_rfl
@[go_sem] theorem zeroA_12 : zeroA Try.prog 12 = some [.int .u64 0] := by kernel_rfl
@[go_sem] theorem zeroA_13 : zeroA Try.prog 13 = some [.str [], .int .u64 0] := by kernel_rfl
@[go_sem] theorem zeroA_14 : zeroA Try.prog 14 = some [.str [], .int .u64 0] := by kernel_rfl
@[go_sem] theorem zeroA_15 : zeroA Try.prog 15 = some [.sc (.pointer none)] := by kernel_rfl
@[go_sem] theorem zeroA_16 : zeroA Try.prog 16 = some [.sc (.pointer none)] := by kernel_rfl
@[go_sem] theorem zeroA_17 : zeroA Try.prog 17 = some [.sc (.pointer none)] := by kernel_rfl
@[go_sem] theorem zeroA_18 : zeroA Try.prog 18 = some [.sc (.pointer none)] := by kernel_rfl
@[go_sem] theorem zeroA_19 : zeroA Try.prog 19 = some [.sc (.pointer none)] := by kernel_rfl
@[go_sem] theorem zeroA_20 : zeroA Try.prog 20 = some [.sc .nilIface] := by kernel_rfl
@[go_sem] theorem zeroA_21 : zeroA Try.prog 21 = some [.int .i32 0] := by kernel_rfl
@[go_sem] theorem zeroA_22 : zeroA Try.prog 22 = some [.sc (.slice none 0 0)] := by kernel_rfl
@[go_sem] theorem zeroA_23 : zeroA Try.prog 23 = some [.sc .nilFunc] := by kernel_rfl
@[go_sem] theorem zeroA_24 : zeroA Try.prog 24 = some [.sc .nilFunc] := by kernel_rfl
@[go_sem] theorem zeroA_25 : zeroA Try.prog 25 = some [.sc .nilFunc] := by kernel_rfl
@[go_sem] theorem zeroA_26 : zeroA Try.prog 26 = some [.sc (.slice none 0 0)] := by kernel_rfl
@[go_sem] theorem zeroA_27 : zeroA Try.prog 27 = some [.sc .nilFunc] := by kernel_rfl
@[go_sem] theorem zeroA_28 : zeroA Try.prog 28 = some [.sc .nilFunc] := by kernel_rfl
@[go_sem] theorem zeroA_29 : zeroA Try.prog 29 = some [.sc .nilFunc] := by kernel_rfl
@[go_sem] theorem zeroA_30 : zeroA Try.prog 30 = some [.sc .nilFunc] := by kernel_rfl
@[go_sem] theorem zeroA_31 : zeroA Try.prog 31 = some [.sc .nilFunc] := by kernel_rfl
@[go_sem] theorem zeroA_32 : zeroA Try.prog 32 = some [.sc .nilFunc] := by kernel_rfl
@[go_sem] theorem zeroA_33 : zeroA Try.prog 33 = some [.sc .nilFunc] := by kernel_rfl
@[go_sem] theorem zeroA_34 : zeroA Try.prog 34 = some [.sc .nilFunc] := by kernel_rfl
@[go_sem] theorem zeroA_35 : zeroA Try.prog 35 = some [.sc .nilFunc] := by kernel_rfl
@[go_sem] theorem zeroA_36 : zeroA Try.prog 36 = some [.sc (.slice none 0 0)] := by kernel_rfl
@[go_sem] theorem zeroA_37 : zeroA Try.prog 37 = some [.sc (.slice none 0 0)] := by kernel_rfl
@[go_sem] theorem zeroA_38 : zeroA Try.prog 38 = some [.sc (.pointer none)] := by kernel_rfl
@[go_sem] theorem zeroA_39 : zeroA Try.prog 39 = some [.sc .nilFunc] := by kernel_rfl
@[go_sem] theorem zeroA_40 : zeroA Try.prog 40 = some [.sc .nilFunc] := by kernel_rfl
@[go_sem] theorem zeroA_41 : zeroA Try.prog 41 = some [.sc .nilFunc] := by kernel_rfl
@[go_sem] theorem zeroA_42 : zeroA Try.prog 42 = some [.sc .nilFunc] := by kernel_rfl
@[go_sem] theorem zeroA_43 : zeroA Try.prog 43 = some [.sc .nilFunc] := by kernel_rfl
@[go_sem] theorem zeroA_44 : zeroA Try.prog 44 = some [.sc (.pointer none)] := by kernel_rfl
@[go_sem] theorem zeroA_45 : zeroA Try.prog 45 = some [.sc (.pointer none), .sc (.slice none 0 0)] := by kernel_rfl
@[go_sem] theorem zeroA_46 : zeroA Try.prog 46 = some [.sc (.pointer none), .sc (.slice none 0 0)] := by kernel_rfl
@[go_sem] theorem zeroA_48 : zeroA Try.prog 48 = some [.sc .nilFunc] := by kernel_rfl
@[go_sem] theorem zeroA_49 : zeroA Try.prog 49 = some [.sc .nilIface] := by kernel_rfl
@[go_sem] theorem zeroA_50 : zeroA Try.prog 50 = some [.sc .nilIface] := by kernel_rfl
@[go_sem] theorem zeroA_52 : zeroA Try.prog 52 = some [.sc .nilFunc] := by kernel_rfl
@[go_sem] theorem zeroA_53 : zeroA Try.prog 53 = some [.sc .nilFunc] := by kernel_rfl
@[go_sem] theorem zeroA_55 : zeroA Try.prog 55 = some [.sc .nilFunc] := by kernel_rfl
@[go_sem] theorem zeroA_56 : zeroA Try.prog 56 = some [.sc .nilFunc] := by kernel_rfl
@[go_sem] theorem zeroA_57 : zeroA Try.prog 57 = some [.sc (.slice none 0 0)] := by kernel_rfl
@[go_sem] theorem zeroA_58 : zeroA Try.prog 58 = some [.sc (.slice none 0 0)] := by kernel_rfl
@[go_sem] theorem zeroA_60 : zeroA Try.prog 60 = some [.sc .nilFunc] := by kernel_rfl
@[go_sem] theorem zeroA_61 : zeroA Try.prog 61 = some [.sc .nilFunc] := by kernel_rfl
@[go_sem] theorem zeroA_62 : zeroA Try.prog 62 = some [.sc (.pointer none)] := by kernel_rfl
@[go_sem] theorem zeroA_64 : zeroA Try.prog 64 = some [.sc .nilFunc] := by kernel_rfl
@[go_sem] theorem zeroA_65 : zeroA Try.prog 65 = some [.sc .nilFunc] := by kernel_rfl
@[go_sem] theorem zeroA_66 : zeroA Try.prog 66 = some [.sc (.pointer none)] := by kernel_rfl
@[go_sem] theorem zeroA_67 : zeroA Try.prog 67 = some [.sc .nilFunc] := by kernel_rfl
@[go_sem] theorem zeroA_68 : zeroA Try.prog 68 = some [.int .u32 0] := by kernel_rfl
@[go_sem] theorem zeroA_69 : zeroA Try.prog 69 = some [.int .u64 0] := by kernel_rfl
@[go_sem] theorem zeroA_70 : zeroA Try.prog 70 = some [.sc (.pointer none), .sc (.pointer none), .sc (.pointer none), .str []] := by kernel_rfl
@[go_sem] theorem zeroA_71 : zeroA Try.prog 71 = some [.sc (.pointer none), .sc (.pointer none), .sc (.pointer none), .str []] := by kernel_rfl
@[go_sem] theorem zeroA_73 : zeroA Try.prog 73 = some [] := by kernel_rfl
@[go_sem] theorem zeroA_74 : zeroA Try.prog 74 = some [] := by kernel_rfl
@[go_sem] theorem zeroA_75 : zeroA Try.prog 75 = some [.int .u8 0] := by kernel_rfl
@[go_sem] theorem zeroA_76 : zeroA Try.prog 76 = some [.int .u8 0] := by kernel_rfl
@[go_sem] theorem zeroA_77 : zeroA Try.prog 77 = some [.sc .nilFunc] := by kernel_rfl
@[go_sem] theorem zeroA_78 : zeroA Try.prog 78 = some [.int .i32 0] := by kernel_rfl
@[go_sem] theorem zeroA_79 : zeroA Try.prog 79 = some [.int .i32 0] := by kernel_rfl
@[go_sem] theorem zeroA_80 : zeroA Try.prog 80 = some [.int .u64 0, .int .u64 0, .int .u32 0, .int .u8 0, .int .u8 0, .int .u8 0, .int .u8 0, .sc .nilFunc, .sc (.pointer none), .int .i32 0, .int .i32 0] := by kernel_rfl
@[go_sem] theorem zeroA_81 : zeroA Try.prog 81 = some [.int .u64 0, .int .u64 0, .int .u32 0, .int .u8 0, .int .u8 0, .int .u8 0, .int .u8 0, .sc .nilFunc, .sc (.pointer none), .int .i32 0, .int .i32 0] := by kernel_rfl
@[go_sem] theorem tyS_22 : tyS Try.prog 22 = some (5, 1, 1) := by kernel_rfl
@[go_sem] theorem tyS_26 : tyS Try.prog 26 = some (21, 1, 4) := by kernel_rfl
@[go_sem] theorem tyS_36 : tyS Try.prog 36 = some (22, 1, 24) := by kernel_rfl
@[go_sem] theorem tyS_37 : tyS Try.prog 37 = some (3, 1, 8) := by kernel_rfl
@[go_sem] theorem ptrT_15 : ptrT Try.prog 15 = true := by kernel_rfl
@[go_sem] theorem ptrE_15 : ptrE Try.prog 15 = some 71 := by kernel_rfl
@[go_sem] theorem ptrT_16 : ptrT Try.prog 16 = true := by kernel_rfl
@[go_sem] theorem ptrE_16 : ptrE Try.prog 16 = some 74 := by kernel_rfl
@[go_sem] theorem ptrT_17 : ptrT Try.prog 17 = true := by kernel_rfl
@[go_sem] theorem ptrE_17 : ptrE Try.prog 17 = some 81 := by kernel_rfl
@[go_sem] theorem ptrT_38 : ptrT Try.prog 38 = true := by kernel_rfl
@[go_sem] theorem ptrE_38 : ptrE Try.prog 38 = some 58 := by kernel_rfl
@[go_sem] theorem ptrT_44 : ptrT Try.prog 44 = true := by kernel_rfl
@[go_sem] theorem ptrE_44 : ptrE Try.prog 44 = some 46 := by kernel_rfl
@[go_sem] theorem unsTo_44_66 : unsOK Try.prog 44 66 46 2 0 = true := by kernel_rfl
@[go_sem] theorem unsFrom_44_66 : unsOK Try.prog 66 44 46 2 0 = true := by kernel_rfl
@[go_sem] theorem ptrT_62 : ptrT Try.prog 62 = true := by kernel_rfl
@[go_sem] theorem ptrE_62 : ptrE Try.prog 62 = some 5 := by kernel_rfl
theorem follows_mixed : Try.prog.follows .mixedOrders = true := by kernel_rfl
end Go.Proofs.Ytcmmmomkfamodaa
