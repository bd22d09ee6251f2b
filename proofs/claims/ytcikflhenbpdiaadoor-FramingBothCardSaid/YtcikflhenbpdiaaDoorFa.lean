/- Closed facts on the types of this seat's program: what 'isA', 'szT' and their kin answer. Printed by wip/tools/facts.py. -/
import Derived.Test.YtcikflhenbpdiaaDoorRows
import Derived.Test.YtcikflhenbpdiaaDoorFwD
namespace Go.Proofs.YtcikflhenbpdiaaDoor
open Go.Av
set_option linter.unusedVariables false
@[go_sem] theorem isA_1 : isA Tryd.prog 1 = some false := by kernel_rfl
@[go_sem] theorem szT_1 : szT Tryd.prog 1 = some 1 := by kernel_rfl
@[go_sem] theorem hasT_2 : hasT Tryd.prog 2 = true := by kernel_rfl
@[go_sem] theorem conc_2 : Tryd.prog.concrete 2 = true := by kernel_rfl
@[go_sem] theorem isStr_2 : isStr Tryd.prog 2 = false := by kernel_rfl
@[go_sem] theorem isBoolT_2 : isBoolT Tryd.prog 2 = false := by kernel_rfl
@[go_sem] theorem ikT_2 : ikT Tryd.prog 2 = some .i64 := by kernel_rfl
@[go_sem] theorem isA_2 : isA Tryd.prog 2 = some false := by kernel_rfl
@[go_sem] theorem elT_2 : elT Tryd.prog 2 = none := by kernel_rfl
@[go_sem] theorem hasT_3 : hasT Tryd.prog 3 = true := by kernel_rfl
@[go_sem] theorem conc_3 : Tryd.prog.concrete 3 = true := by kernel_rfl
@[go_sem] theorem isStr_3 : isStr Tryd.prog 3 = false := by kernel_rfl
@[go_sem] theorem isBoolT_3 : isBoolT Tryd.prog 3 = false := by kernel_rfl
@[go_sem] theorem ikT_3 : ikT Tryd.prog 3 = some .i64 := by kernel_rfl
@[go_sem] theorem isA_3 : isA Tryd.prog 3 = some false := by kernel_rfl
@[go_sem] theorem elT_3 : elT Tryd.prog 3 = none := by kernel_rfl
@[go_sem] theorem hasT_4 : hasT Tryd.prog 4 = true := by kernel_rfl
@[go_sem] theorem conc_4 : Tryd.prog.concrete 4 = true := by kernel_rfl
@[go_sem] theorem isStr_4 : isStr Tryd.prog 4 = false := by kernel_rfl
@[go_sem] theorem isBoolT_4 : isBoolT Tryd.prog 4 = true := by kernel_rfl
@[go_sem] theorem ikT_4 : ikT Tryd.prog 4 = none := by kernel_rfl
@[go_sem] theorem isA_4 : isA Tryd.prog 4 = some false := by kernel_rfl
@[go_sem] theorem elT_4 : elT Tryd.prog 4 = none := by kernel_rfl
@[go_sem] theorem hasT_5 : hasT Tryd.prog 5 = true := by kernel_rfl
@[go_sem] theorem conc_5 : Tryd.prog.concrete 5 = true := by kernel_rfl
@[go_sem] theorem isStr_5 : isStr Tryd.prog 5 = false := by kernel_rfl
@[go_sem] theorem isBoolT_5 : isBoolT Tryd.prog 5 = false := by kernel_rfl
@[go_sem] theorem ikT_5 : ikT Tryd.prog 5 = some .u8 := by kernel_rfl
@[go_sem] theorem isA_5 : isA Tryd.prog 5 = some false := by kernel_rfl
@[go_sem] theorem elT_5 : elT Tryd.prog 5 = none := by kernel_rfl
@[go_sem] theorem hasT_6 : hasT Tryd.prog 6 = true := by kernel_rfl
@[go_sem] theorem conc_6 : Tryd.prog.concrete 6 = true := by kernel_rfl
@[go_sem] theorem isStr_6 : isStr Tryd.prog 6 = false := by kernel_rfl
@[go_sem] theorem isBoolT_6 : isBoolT Tryd.prog 6 = false := by kernel_rfl
@[go_sem] theorem ikT_6 : ikT Tryd.prog 6 = some .u8 := by kernel_rfl
@[go_sem] theorem isA_6 : isA Tryd.prog 6 = some false := by kernel_rfl
@[go_sem] theorem elT_6 : elT Tryd.prog 6 = none := by kernel_rfl
@[go_sem] theorem hasT_7 : hasT Tryd.prog 7 = true := by kernel_rfl
@[go_sem] theorem conc_7 : Tryd.prog.concrete 7 = true := by kernel_rfl
@[go_sem] theorem isStr_7 : isStr Tryd.prog 7 = false := by kernel_rfl
@[go_sem] theorem isBoolT_7 : isBoolT Tryd.prog 7 = false := by kernel_rfl
@[go_sem] theorem ikT_7 : ikT Tryd.prog 7 = none := by kernel_rfl
@[go_sem] theorem isA_7 : isA Tryd.prog 7 = some true := by kernel_rfl
@[go_sem] theorem elT_7 : elT Tryd.prog 7 = none := by kernel_rfl
@[go_sem] theorem hasT_8 : hasT Tryd.prog 8 = true := by kernel_rfl
@[go_sem] theorem conc_8 : Tryd.prog.concrete 8 = true := by kernel_rfl
@[go_sem] theorem isStr_8 : isStr Tryd.prog 8 = false := by kernel_rfl
@[go_sem] theorem isBoolT_8 : isBoolT Tryd.prog 8 = false := by kernel_rfl
@[go_sem] theorem ikT_8 : ikT Tryd.prog 8 = none := by kernel_rfl
@[go_sem] theorem isA_8 : isA Tryd.prog 8 = some true := by kernel_rfl
@[go_sem] theorem elT_8 : elT Tryd.prog 8 = none := by kernel_rfl
@[go_sem] theorem hasT_9 : hasT Tryd.prog 9 = true := by kernel_rfl
@[go_sem] theorem conc_9 : Tryd.prog.concrete 9 = true := by kernel_rfl
@[go_sem] theorem isStr_9 : isStr Tryd.prog 9 = true := by kernel_rfl
@[go_sem] theorem isBoolT_9 : isBoolT Tryd.prog 9 = false := by kernel_rfl
@[go_sem] theorem ikT_9 : ikT Tryd.prog 9 = none := by kernel_rfl
@[go_sem] theorem isA_9 : isA Tryd.prog 9 = some false := by kernel_rfl
@[go_sem] theorem elT_9 : elT Tryd.prog 9 = none := by kernel_rfl
@[go_sem] theorem hasT_10 : hasT Tryd.prog 10 = true := by kernel_rfl
@[go_sem] theorem conc_10 : Tryd.prog.concrete 10 = true := by kernel_rfl
@[go_sem] theorem isStr_10 : isStr Tryd.prog 10 = true := by kernel_rfl
@[go_sem] theorem isBoolT_10 : isBoolT Tryd.prog 10 = false := by kernel_rfl
@[go_sem] theorem ikT_10 : ikT Tryd.prog 10 = none := by kernel_rfl
@[go_sem] theorem isA_10 : isA Tryd.prog 10 = some false := by kernel_rfl
@[go_sem] theorem elT_10 : elT Tryd.prog 10 = none := by kernel_rfl
@[go_sem] theorem hasT_11 : hasT Tryd.prog 11 = true := by kernel_rfl
@[go_sem] theorem conc_11 : Tryd.prog.concrete 11 = true := by kernel_rfl
@[go_sem] theorem isStr_11 : isStr Tryd.prog 11 = true := by kernel_rfl
@[go_sem] theorem isBoolT_11 : isBoolT Tryd.prog 11 = false := by kernel_rfl
@[go_sem] theorem ikT_11 : ikT Tryd.prog 11 = none := by kernel_rfl
@[go_sem] theorem isA_11 : isA Tryd.prog 11 = some false := by kernel_rfl
@[go_sem] theorem elT_11 : elT Tryd.prog 11 = none := by kernel_rfl
@[go_sem] theorem hasT_12 : hasT Tryd.prog 12 = true := by kernel_rfl
@[go_sem] theorem conc_12 : Tryd.prog.concrete 12 = true := by kernel_rfl
@[go_sem] theorem isStr_12 : isStr Tryd.prog 12 = false := by kernel_rfl
@[go_sem] theorem isBoolT_12 : isBoolT Tryd.prog 12 = false := by kernel_rfl
@[go_sem] theorem ikT_12 : ikT Tryd.prog 12 = some .u64 := by kernel_rfl
@[go_sem] theorem isA_12 : isA Tryd.prog 12 = some false := by kernel_rfl
@[go_sem] theorem elT_12 : elT Tryd.prog 12 = none := by kernel_rfl
@[go_sem] theorem hasT_13 : hasT Tryd.prog 13 = true := by kernel_rfl
@[go_sem] theorem conc_13 : Tryd.prog.concrete 13 = true := by kernel_rfl
@[go_sem] theorem isStr_13 : isStr Tryd.prog 13 = false := by kernel_rfl
@[go_sem] theorem isBoolT_13 : isBoolT Tryd.prog 13 = false := by kernel_rfl
@[go_sem] theorem ikT_13 : ikT Tryd.prog 13 = none := by kernel_rfl
@[go_sem] theorem isA_13 : isA Tryd.prog 13 = some true := by kernel_rfl
@[go_sem] theorem elT_13 : elT Tryd.prog 13 = none := by kernel_rfl
@[go_sem] theorem hasT_14 : hasT Tryd.prog 14 = true := by kernel_rfl
@[go_sem] theorem conc_14 : Tryd.prog.concrete 14 = true := by kernel_rfl
@[go_sem] theorem isStr_14 : isStr Tryd.prog 14 = false := by kernel_rfl
@[go_sem] theorem isBoolT_14 : isBoolT Tryd.prog 14 = false := by kernel_rfl
@[go_sem] theorem ikT_14 : ikT Tryd.prog 14 = none := by kernel_rfl
@[go_sem] theorem isA_14 : isA Tryd.prog 14 = some true := by kernel_rfl
@[go_sem] theorem elT_14 : elT Tryd.prog 14 = none := by kernel_rfl
@[go_sem] theorem hasT_15 : hasT Tryd.prog 15 = true := by kernel_rfl
@[go_sem] theorem conc_15 : Tryd.prog.concrete 15 = true := by kernel_rfl
@[go_sem] theorem isStr_15 : isStr Tryd.prog 15 = false := by kernel_rfl
@[go_sem] theorem isBoolT_15 : isBoolT Tryd.prog 15 = false := by kernel_rfl
@[go_sem] theorem ikT_15 : ikT Tryd.prog 15 = none := by kernel_rfl
@[go_sem] theorem isA_15 : isA Tryd.prog 15 = some false := by kernel_rfl
@[go_sem] theorem elT_15 : elT Tryd.prog 15 = none := by kernel_rfl
@[go_sem] theorem hasT_16 : hasT Tryd.prog 16 = true := by kernel_rfl
@[go_sem] theorem conc_16 : Tryd.prog.concrete 16 = true := by kernel_rfl
@[go_sem] theorem isStr_16 : isStr Tryd.prog 16 = false := by kernel_rfl
@[go_sem] theorem isBoolT_16 : isBoolT Tryd.prog 16 = false := by kernel_rfl
@[go_sem] theorem ikT_16 : ikT Tryd.prog 16 = none := by kernel_rfl
@[go_sem] theorem isA_16 : isA Tryd.prog 16 = some false := by kernel_rfl
@[go_sem] theorem elT_16 : elT Tryd.prog 16 = none := by kernel_rfl
@[go_sem] theorem hasT_17 : hasT Tryd.prog 17 = true := by kernel_rfl
@[go_sem] theorem conc_17 : Tryd.prog.concrete 17 = true := by kernel_rfl
@[go_sem] theorem isStr_17 : isStr Tryd.prog 17 = false := by kernel_rfl
@[go_sem] theorem isBoolT_17 : isBoolT Tryd.prog 17 = false := by kernel_rfl
@[go_sem] theorem ikT_17 : ikT Tryd.prog 17 = none := by kernel_rfl
@[go_sem] theorem isA_17 : isA Tryd.prog 17 = some false := by kernel_rfl
@[go_sem] theorem elT_17 : elT Tryd.prog 17 = none := by kernel_rfl
@[go_sem] theorem hasT_18 : hasT Tryd.prog 18 = true := by kernel_rfl
@[go_sem] theorem conc_18 : Tryd.prog.concrete 18 = true := by kernel_rfl
@[go_sem] theorem isStr_18 : isStr Tryd.prog 18 = false := by kernel_rfl
@[go_sem] theorem isBoolT_18 : isBoolT Tryd.prog 18 = false := by kernel_rfl
@[go_sem] theorem ikT_18 : ikT Tryd.prog 18 = none := by kernel_rfl
@[go_sem] theorem isA_18 : isA Tryd.prog 18 = some true := by kernel_rfl
@[go_sem] theorem elT_18 : elT Tryd.prog 18 = none := by kernel_rfl
@[go_sem] theorem hasT_19 : hasT Tryd.prog 19 = true := by kernel_rfl
@[go_sem] theorem conc_19 : Tryd.prog.concrete 19 = true := by kernel_rfl
@[go_sem] theorem isStr_19 : isStr Tryd.prog 19 = false := by kernel_rfl
@[go_sem] theorem isBoolT_19 : isBoolT Tryd.prog 19 = false := by kernel_rfl
@[go_sem] theorem ikT_19 : ikT Tryd.prog 19 = none := by kernel_rfl
@[go_sem] theorem isA_19 : isA Tryd.prog 19 = some true := by kernel_rfl
@[go_sem] theorem elT_19 : elT Tryd.prog 19 = none := by kernel_rfl
@[go_sem] theorem isA_20 : isA Tryd.prog 20 = some false := by kernel_rfl
@[go_sem] theorem szT_20 : szT Tryd.prog 20 = some 1 := by kernel_rfl
@[go_sem] theorem hasT_21 : hasT Tryd.prog 21 = true := by kernel_rfl
@[go_sem] theorem conc_21 : Tryd.prog.concrete 21 = true := by kernel_rfl
@[go_sem] theorem isStr_21 : isStr Tryd.prog 21 = false := by kernel_rfl
@[go_sem] theorem isBoolT_21 : isBoolT Tryd.prog 21 = false := by kernel_rfl
@[go_sem] theorem ikT_21 : ikT Tryd.prog 21 = some .i32 := by kernel_rfl
@[go_sem] theorem isA_21 : isA Tryd.prog 21 = some false := by kernel_rfl
@[go_sem] theorem elT_21 : elT Tryd.prog 21 = none := by kernel_rfl
@[go_sem] theorem hasT_22 : hasT Tryd.prog 22 = true := by kernel_rfl
@[go_sem] theorem conc_22 : Tryd.prog.concrete 22 = true := by kernel_rfl
@[go_sem] theorem isStr_22 : isStr Tryd.prog 22 = false := by kernel_rfl
@[go_sem] theorem isBoolT_22 : isBoolT Tryd.prog 22 = false := by kernel_rfl
@[go_sem] theorem ikT_22 : ikT Tryd.prog 22 = none := by kernel_rfl
@[go_sem] theorem isA_22 : isA Tryd.prog 22 = some false := by kernel_rfl
@[go_sem] theorem elT_22 : elT Tryd.prog 22 = some 25 := by kernel_rfl
@[go_sem] theorem isA_23 : isA Tryd.prog 23 = some false := by kernel_rfl
@[go_sem] theorem szT_23 : szT Tryd.prog 23 = some 1 := by kernel_rfl
@[go_sem] theorem hasT_24 : hasT Tryd.prog 24 = true := by kernel_rfl
@[go_sem] theorem conc_24 : Tryd.prog.concrete 24 = true := by kernel_rfl
@[go_sem] theorem isStr_24 : isStr Tryd.prog 24 = false := by kernel_rfl
@[go_sem] theorem isBoolT_24 : isBoolT Tryd.prog 24 = false := by kernel_rfl
@[go_sem] theorem ikT_24 : ikT Tryd.prog 24 = none := by kernel_rfl
@[go_sem] theorem isA_24 : isA Tryd.prog 24 = some true := by kernel_rfl
@[go_sem] theorem elT_24 : elT Tryd.prog 24 = none := by kernel_rfl
@[go_sem] theorem hasT_25 : hasT Tryd.prog 25 = true := by kernel_rfl
@[go_sem] theorem conc_25 : Tryd.prog.concrete 25 = true := by kernel_rfl
@[go_sem] theorem isStr_25 : isStr Tryd.prog 25 = false := by kernel_rfl
@[go_sem] theorem isBoolT_25 : isBoolT Tryd.prog 25 = false := by kernel_rfl
@[go_sem] theorem ikT_25 : ikT Tryd.prog 25 = none := by kernel_rfl
@[go_sem] theorem isA_25 : isA Tryd.prog 25 = some true := by kernel_rfl
@[go_sem] theorem elT_25 : elT Tryd.prog 25 = none := by kernel_rfl
@[go_sem] theorem hasT_26 : hasT Tryd.prog 26 = true := by kernel_rfl
@[go_sem] theorem conc_26 : Tryd.prog.concrete 26 = true := by kernel_rfl
@[go_sem] theorem isStr_26 : isStr Tryd.prog 26 = false := by kernel_rfl
@[go_sem] theorem isBoolT_26 : isBoolT Tryd.prog 26 = false := by kernel_rfl
@[go_sem] theorem ikT_26 : ikT Tryd.prog 26 = none := by kernel_rfl
@[go_sem] theorem isA_26 : isA Tryd.prog 26 = some true := by kernel_rfl
@[go_sem] theorem elT_26 : elT Tryd.prog 26 = none := by kernel_rfl
@[go_sem] theorem hasT_27 : hasT Tryd.prog 27 = true := by kernel_rfl
@[go_sem] theorem conc_27 : Tryd.prog.concrete 27 = true := by kernel_rfl
@[go_sem] theorem isStr_27 : isStr Tryd.prog 27 = false := by kernel_rfl
@[go_sem] theorem isBoolT_27 : isBoolT Tryd.prog 27 = false := by kernel_rfl
@[go_sem] theorem ikT_27 : ikT Tryd.prog 27 = none := by kernel_rfl
@[go_sem] theorem isA_27 : isA Tryd.prog 27 = some true := by kernel_rfl
@[go_sem] theorem elT_27 : elT Tryd.prog 27 = none := by kernel_rfl
@[go_sem] theorem hasT_28 : hasT Tryd.prog 28 = true := by kernel_rfl
@[go_sem] theorem conc_28 : Tryd.prog.concrete 28 = true := by kernel_rfl
@[go_sem] theorem isStr_28 : isStr Tryd.prog 28 = false := by kernel_rfl
@[go_sem] theorem isBoolT_28 : isBoolT Tryd.prog 28 = false := by kernel_rfl
@[go_sem] theorem ikT_28 : ikT Tryd.prog 28 = some .i64 := by kernel_rfl
@[go_sem] theorem isA_28 : isA Tryd.prog 28 = some false := by kernel_rfl
@[go_sem] theorem elT_28 : elT Tryd.prog 28 = none := by kernel_rfl
@[go_sem] theorem isA_30 : isA Tryd.prog 30 = some false := by kernel_rfl
@[go_sem] theorem szT_30 : szT Tryd.prog 30 = some 1 := by kernel_rfl
@[go_sem] theorem hasT_31 : hasT Tryd.prog 31 = true := by kernel_rfl
@[go_sem] theorem conc_31 : Tryd.prog.concrete 31 = true := by kernel_rfl
@[go_sem] theorem isStr_31 : isStr Tryd.prog 31 = false := by kernel_rfl
@[go_sem] theorem isBoolT_31 : isBoolT Tryd.prog 31 = false := by kernel_rfl
@[go_sem] theorem ikT_31 : ikT Tryd.prog 31 = none := by kernel_rfl
@[go_sem] theorem isA_31 : isA Tryd.prog 31 = some true := by kernel_rfl
@[go_sem] theorem elT_31 : elT Tryd.prog 31 = none := by kernel_rfl
@[go_sem] theorem hasT_32 : hasT Tryd.prog 32 = true := by kernel_rfl
@[go_sem] theorem conc_32 : Tryd.prog.concrete 32 = true := by kernel_rfl
@[go_sem] theorem isStr_32 : isStr Tryd.prog 32 = false := by kernel_rfl
@[go_sem] theorem isBoolT_32 : isBoolT Tryd.prog 32 = false := by kernel_rfl
@[go_sem] theorem ikT_32 : ikT Tryd.prog 32 = none := by kernel_rfl
@[go_sem] theorem isA_32 : isA Tryd.prog 32 = some true := by kernel_rfl
@[go_sem] theorem elT_32 : elT Tryd.prog 32 = none := by kernel_rfl
@[go_sem] theorem isA_33 : isA Tryd.prog 33 = some false := by kernel_rfl
@[go_sem] theorem szT_33 : szT Tryd.prog 33 = some 1 := by kernel_rfl
@[go_sem] theorem hasT_34 : hasT Tryd.prog 34 = true := by kernel_rfl
@[go_sem] theorem conc_34 : Tryd.prog.concrete 34 = true := by kernel_rfl
@[go_sem] theorem isStr_34 : isStr Tryd.prog 34 = false := by kernel_rfl
@[go_sem] theorem isBoolT_34 : isBoolT Tryd.prog 34 = false := by kernel_rfl
@[go_sem] theorem ikT_34 : ikT Tryd.prog 34 = none := by kernel_rfl
@[go_sem] theorem isA_34 : isA Tryd.prog 34 = some true := by kernel_rfl
@[go_sem] theorem elT_34 : elT Tryd.prog 34 = none := by kernel_rfl
@[go_sem] theorem hasT_35 : hasT Tryd.prog 35 = true := by kernel_rfl
@[go_sem] theorem conc_35 : Tryd.prog.concrete 35 = true := by kernel_rfl
@[go_sem] theorem isStr_35 : isStr Tryd.prog 35 = false := by kernel_rfl
@[go_sem] theorem isBoolT_35 : isBoolT Tryd.prog 35 = false := by kernel_rfl
@[go_sem] theorem ikT_35 : ikT Tryd.prog 35 = none := by kernel_rfl
@[go_sem] theorem isA_35 : isA Tryd.prog 35 = some true := by kernel_rfl
@[go_sem] theorem elT_35 : elT Tryd.prog 35 = none := by kernel_rfl
@[go_sem] theorem isA_36 : isA Tryd.prog 36 = some false := by kernel_rfl
@[go_sem] theorem szT_36 : szT Tryd.prog 36 = some 1 := by kernel_rfl
@[go_sem] theorem isA_37 : isA Tryd.prog 37 = some false := by kernel_rfl
@[go_sem] theorem szT_37 : szT Tryd.prog 37 = some 1 := by kernel_rfl
@[go_sem] theorem isA_38 : isA Tryd.prog 38 = some false := by kernel_rfl
@[go_sem] theorem szT_38 : szT Tryd.prog 38 = some 1 := by kernel_rfl
@[go_sem] theorem hasT_39 : hasT Tryd.prog 39 = true := by kernel_rfl
@[go_sem] theorem conc_39 : Tryd.prog.concrete 39 = true := by kernel_rfl
@[go_sem] theorem isStr_39 : isStr Tryd.prog 39 = false := by kernel_rfl
@[go_sem] theorem isBoolT_39 : isBoolT Tryd.prog 39 = false := by kernel_rfl
@[go_sem] theorem ikT_39 : ikT Tryd.prog 39 = none := by kernel_rfl
@[go_sem] theorem isA_39 : isA Tryd.prog 39 = some false := by kernel_rfl
@[go_sem] theorem elT_39 : elT Tryd.prog 39 = some 2 := by kernel_rfl
@[go_sem] theorem isA_40 : isA Tryd.prog 40 = some false := by kernel_rfl
@[go_sem] theorem szT_40 : szT Tryd.prog 40 = some 1 := by kernel_rfl
@[go_sem] theorem isA_41 : isA Tryd.prog 41 = some false := by kernel_rfl
@[go_sem] theorem szT_41 : szT Tryd.prog 41 = some 1 := by kernel_rfl
@[go_sem] theorem isA_42 : isA Tryd.prog 42 = some false := by kernel_rfl
@[go_sem] theorem szT_42 : szT Tryd.prog 42 = some 1 := by kernel_rfl
@[go_sem] theorem isA_43 : isA Tryd.prog 43 = some false := by kernel_rfl
@[go_sem] theorem szT_43 : szT Tryd.prog 43 = some 1 := by kernel_rfl
@[go_sem] theorem hasT_44 : hasT Tryd.prog 44 = true := by kernel_rfl
@[go_sem] theorem conc_44 : Tryd.prog.concrete 44 = true := by kernel_rfl
@[go_sem] theorem isStr_44 : isStr Tryd.prog 44 = false := by kernel_rfl
@[go_sem] theorem isBoolT_44 : isBoolT Tryd.prog 44 = false := by kernel_rfl
@[go_sem] theorem ikT_44 : ikT Tryd.prog 44 = none := by kernel_rfl
@[go_sem] theorem isA_44 : isA Tryd.prog 44 = some false := by kernel_rfl
@[go_sem] theorem elT_44 : elT Tryd.prog 44 = some 9 := by kernel_rfl
@[go_sem] theorem isA_45 : isA Tryd.prog 45 = some false := by kernel_rfl
@[go_sem] theorem szT_45 : szT Tryd.prog 45 = some 1 := by kernel_rfl
@[go_sem] theorem isA_46 : isA Tryd.prog 46 = some false := by kernel_rfl
@[go_sem] theorem szT_46 : szT Tryd.prog 46 = some 1 := by kernel_rfl
@[go_sem] theorem isA_48 : isA Tryd.prog 48 = some false := by kernel_rfl
@[go_sem] theorem szT_48 : szT Tryd.prog 48 = some 1 := by kernel_rfl
@[go_sem] theorem isA_49 : isA Tryd.prog 49 = some false := by kernel_rfl
@[go_sem] theorem szT_49 : szT Tryd.prog 49 = some 1 := by kernel_rfl
@[go_sem] theorem isA_51 : isA Tryd.prog 51 = some false := by kernel_rfl
@[go_sem] theorem szT_51 : szT Tryd.prog 51 = some 1 := by kernel_rfl
@[go_sem] theorem isA_52 : isA Tryd.prog 52 = some false := by kernel_rfl
@[go_sem] theorem szT_52 : szT Tryd.prog 52 = some 1 := by kernel_rfl
@[go_sem] theorem isA_53 : isA Tryd.prog 53 = some false := by kernel_rfl
@[go_sem] theorem szT_53 : szT Tryd.prog 53 = some 1 := by kernel_rfl
@[go_sem] theorem isA_54 : isA Tryd.prog 54 = some false := by kernel_rfl
@[go_sem] theorem szT_54 : szT Tryd.prog 54 = some 1 := by kernel_rfl
@[go_sem] theorem isA_55 : isA Tryd.prog 55 = some false := by kernel_rfl
@[go_sem] theorem szT_55 : szT Tryd.prog 55 = some 1 := by kernel_rfl
@[go_sem] theorem isA_56 : isA Tryd.prog 56 = some false := by kernel_rfl
@[go_sem] theorem szT_56 : szT Tryd.prog 56 = some 1 := by kernel_rfl
@[go_sem] theorem isA_58 : isA Tryd.prog 58 = some false := by kernel_rfl
@[go_sem] theorem szT_58 : szT Tryd.prog 58 = some 1 := by kernel_rfl
@[go_sem] theorem hasT_59 : hasT Tryd.prog 59 = true := by kernel_rfl
@[go_sem] theorem conc_59 : Tryd.prog.concrete 59 = true := by kernel_rfl
@[go_sem] theorem isStr_59 : isStr Tryd.prog 59 = false := by kernel_rfl
@[go_sem] theorem isBoolT_59 : isBoolT Tryd.prog 59 = false := by kernel_rfl
@[go_sem] theorem ikT_59 : ikT Tryd.prog 59 = none := by kernel_rfl
@[go_sem] theorem isA_59 : isA Tryd.prog 59 = some false := by kernel_rfl
@[go_sem] theorem elT_59 : elT Tryd.prog 59 = some 5 := by kernel_rfl
@[go_sem] theorem isA_60 : isA Tryd.prog 60 = some false := by kernel_rfl
@[go_sem] theorem szT_60 : szT Tryd.prog 60 = some 1 := by kernel_rfl
@[go_sem] theorem isA_61 : isA Tryd.prog 61 = some false := by kernel_rfl
@[go_sem] theorem szT_61 : szT Tryd.prog 61 = some 1 := by kernel_rfl
@[go_sem] theorem isA_62 : isA Tryd.prog 62 = some false := by kernel_rfl
@[go_sem] theorem szT_62 : szT Tryd.prog 62 = some 1 := by kernel_rfl
@[go_sem] theorem hasT_63 : hasT Tryd.prog 63 = true := by kernel_rfl
@[go_sem] theorem conc_63 : Tryd.prog.concrete 63 = true := by kernel_rfl
@[go_sem] theorem isStr_63 : isStr Tryd.prog 63 = false := by kernel_rfl
@[go_sem] theorem isBoolT_63 : isBoolT Tryd.prog 63 = false := by kernel_rfl
@[go_sem] theorem ikT_63 : ikT Tryd.prog 63 = none := by kernel_rfl
@[go_sem] theorem isA_63 : isA Tryd.prog 63 = some true := by kernel_rfl
@[go_sem] theorem elT_63 : elT Tryd.prog 63 = none := by kernel_rfl
@[go_sem] theorem hasT_64 : hasT Tryd.prog 64 = true := by kernel_rfl
@[go_sem] theorem conc_64 : Tryd.prog.concrete 64 = true := by kernel_rfl
@[go_sem] theorem isStr_64 : isStr Tryd.prog 64 = false := by kernel_rfl
@[go_sem] theorem isBoolT_64 : isBoolT Tryd.prog 64 = false := by kernel_rfl
@[go_sem] theorem ikT_64 : ikT Tryd.prog 64 = some .u64 := by kernel_rfl
@[go_sem] theorem isA_64 : isA Tryd.prog 64 = some false := by kernel_rfl
@[go_sem] theorem elT_64 : elT Tryd.prog 64 = none := by kernel_rfl
@[go_sem] theorem isA_65 : isA Tryd.prog 65 = some false := by kernel_rfl
@[go_sem] theorem szT_65 : szT Tryd.prog 65 = some 1 := by kernel_rfl
@[go_sem] theorem isA_66 : isA Tryd.prog 66 = some false := by kernel_rfl
@[go_sem] theorem szT_66 : szT Tryd.prog 66 = some 1 := by kernel_rfl
@[go_sem] theorem isA_68 : isA Tryd.prog 68 = some false := by kernel_rfl
@[go_sem] theorem szT_68 : szT Tryd.prog 68 = some 1 := by kernel_rfl
@[go_sem] theorem isA_69 : isA Tryd.prog 69 = some false := by kernel_rfl
@[go_sem] theorem szT_69 : szT Tryd.prog 69 = some 1 := by kernel_rfl
@[go_sem] theorem hasT_70 : hasT Tryd.prog 70 = true := by kernel_rfl
@[go_sem] theorem conc_70 : Tryd.prog.concrete 70 = true := by kernel_rfl
@[go_sem] theorem isStr_70 : isStr Tryd.prog 70 = false := by kernel_rfl
@[go_sem] theorem isBoolT_70 : isBoolT Tryd.prog 70 = false := by kernel_rfl
@[go_sem] theorem ikT_70 : ikT Tryd.prog 70 = none := by kernel_rfl
@[go_sem] theorem isA_70 : isA Tryd.prog 70 = some false := by kernel_rfl
@[go_sem] theorem elT_70 : elT Tryd.prog 70 = none := by kernel_rfl
@[go_sem] theorem hasT_71 : hasT Tryd.prog 71 = true := by kernel_rfl
@[go_sem] theorem conc_71 : Tryd.prog.concrete 71 = true := by kernel_rfl
@[go_sem] theorem isStr_71 : isStr Tryd.prog 71 = false := by kernel_rfl
@[go_sem] theorem isBoolT_71 : isBoolT Tryd.prog 71 = false := by kernel_rfl
@[go_sem] theorem ikT_71 : ikT Tryd.prog 71 = none := by kernel_rfl
@[go_sem] theorem isA_71 : isA Tryd.prog 71 = some true := by kernel_rfl
@[go_sem] theorem elT_71 : elT Tryd.prog 71 = none := by kernel_rfl
@[go_sem] theorem hasT_72 : hasT Tryd.prog 72 = true := by kernel_rfl
@[go_sem] theorem conc_72 : Tryd.prog.concrete 72 = true := by kernel_rfl
@[go_sem] theorem isStr_72 : isStr Tryd.prog 72 = false := by kernel_rfl
@[go_sem] theorem isBoolT_72 : isBoolT Tryd.prog 72 = false := by kernel_rfl
@[go_sem] theorem ikT_72 : ikT Tryd.prog 72 = none := by kernel_rfl
@[go_sem] theorem isA_72 : isA Tryd.prog 72 = some true := by kernel_rfl
@[go_sem] theorem elT_72 : elT Tryd.prog 72 = none := by kernel_rfl
@[go_sem] theorem isA_73 : isA Tryd.prog 73 = some false := by kernel_rfl
@[go_sem] theorem szT_73 : szT Tryd.prog 73 = some 1 := by kernel_rfl
@[go_sem] theorem isA_74 : isA Tryd.prog 74 = some false := by kernel_rfl
@[go_sem] theorem szT_74 : szT Tryd.prog 74 = some 1 := by kernel_rfl
@[go_sem] theorem isA_75 : isA Tryd.prog 75 = some false := by kernel_rfl
@[go_sem] theorem szT_75 : szT Tryd.prog 75 = some 1 := by kernel_rfl
@[go_sem] theorem isA_76 : isA Tryd.prog 76 = some false := by kernel_rfl
@[go_sem] theorem szT_76 : szT Tryd.prog 76 = some 1 := by kernel_rfl
@[go_sem] theorem isA_77 : isA Tryd.prog 77 = some false := by kernel_rfl
@[go_sem] theorem szT_77 : szT Tryd.prog 77 = some 1 := by kernel_rfl
@[go_sem] theorem isA_78 : isA Tryd.prog 78 = some false := by kernel_rfl
@[go_sem] theorem szT_78 : szT Tryd.prog 78 = some 1 := by kernel_rfl
@[go_sem] theorem isA_79 : isA Tryd.prog 79 = some false := by kernel_rfl
@[go_sem] theorem szT_79 : szT Tryd.prog 79 = some 1 := by kernel_rfl
@[go_sem] theorem isA_80 : isA Tryd.prog 80 = some false := by kernel_rfl
@[go_sem] theorem szT_80 : szT Tryd.prog 80 = some 1 := by kernel_rfl
@[go_sem] theorem isA_81 : isA Tryd.prog 81 = some false := by kernel_rfl
@[go_sem] theorem szT_81 : szT Tryd.prog 81 = some 1 := by kernel_rfl
@[go_sem] theorem hasT_82 : hasT Tryd.prog 82 = true := by kernel_rfl
@[go_sem] theorem conc_82 : Tryd.prog.concrete 82 = true := by kernel_rfl
@[go_sem] theorem isStr_82 : isStr Tryd.prog 82 = false := by kernel_rfl
@[go_sem] theorem isBoolT_82 : isBoolT Tryd.prog 82 = false := by kernel_rfl
@[go_sem] theorem ikT_82 : ikT Tryd.prog 82 = none := by kernel_rfl
@[go_sem] theorem isA_82 : isA Tryd.prog 82 = some true := by kernel_rfl
@[go_sem] theorem elT_82 : elT Tryd.prog 82 = none := by kernel_rfl
@[go_sem] theorem hasT_83 : hasT Tryd.prog 83 = true := by kernel_rfl
@[go_sem] theorem conc_83 : Tryd.prog.concrete 83 = true := by kernel_rfl
@[go_sem] theorem isStr_83 : isStr Tryd.prog 83 = false := by kernel_rfl
@[go_sem] theorem isBoolT_83 : isBoolT Tryd.prog 83 = false := by kernel_rfl
@[go_sem] theorem ikT_83 : ikT Tryd.prog 83 = some .u32 := by kernel_rfl
@[go_sem] theorem isA_83 : isA Tryd.prog 83 = some false := by kernel_rfl
@[go_sem] theorem elT_83 : elT Tryd.prog 83 = none := by kernel_rfl
@[go_sem] theorem hasT_84 : hasT Tryd.prog 84 = true := by kernel_rfl
@[go_sem] theorem conc_84 : Tryd.prog.concrete 84 = true := by kernel_rfl
@[go_sem] theorem isStr_84 : isStr Tryd.prog 84 = false := by kernel_rfl
@[go_sem] theorem isBoolT_84 : isBoolT Tryd.prog 84 = false := by kernel_rfl
@[go_sem] theorem ikT_84 : ikT Tryd.prog 84 = none := by kernel_rfl
@[go_sem] theorem isA_84 : isA Tryd.prog 84 = some true := by kernel_rfl
@[go_sem] theorem elT_84 : elT Tryd.prog 84 = none := by kernel_rfl
@[go_sem] theorem isA_85 : isA Tryd.prog 85 = some false := by kernel_rfl
@[go_sem] theorem szT_85 : szT Tryd.prog 85 = some 1 := by kernel_rfl
@[go_sem] theorem hasT_86 : hasT Tryd.prog 86 = true := by kernel_rfl
@[go_sem] theorem conc_86 : Tryd.prog.concrete 86 = true := by kernel_rfl
@[go_sem] theorem isStr_86 : isStr Tryd.prog 86 = false := by kernel_rfl
@[go_sem] theorem isBoolT_86 : isBoolT Tryd.prog 86 = false := by kernel_rfl
@[go_sem] theorem ikT_86 : ikT Tryd.prog 86 = some .u64 := by kernel_rfl
@[go_sem] theorem isA_86 : isA Tryd.prog 86 = some false := by kernel_rfl
@[go_sem] theorem elT_86 : elT Tryd.prog 86 = none := by kernel_rfl
@[go_sem] theorem isA_87 : isA Tryd.prog 87 = some false := by kernel_rfl
@[go_sem] theorem szT_87 : szT Tryd.prog 87 = some 1 := by kernel_rfl
@[go_sem] theorem isA_88 : isA Tryd.prog 88 = some false := by kernel_rfl
@[go_sem] theorem szT_88 : szT Tryd.prog 88 = some 1 := by kernel_rfl
@[go_sem] theorem hasT_89 : hasT Tryd.prog 89 = true := by kernel_rfl
@[go_sem] theorem conc_89 : Tryd.prog.concrete 89 = true := by kernel_rfl
@[go_sem] theorem isStr_89 : isStr Tryd.prog 89 = false := by kernel_rfl
@[go_sem] theorem isBoolT_89 : isBoolT Tryd.prog 89 = false := by kernel_rfl
@[go_sem] theorem ikT_89 : ikT Tryd.prog 89 = none := by kernel_rfl
@[go_sem] theorem isA_89 : isA Tryd.prog 89 = some true := by kernel_rfl
@[go_sem] theorem elT_89 : elT Tryd.prog 89 = none := by kernel_rfl
@[go_sem] theorem hasT_90 : hasT Tryd.prog 90 = true := by kernel_rfl
@[go_sem] theorem conc_90 : Tryd.prog.concrete 90 = true := by kernel_rfl
@[go_sem] theorem isStr_90 : isStr Tryd.prog 90 = false := by kernel_rfl
@[go_sem] theorem isBoolT_90 : isBoolT Tryd.prog 90 = false := by kernel_rfl
@[go_sem] theorem ikT_90 : ikT Tryd.prog 90 = none := by kernel_rfl
@[go_sem] theorem isA_90 : isA Tryd.prog 90 = some true := by kernel_rfl
@[go_sem] theorem elT_90 : elT Tryd.prog 90 = none := by kernel_rfl
@[go_sem] theorem isA_92 : isA Tryd.prog 92 = some false := by kernel_rfl
@[go_sem] theorem szT_92 : szT Tryd.prog 92 = some 1 := by kernel_rfl
@[go_sem] theorem isA_93 : isA Tryd.prog 93 = some false := by kernel_rfl
@[go_sem] theorem szT_93 : szT Tryd.prog 93 = some 1 := by kernel_rfl
@[go_sem] theorem hasT_94 : hasT Tryd.prog 94 = true := by kernel_rfl
@[go_sem] theorem conc_94 : Tryd.prog.concrete 94 = true := by kernel_rfl
@[go_sem] theorem isStr_94 : isStr Tryd.prog 94 = false := by kernel_rfl
@[go_sem] theorem isBoolT_94 : isBoolT Tryd.prog 94 = false := by kernel_rfl
@[go_sem] theorem ikT_94 : ikT Tryd.prog 94 = none := by kernel_rfl
@[go_sem] theorem isA_94 : isA Tryd.prog 94 = some false := by kernel_rfl
@[go_sem] theorem elT_94 : elT Tryd.prog 94 = none := by kernel_rfl
@[go_sem] theorem hasT_95 : hasT Tryd.prog 95 = true := by kernel_rfl
@[go_sem] theorem conc_95 : Tryd.prog.concrete 95 = true := by kernel_rfl
@[go_sem] theorem isStr_95 : isStr Tryd.prog 95 = false := by kernel_rfl
@[go_sem] theorem isBoolT_95 : isBoolT Tryd.prog 95 = false := by kernel_rfl
@[go_sem] theorem ikT_95 : ikT Tryd.prog 95 = none := by kernel_rfl
@[go_sem] theorem isA_95 : isA Tryd.prog 95 = some false := by kernel_rfl
@[go_sem] theorem elT_95 : elT Tryd.prog 95 = none := by kernel_rfl
@[go_sem] theorem isA_96 : isA Tryd.prog 96 = some false := by kernel_rfl
@[go_sem] theorem szT_96 : szT Tryd.prog 96 = some 1 := by kernel_rfl
@[go_sem] theorem isA_98 : isA Tryd.prog 98 = some false := by kernel_rfl
@[go_sem] theorem szT_98 : szT Tryd.prog 98 = some 1 := by kernel_rfl
@[go_sem] theorem isA_99 : isA Tryd.prog 99 = some false := by kernel_rfl
@[go_sem] theorem szT_99 : szT Tryd.prog 99 = some 1 := by kernel_rfl
@[go_sem] theorem isA_100 : isA Tryd.prog 100 = some false := by kernel_rfl
@[go_sem] theorem szT_100 : szT Tryd.prog 100 = some 1 := by kernel_rfl
@[go_sem] theorem isA_101 : isA Tryd.prog 101 = some false := by kernel_rfl
@[go_sem] theorem szT_101 : szT Tryd.prog 101 = some 1 := by kernel_rfl
@[go_sem] theorem isA_102 : isA Tryd.prog 102 = some false := by kernel_rfl
@[go_sem] theorem szT_102 : szT Tryd.prog 102 = some 1 := by kernel_rfl
@[go_sem] theorem isA_103 : isA Tryd.prog 103 = some false := by kernel_rfl
@[go_sem] theorem szT_103 : szT Tryd.prog 103 = some 1 := by kernel_rfl
@[go_sem] theorem isA_104 : isA Tryd.prog 104 = some false := by kernel_rfl
@[go_sem] theorem szT_104 : szT Tryd.prog 104 = some 1 := by kernel_rfl
@[go_sem] theorem isA_106 : isA Tryd.prog 106 = some false := by kernel_rfl
@[go_sem] theorem szT_106 : szT Tryd.prog 106 = some 1 := by kernel_rfl
@[go_sem] theorem isA_107 : isA Tryd.prog 107 = some false := by kernel_rfl
@[go_sem] theorem szT_107 : szT Tryd.prog 107 = some 1 := by kernel_rfl
@[go_sem] theorem hasT_108 : hasT Tryd.prog 108 = true := by kernel_rfl
@[go_sem] theorem conc_108 : Tryd.prog.concrete 108 = true := by kernel_rfl
@[go_sem] theorem isStr_108 : isStr Tryd.prog 108 = false := by kernel_rfl
@[go_sem] theorem isBoolT_108 : isBoolT Tryd.prog 108 = false := by kernel_rfl
@[go_sem] theorem ikT_108 : ikT Tryd.prog 108 = none := by kernel_rfl
@[go_sem] theorem isA_108 : isA Tryd.prog 108 = some false := by kernel_rfl
@[go_sem] theorem elT_108 : elT Tryd.prog 108 = none := by kernel_rfl
@[go_sem] theorem isA_109 : isA Tryd.prog 109 = some false := by kernel_rfl
@[go_sem] theorem szT_109 : szT Tryd.prog 109 = some 1 := by kernel_rfl
@[go_sem] theorem isA_110 : isA Tryd.prog 110 = some false := by kernel_rfl
@[go_sem] theorem szT_110 : szT Tryd.prog 110 = some 1 := by kernel_rfl
@[go_sem] theorem isA_111 : isA Tryd.prog 111 = some false := by kernel_rfl
@[go_sem] theorem szT_111 : szT Tryd.prog 111 = some 1 := by kernel_rfl
@[go_sem] theorem isA_112 : isA Tryd.prog 112 = some false := by kernel_rfl
@[go_sem] theorem szT_112 : szT Tryd.prog 112 = some 1 := by kernel_rfl
@[go_sem] theorem isA_113 : isA Tryd.prog 113 = some false := by kernel_rfl
@[go_sem] theorem szT_113 : szT Tryd.prog 113 = some 1 := by kernel_rfl
@[go_sem] theorem hasT_114 : hasT Tryd.prog 114 = true := by kernel_rfl
@[go_sem] theorem conc_114 : Tryd.prog.concrete 114 = true := by kernel_rfl
@[go_sem] theorem isStr_114 : isStr Tryd.prog 114 = false := by kernel_rfl
@[go_sem] theorem isBoolT_114 : isBoolT Tryd.prog 114 = false := by kernel_rfl
@[go_sem] theorem ikT_114 : ikT Tryd.prog 114 = none := by kernel_rfl
@[go_sem] theorem isA_114 : isA Tryd.prog 114 = some true := by kernel_rfl
@[go_sem] theorem elT_114 : elT Tryd.prog 114 = none := by kernel_rfl
@[go_sem] theorem hasT_115 : hasT Tryd.prog 115 = true := by kernel_rfl
@[go_sem] theorem conc_115 : Tryd.prog.concrete 115 = true := by kernel_rfl
@[go_sem] theorem isStr_115 : isStr Tryd.prog 115 = false := by kernel_rfl
@[go_sem] theorem isBoolT_115 : isBoolT Tryd.prog 115 = false := by kernel_rfl
@[go_sem] theorem ikT_115 : ikT Tryd.prog 115 = none := by kernel_rfl
@[go_sem] theorem isA_115 : isA Tryd.prog 115 = some true := by kernel_rfl
@[go_sem] theorem elT_115 : elT Tryd.prog 115 = none := by kernel_rfl
@[go_sem] theorem isA_116 : isA Tryd.prog 116 = some false := by kernel_rfl
@[go_sem] theorem szT_116 : szT Tryd.prog 116 = some 1 := by kernel_rfl
@[go_sem] theorem isA_117 : isA Tryd.prog 117 = some false := by kernel_rfl
@[go_sem] theorem szT_117 : szT Tryd.prog 117 = some 1 := by kernel_rfl
@[go_sem] theorem isA_119 : isA Tryd.prog 119 = some false := by kernel_rfl
@[go_sem] theorem szT_119 : szT Tryd.prog 119 = some 1 := by kernel_rfl
@[go_sem] theorem hasT_120 : hasT Tryd.prog 120 = true := by kernel_rfl
@[go_sem] theorem conc_120 : Tryd.prog.concrete 120 = true := by kernel_rfl
@[go_sem] theorem isStr_120 : isStr Tryd.prog 120 = false := by kernel_rfl
@[go_sem] theorem isBoolT_120 : isBoolT Tryd.prog 120 = false := by kernel_rfl
@[go_sem] theorem ikT_120 : ikT Tryd.prog 120 = none := by kernel_rfl
@[go_sem] theorem isA_120 : isA Tryd.prog 120 = some false := by kernel_rfl
@[go_sem] theorem elT_120 : elT Tryd.prog 120 = some 131 := by kernel_rfl
@[go_sem] theorem hasT_121 : hasT Tryd.prog 121 = true := by kernel_rfl
@[go_sem] theorem conc_121 : Tryd.prog.concrete 121 = true := by kernel_rfl
@[go_sem] theorem isStr_121 : isStr Tryd.prog 121 = false := by kernel_rfl
@[go_sem] theorem isBoolT_121 : isBoolT Tryd.prog 121 = false := by kernel_rfl
@[go_sem] theorem ikT_121 : ikT Tryd.prog 121 = none := by kernel_rfl
@[go_sem] theorem isA_121 : isA Tryd.prog 121 = some true := by kernel_rfl
@[go_sem] theorem elT_121 : elT Tryd.prog 121 = none := by kernel_rfl
@[go_sem] theorem hasT_122 : hasT Tryd.prog 122 = true := by kernel_rfl
@[go_sem] theorem conc_122 : Tryd.prog.concrete 122 = true := by kernel_rfl
@[go_sem] theorem isStr_122 : isStr Tryd.prog 122 = false := by kernel_rfl
@[go_sem] theorem isBoolT_122 : isBoolT Tryd.prog 122 = false := by kernel_rfl
@[go_sem] theorem ikT_122 : ikT Tryd.prog 122 = none := by kernel_rfl
@[go_sem] theorem isA_122 : isA Tryd.prog 122 = some true := by kernel_rfl
@[go_sem] theorem elT_122 : elT Tryd.prog 122 = none := by kernel_rfl
@[go_sem] theorem hasT_123 : hasT Tryd.prog 123 = true := by kernel_rfl
@[go_sem] theorem conc_123 : Tryd.prog.concrete 123 = true := by kernel_rfl
@[go_sem] theorem isStr_123 : isStr Tryd.prog 123 = false := by kernel_rfl
@[go_sem] theorem isBoolT_123 : isBoolT Tryd.prog 123 = false := by kernel_rfl
@[go_sem] theorem ikT_123 : ikT Tryd.prog 123 = none := by kernel_rfl
@[go_sem] theorem isA_123 : isA Tryd.prog 123 = some true := by kernel_rfl
@[go_sem] theorem elT_123 : elT Tryd.prog 123 = none := by kernel_rfl
@[go_sem] theorem hasT_124 : hasT Tryd.prog 124 = true := by kernel_rfl
@[go_sem] theorem conc_124 : Tryd.prog.concrete 124 = true := by kernel_rfl
@[go_sem] theorem isStr_124 : isStr Tryd.prog 124 = false := by kernel_rfl
@[go_sem] theorem isBoolT_124 : isBoolT Tryd.prog 124 = false := by kernel_rfl
@[go_sem] theorem ikT_124 : ikT Tryd.prog 124 = none := by kernel_rfl
@[go_sem] theorem isA_124 : isA Tryd.prog 124 = some true := by kernel_rfl
@[go_sem] theorem elT_124 : elT Tryd.prog 124 = none := by kernel_rfl
@[go_sem] theorem hasT_125 : hasT Tryd.prog 125 = true := by kernel_rfl
@[go_sem] theorem conc_125 : Tryd.prog.concrete 125 = true := by kernel_rfl
@[go_sem] theorem isStr_125 : isStr Tryd.prog 125 = false := by kernel_rfl
@[go_sem] theorem isBoolT_125 : isBoolT Tryd.prog 125 = false := by kernel_rfl
@[go_sem] theorem ikT_125 : ikT Tryd.prog 125 = none := by kernel_rfl
@[go_sem] theorem isA_125 : isA Tryd.prog 125 = some false := by kernel_rfl
@[go_sem] theorem elT_125 : elT Tryd.prog 125 = none := by kernel_rfl
@[go_sem] theorem isA_126 : isA Tryd.prog 126 = some false := by kernel_rfl
@[go_sem] theorem szT_126 : szT Tryd.prog 126 = some 1 := by kernel_rfl
@[go_sem] theorem isA_127 : isA Tryd.prog 127 = some false := by kernel_rfl
@[go_sem] theorem szT_127 : szT Tryd.prog 127 = some 1 := by kernel_rfl
@[go_sem] theorem hasT_128 : hasT Tryd.prog 128 = true := by kernel_rfl
@[go_sem] theorem conc_128 : Tryd.prog.concrete 128 = true := by kernel_rfl
@[go_sem] theorem isStr_128 : isStr Tryd.prog 128 = false := by kernel_rfl
@[go_sem] theorem isBoolT_128 : isBoolT Tryd.prog 128 = false := by kernel_rfl
@[go_sem] theorem ikT_128 : ikT Tryd.prog 128 = none := by kernel_rfl
@[go_sem] theorem isA_128 : isA Tryd.prog 128 = some true := by kernel_rfl
@[go_sem] theorem elT_128 : elT Tryd.prog 128 = none := by kernel_rfl
@[go_sem] theorem hasT_129 : hasT Tryd.prog 129 = true := by kernel_rfl
@[go_sem] theorem conc_129 : Tryd.prog.concrete 129 = true := by kernel_rfl
@[go_sem] theorem isStr_129 : isStr Tryd.prog 129 = false := by kernel_rfl
@[go_sem] theorem isBoolT_129 : isBoolT Tryd.prog 129 = false := by kernel_rfl
@[go_sem] theorem ikT_129 : ikT Tryd.prog 129 = none := by kernel_rfl
@[go_sem] theorem isA_129 : isA Tryd.prog 129 = some true := by kernel_rfl
@[go_sem] theorem elT_129 : elT Tryd.prog 129 = none := by kernel_rfl
@[go_sem] theorem hasT_130 : hasT Tryd.prog 130 = true := by kernel_rfl
@[go_sem] theorem conc_130 : Tryd.prog.concrete 130 = true := by kernel_rfl
@[go_sem] theorem isStr_130 : isStr Tryd.prog 130 = false := by kernel_rfl
@[go_sem] theorem isBoolT_130 : isBoolT Tryd.prog 130 = false := by kernel_rfl
@[go_sem] theorem ikT_130 : ikT Tryd.prog 130 = none := by kernel_rfl
@[go_sem] theorem isA_130 : isA Tryd.prog 130 = some true := by kernel_rfl
@[go_sem] theorem elT_130 : elT Tryd.prog 130 = none := by kernel_rfl
@[go_sem] theorem hasT_131 : hasT Tryd.prog 131 = true := by kernel_rfl
@[go_sem] theorem conc_131 : Tryd.prog.concrete 131 = true := by kernel_rfl
@[go_sem] theorem isStr_131 : isStr Tryd.prog 131 = false := by kernel_rfl
@[go_sem] theorem isBoolT_131 : isBoolT Tryd.prog 131 = false := by kernel_rfl
@[go_sem] theorem ikT_131 : ikT Tryd.prog 131 = none := by kernel_rfl
@[go_sem] theorem isA_131 : isA Tryd.prog 131 = some true := by kernel_rfl
@[go_sem] theorem elT_131 : elT Tryd.prog 131 = none := by kernel_rfl
@[go_sem] theorem hasT_132 : hasT Tryd.prog 132 = true := by kernel_rfl
@[go_sem] theorem conc_132 : Tryd.prog.concrete 132 = true := by kernel_rfl
@[go_sem] theorem isStr_132 : isStr Tryd.prog 132 = false := by kernel_rfl
@[go_sem] theorem isBoolT_132 : isBoolT Tryd.prog 132 = false := by kernel_rfl
@[go_sem] theorem ikT_132 : ikT Tryd.prog 132 = none := by kernel_rfl
@[go_sem] theorem isA_132 : isA Tryd.prog 132 = some true := by kernel_rfl
@[go_sem] theorem elT_132 : elT Tryd.prog 132 = none := by kernel_rfl
@[go_sem] theorem hasT_133 : hasT Tryd.prog 133 = true := by kernel_rfl
@[go_sem] theorem conc_133 : Tryd.prog.concrete 133 = true := by kernel_rfl
@[go_sem] theorem isStr_133 : isStr Tryd.prog 133 = false := by kernel_rfl
@[go_sem] theorem isBoolT_133 : isBoolT Tryd.prog 133 = false := by kernel_rfl
@[go_sem] theorem ikT_133 : ikT Tryd.prog 133 = none := by kernel_rfl
@[go_sem] theorem isA_133 : isA Tryd.prog 133 = some true := by kernel_rfl
@[go_sem] theorem elT_133 : elT Tryd.prog 133 = none := by kernel_rfl
@[go_sem] theorem hasT_134 : hasT Tryd.prog 134 = true := by kernel_rfl
@[go_sem] theorem conc_134 : Tryd.prog.concrete 134 = true := by kernel_rfl
@[go_sem] theorem isStr_134 : isStr Tryd.prog 134 = false := by kernel_rfl
@[go_sem] theorem isBoolT_134 : isBoolT Tryd.prog 134 = false := by kernel_rfl
@[go_sem] theorem ikT_134 : ikT Tryd.prog 134 = none := by kernel_rfl
@[go_sem] theorem isA_134 : isA Tryd.prog 134 = some true := by kernel_rfl
@[go_sem] theorem elT_134 : elT Tryd.prog 134 = none := by kernel_rfl
@[go_sem] theorem hasT_135 : hasT Tryd.prog 135 = true := by kernel_rfl
@[go_sem] theorem conc_135 : Tryd.prog.concrete 135 = true := by kernel_rfl
@[go_sem] theorem isStr_135 : isStr Tryd.prog 135 = false := by kernel_rfl
@[go_sem] theorem isBoolT_135 : isBoolT Tryd.prog 135 = false := by kernel_rfl
@[go_sem] theorem ikT_135 : ikT Tryd.prog 135 = none := by kernel_rfl
@[go_sem] theorem isA_135 : isA Tryd.prog 135 = some true := by kernel_rfl
@[go_sem] theorem elT_135 : elT Tryd.prog 135 = none := by kernel_rfl
@[go_sem] theorem hasT_136 : hasT Tryd.prog 136 = true := by kernel_rfl
@[go_sem] theorem conc_136 : Tryd.prog.concrete 136 = true := by kernel_rfl
@[go_sem] theorem isStr_136 : isStr Tryd.prog 136 = false := by kernel_rfl
@[go_sem] theorem isBoolT_136 : isBoolT Tryd.prog 136 = false := by kernel_rfl
@[go_sem] theorem ikT_136 : ikT Tryd.prog 136 = none := by kernel_rfl
@[go_sem] theorem isA_136 : isA Tryd.prog 136 = some true := by kernel_rfl
@[go_sem] theorem elT_136 : elT Tryd.prog 136 = none := by kernel_rfl
@[go_sem] theorem hasT_137 : hasT Tryd.prog 137 = true := by kernel_rfl
@[go_sem] theorem conc_137 : Tryd.prog.concrete 137 = true := by kernel_rfl
@[go_sem] theorem isStr_137 : isStr Tryd.prog 137 = false := by kernel_rfl
@[go_sem] theorem isBoolT_137 : isBoolT Tryd.prog 137 = false := by kernel_rfl
@[go_sem] theorem ikT_137 : ikT Tryd.prog 137 = some .u8 := by kernel_rfl
@[go_sem] theorem isA_137 : isA Tryd.prog 137 = some false := by kernel_rfl
@[go_sem] theorem elT_137 : elT Tryd.prog 137 = none := by kernel_rfl
@[go_sem] theorem hasT_138 : hasT Tryd.prog 138 = true := by kernel_rfl
@[go_sem] theorem conc_138 : Tryd.prog.concrete 138 = true := by kernel_rfl
@[go_sem] theorem isStr_138 : isStr Tryd.prog 138 = false := by kernel_rfl
@[go_sem] theorem isBoolT_138 : isBoolT Tryd.prog 138 = false := by kernel_rfl
@[go_sem] theorem ikT_138 : ikT Tryd.prog 138 = some .u8 := by kernel_rfl
@[go_sem] theorem isA_138 : isA Tryd.prog 138 = some false := by kernel_rfl
@[go_sem] theorem elT_138 : elT Tryd.prog 138 = none := by kernel_rfl
@[go_sem] theorem isA_139 : isA Tryd.prog 139 = some false := by kernel_rfl
@[go_sem] theorem szT_139 : szT Tryd.prog 139 = some 1 := by kernel_rfl
@[go_sem] theorem hasT_140 : hasT Tryd.prog 140 = true := by kernel_rfl
@[go_sem] theorem conc_140 : Tryd.prog.concrete 140 = true := by kernel_rfl
@[go_sem] theorem isStr_140 : isStr Tryd.prog 140 = false := by kernel_rfl
@[go_sem] theorem isBoolT_140 : isBoolT Tryd.prog 140 = false := by kernel_rfl
@[go_sem] theorem ikT_140 : ikT Tryd.prog 140 = some .i32 := by kernel_rfl
@[go_sem] theorem isA_140 : isA Tryd.prog 140 = some false := by kernel_rfl
@[go_sem] theorem elT_140 : elT Tryd.prog 140 = none := by kernel_rfl
@[go_sem] theorem hasT_141 : hasT Tryd.prog 141 = true := by kernel_rfl
@[go_sem] theorem conc_141 : Tryd.prog.concrete 141 = true := by kernel_rfl
@[go_sem] theorem isStr_141 : isStr Tryd.prog 141 = false := by kernel_rfl
@[go_sem] theorem isBoolT_141 : isBoolT Tryd.prog 141 = false := by kernel_rfl
@[go_sem] theorem ikT_141 : ikT Tryd.prog 141 = some .i32 := by kernel_rfl
@[go_sem] theorem isA_141 : isA Tryd.prog 141 = some false := by kernel_rfl
@[go_sem] theorem elT_141 : elT Tryd.prog 141 = none := by kernel_rfl
@[go_sem] theorem hasT_142 : hasT Tryd.prog 142 = true := by kernel_rfl
@[go_sem] theorem conc_142 : Tryd.prog.concrete 142 = true := by kernel_rfl
@[go_sem] theorem isStr_142 : isStr Tryd.prog 142 = false := by kernel_rfl
@[go_sem] theorem isBoolT_142 : isBoolT Tryd.prog 142 = false := by kernel_rfl
@[go_sem] theorem ikT_142 : ikT Tryd.prog 142 = none := by kernel_rfl
@[go_sem] theorem isA_142 : isA Tryd.prog 142 = some true := by kernel_rfl
@[go_sem] theorem elT_142 : elT Tryd.prog 142 = none := by kernel_rfl
@[go_sem] theorem hasT_143 : hasT Tryd.prog 143 = true := by kernel_rfl
@[go_sem] theorem conc_143 : Tryd.prog.concrete 143 = true := by kernel_rfl
@[go_sem] theorem isStr_143 : isStr Tryd.prog 143 = false := by kernel_rfl
@[go_sem] theorem isBoolT_143 : isBoolT Tryd.prog 143 = false := by kernel_rfl
@[go_sem] theorem ikT_143 : ikT Tryd.prog 143 = none := by kernel_rfl
@[go_sem] theorem isA_143 : isA Tryd.prog 143 = some true := by kernel_rfl
@[go_sem] theorem elT_143 : elT Tryd.prog 143 = none := by kernel_rfl
@[go_sem] theorem szT_2 : szT Tryd.prog 2 = some 1 := by kernel_rfl
@[go_sem] theorem szT_3 : szT Tryd.prog 3 = some 1 := by kernel_rfl
@[go_sem] theorem szT_4 : szT Tryd.prog 4 = some 1 := by kernel_rfl
@[go_sem] theorem szT_5 : szT Tryd.prog 5 = some 1 := by kernel_rfl
@[go_sem] theorem szT_6 : szT Tryd.prog 6 = some 1 := by kernel_rfl
@[go_sem] theorem szT_7 : szT Tryd.prog 7 = some 4 := by kernel_rfl
@[go_sem] theorem arrE_7 : arrE Tryd.prog 7 = none := by kernel_rfl
@[go_sem] theorem isStruct_7 : isStruct Tryd.prog 7 = true := by kernel_rfl
@[go_sem] theorem fldI_7_0 : fldI Tryd.prog 7 0 = some (0, 2) := by kernel_rfl
@[go_sem] theorem fldI_7_1 : fldI Tryd.prog 7 1 = some (1, 3) := by kernel_rfl
@[go_sem] theorem fldI_7_2 : fldI Tryd.prog 7 2 = some (2, 4) := by kernel_rfl
@[go_sem] theorem fldI_7_3 : fldI Tryd.prog 7 3 = some (3, 6) := by kernel_rfl
@[go_sem] theorem szT_8 : szT Tryd.prog 8 = some 4 := by kernel_rfl
@[go_sem] theorem arrE_8 : arrE Tryd.prog 8 = none := by kernel_rfl
@[go_sem] theorem isStruct_8 : isStruct Tryd.prog 8 = true := by kernel_rfl
@[go_sem] theorem fldI_8_0 : fldI Tryd.prog 8 0 = some (0, 2) := by kernel_rfl
@[go_sem] theorem fldI_8_1 : fldI Tryd.prog 8 1 = some (1, 3) := by kernel_rfl
@[go_sem] theorem fldI_8_2 : fldI Tryd.prog 8 2 = some (2, 4) := by kernel_rfl
@[go_sem] theorem fldI_8_3 : fldI Tryd.prog 8 3 = some (3, 6) := by kernel_rfl
@[go_sem] theorem szT_9 : szT Tryd.prog 9 = some 1 := by kernel_rfl
@[go_sem] theorem szT_10 : szT Tryd.prog 10 = some 1 := by kernel_rfl
@[go_sem] theorem szT_11 : szT Tryd.prog 11 = some 1 := by kernel_rfl
@[go_sem] theorem szT_12 : szT Tryd.prog 12 = some 1 := by kernel_rfl
@[go_sem] theorem szT_13 : szT Tryd.prog 13 = some 2 := by kernel_rfl
@[go_sem] theorem arrE_13 : arrE Tryd.prog 13 = none := by kernel_rfl
@[go_sem] theorem isStruct_13 : isStruct Tryd.prog 13 = true := by kernel_rfl
@[go_sem] theorem fldI_13_0 : fldI Tryd.prog 13 0 = some (0, 9) := by kernel_rfl
@[go_sem] theorem fldI_13_1 : fldI Tryd.prog 13 1 = some (1, 12) := by kernel_rfl
@[go_sem] theorem szT_14 : szT Tryd.prog 14 = some 2 := by kernel_rfl
@[go_sem] theorem arrE_14 : arrE Tryd.prog 14 = none := by kernel_rfl
@[go_sem] theorem isStruct_14 : isStruct Tryd.prog 14 = true := by kernel_rfl
@[go_sem] theorem fldI_14_0 : fldI Tryd.prog 14 0 = some (0, 9) := by kernel_rfl
@[go_sem] theorem fldI_14_1 : fldI Tryd.prog 14 1 = some (1, 12) := by kernel_rfl
@[go_sem] theorem szT_15 : szT Tryd.prog 15 = some 1 := by kernel_rfl
@[go_sem] theorem szT_16 : szT Tryd.prog 16 = some 1 := by kernel_rfl
@[go_sem] theorem szT_17 : szT Tryd.prog 17 = some 1 := by kernel_rfl
@[go_sem] theorem szT_18 : szT Tryd.prog 18 = some 1 := by kernel_rfl
@[go_sem] theorem arrE_18 : arrE Tryd.prog 18 = none := by kernel_rfl
@[go_sem] theorem isStruct_18 : isStruct Tryd.prog 18 = true := by kernel_rfl
@[go_sem] theorem fldI_18_0 : fldI Tryd.prog 18 0 = some (0, 17) := by kernel_rfl
@[go_sem] theorem szT_19 : szT Tryd.prog 19 = some 1 := by kernel_rfl
@[go_sem] theorem arrE_19 : arrE Tryd.prog 19 = none := by kernel_rfl
@[go_sem] theorem isStruct_19 : isStruct Tryd.prog 19 = true := by kernel_rfl
@[go_sem] theorem fldI_19_0 : fldI Tryd.prog 19 0 = some (0, 17) := by kernel_rfl
@[go_sem] theorem szT_21 : szT Tryd.prog 21 = some 1 := by kernel_rfl
@[go_sem] theorem szT_22 : szT Tryd.prog 22 = some 1 := by kernel_rfl
@[go_sem] theorem szE_22 : szE Tryd.prog 22 = some 2 := by kernel_rfl
@[go_sem] theorem szT_24 : szT Tryd.prog 24 = some 2 := by kernel_rfl
@[go_sem] theorem arrE_24 : arrE Tryd.prog 24 = none := by kernel_rfl
@[go_sem] theorem isStruct_24 : isStruct Tryd.prog 24 = true := by kernel_rfl
@[go_sem] theorem fldI_24_0 : fldI Tryd.prog 24 0 = some (0, 9) := by kernel_rfl
@[go_sem] theorem fldI_24_1 : fldI Tryd.prog 24 1 = some (1, 9) := by kernel_rfl
@[go_sem] theorem szT_25 : szT Tryd.prog 25 = some 2 := by kernel_rfl
@[go_sem] theorem arrE_25 : arrE Tryd.prog 25 = none := by kernel_rfl
@[go_sem] theorem isStruct_25 : isStruct Tryd.prog 25 = true := by kernel_rfl
@[go_sem] theorem fldI_25_0 : fldI Tryd.prog 25 0 = some (0, 9) := by kernel_rfl
@[go_sem] theorem fldI_25_1 : fldI Tryd.prog 25 1 = some (1, 9) := by kernel_rfl
@[go_sem] theorem szT_26 : szT Tryd.prog 26 = some 2 := by kernel_rfl
@[go_sem] theorem arrE_26 : arrE Tryd.prog 26 = none := by kernel_rfl
@[go_sem] theorem isStruct_26 : isStruct Tryd.prog 26 = true := by kernel_rfl
@[go_sem] theorem fldI_26_0 : fldI Tryd.prog 26 0 = some (0, 3) := by kernel_rfl
@[go_sem] theorem fldI_26_1 : fldI Tryd.prog 26 1 = some (1, 2) := by kernel_rfl
@[go_sem] theorem szT_27 : szT Tryd.prog 27 = some 2 := by kernel_rfl
@[go_sem] theorem arrE_27 : arrE Tryd.prog 27 = none := by kernel_rfl
@[go_sem] theorem isStruct_27 : isStruct Tryd.prog 27 = true := by kernel_rfl
@[go_sem] theorem fldI_27_0 : fldI Tryd.prog 27 0 = some (0, 3) := by kernel_rfl
@[go_sem] theorem fldI_27_1 : fldI Tryd.prog 27 1 = some (1, 2) := by kernel_rfl
@[go_sem] theorem szT_28 : szT Tryd.prog 28 = some 1 := by kernel_rfl
@[go_sem] theorem szT_31 : szT Tryd.prog 31 = some 3 := by kernel_rfl
@[go_sem] theorem arrE_31 : arrE Tryd.prog 31 = none := by kernel_rfl
@[go_sem] theorem isStruct_31 : isStruct Tryd.prog 31 = true := by kernel_rfl
@[go_sem] theorem fldI_31_0 : fldI Tryd.prog 31 0 = some (0, 9) := by kernel_rfl
@[go_sem] theorem fldI_31_1 : fldI Tryd.prog 31 1 = some (1, 9) := by kernel_rfl
@[go_sem] theorem fldI_31_2 : fldI Tryd.prog 31 2 = some (2, 22) := by kernel_rfl
@[go_sem] theorem szT_32 : szT Tryd.prog 32 = some 3 := by kernel_rfl
@[go_sem] theorem arrE_32 : arrE Tryd.prog 32 = none := by kernel_rfl
@[go_sem] theorem isStruct_32 : isStruct Tryd.prog 32 = true := by kernel_rfl
@[go_sem] theorem fldI_32_0 : fldI Tryd.prog 32 0 = some (0, 9) := by kernel_rfl
@[go_sem] theorem fldI_32_1 : fldI Tryd.prog 32 1 = some (1, 9) := by kernel_rfl
@[go_sem] theorem fldI_32_2 : fldI Tryd.prog 32 2 = some (2, 22) := by kernel_rfl
@[go_sem] theorem szT_34 : szT Tryd.prog 34 = some 3 := by kernel_rfl
@[go_sem] theorem arrE_34 : arrE Tryd.prog 34 = none := by kernel_rfl
@[go_sem] theorem isStruct_34 : isStruct Tryd.prog 34 = true := by kernel_rfl
@[go_sem] theorem fldI_34_0 : fldI Tryd.prog 34 0 = some (0, 3) := by kernel_rfl
@[go_sem] theorem fldI_34_1 : fldI Tryd.prog 34 1 = some (1, 9) := by kernel_rfl
@[go_sem] theorem fldI_34_2 : fldI Tryd.prog 34 2 = some (2, 22) := by kernel_rfl
@[go_sem] theorem szT_35 : szT Tryd.prog 35 = some 3 := by kernel_rfl
@[go_sem] theorem arrE_35 : arrE Tryd.prog 35 = none := by kernel_rfl
@[go_sem] theorem isStruct_35 : isStruct Tryd.prog 35 = true := by kernel_rfl
@[go_sem] theorem fldI_35_0 : fldI Tryd.prog 35 0 = some (0, 3) := by kernel_rfl
@[go_sem] theorem fldI_35_1 : fldI Tryd.prog 35 1 = some (1, 9) := by kernel_rfl
@[go_sem] theorem fldI_35_2 : fldI Tryd.prog 35 2 = some (2, 22) := by kernel_rfl
@[go_sem] theorem szT_39 : szT Tryd.prog 39 = some 1 := by kernel_rfl
@[go_sem] theorem szE_39 : szE Tryd.prog 39 = some 1 := by kernel_rfl
@[go_sem] theorem szT_44 : szT Tryd.prog 44 = some 1 := by kernel_rfl
@[go_sem] theorem szE_44 : szE Tryd.prog 44 = some 1 := by kernel_rfl
@[go_sem] theorem szT_59 : szT Tryd.prog 59 = some 1 := by kernel_rfl
@[go_sem] theorem szE_59 : szE Tryd.prog 59 = some 1 := by kernel_rfl
@[go_sem] theorem szT_63 : szT Tryd.prog 63 = some 24 := by kernel_rfl
@[go_sem] theorem arN_63 : arN Tryd.prog 63 = some 24 := by kernel_rfl
@[go_sem] theorem arrE_63 : arrE Tryd.prog 63 = some 1 := by kernel_rfl
@[go_sem] theorem szT_64 : szT Tryd.prog 64 = some 1 := by kernel_rfl
@[go_sem] theorem szT_70 : szT Tryd.prog 70 = some 1 := by kernel_rfl
@[go_sem] theorem szT_71 : szT Tryd.prog 71 = some 2 := by kernel_rfl
@[go_sem] theorem arrE_71 : arrE Tryd.prog 71 = none := by kernel_rfl
@[go_sem] theorem isStruct_71 : isStruct Tryd.prog 71 = true := by kernel_rfl
@[go_sem] theorem fldI_71_0 : fldI Tryd.prog 71 0 = some (0, 70) := by kernel_rfl
@[go_sem] theorem fldI_71_1 : fldI Tryd.prog 71 1 = some (1, 59) := by kernel_rfl
@[go_sem] theorem szT_72 : szT Tryd.prog 72 = some 2 := by kernel_rfl
@[go_sem] theorem arrE_72 : arrE Tryd.prog 72 = none := by kernel_rfl
@[go_sem] theorem isStruct_72 : isStruct Tryd.prog 72 = true := by kernel_rfl
@[go_sem] theorem fldI_72_0 : fldI Tryd.prog 72 0 = some (0, 70) := by kernel_rfl
@[go_sem] theorem fldI_72_1 : fldI Tryd.prog 72 1 = some (1, 59) := by kernel_rfl
@[go_sem] theorem szT_82 : szT Tryd.prog 82 = some 20 := by kernel_rfl
@[go_sem] theorem arN_82 : arN Tryd.prog 82 = some 20 := by kernel_rfl
@[go_sem] theorem arrE_82 : arrE Tryd.prog 82 = some 1 := by kernel_rfl
@[go_sem] theorem szT_83 : szT Tryd.prog 83 = some 1 := by kernel_rfl
@[go_sem] theorem szT_84 : szT Tryd.prog 84 = some 65 := by kernel_rfl
@[go_sem] theorem arN_84 : arN Tryd.prog 84 = some 65 := by kernel_rfl
@[go_sem] theorem arrE_84 : arrE Tryd.prog 84 = some 1 := by kernel_rfl
@[go_sem] theorem szT_86 : szT Tryd.prog 86 = some 1 := by kernel_rfl
@[go_sem] theorem szT_89 : szT Tryd.prog 89 = some 256 := by kernel_rfl
@[go_sem] theorem arN_89 : arN Tryd.prog 89 = some 256 := by kernel_rfl
@[go_sem] theorem arrE_89 : arrE Tryd.prog 89 = some 1 := by kernel_rfl
@[go_sem] theorem szT_90 : szT Tryd.prog 90 = some 256 := by kernel_rfl
@[go_sem] theorem arN_90 : arN Tryd.prog 90 = some 256 := by kernel_rfl
@[go_sem] theorem arrE_90 : arrE Tryd.prog 90 = some 1 := by kernel_rfl
@[go_sem] theorem szT_94 : szT Tryd.prog 94 = some 1 := by kernel_rfl
@[go_sem] theorem szT_95 : szT Tryd.prog 95 = some 1 := by kernel_rfl
@[go_sem] theorem szT_108 : szT Tryd.prog 108 = some 1 := by kernel_rfl
@[go_sem] theorem szT_114 : szT Tryd.prog 114 = some 32 := by kernel_rfl
@[go_sem] theorem arN_114 : arN Tryd.prog 114 = some 32 := by kernel_rfl
@[go_sem] theorem arrE_114 : arrE Tryd.prog 114 = some 1 := by kernel_rfl
@[go_sem] theorem szT_115 : szT Tryd.prog 115 = some 64 := by kernel_rfl
@[go_sem] theorem arN_115 : arN Tryd.prog 115 = some 64 := by kernel_rfl
@[go_sem] theorem arrE_115 : arrE Tryd.prog 115 = some 1 := by kernel_rfl
@[go_sem] theorem szT_120 : szT Tryd.prog 120 = some 1 := by kernel_rfl
@[go_sem] theorem szE_120 : szE Tryd.prog 120 = some 5 := by kernel_rfl
@[go_sem] theorem szT_121 : szT Tryd.prog 121 = some 256 := by kernel_rfl
@[go_sem] theorem arN_121 : arN Tryd.prog 121 = some 256 := by kernel_rfl
@[go_sem] theorem arrE_121 : arrE Tryd.prog 121 = some 1 := by kernel_rfl
@[go_sem] theorem szT_122 : szT Tryd.prog 122 = some 2 := by kernel_rfl
@[go_sem] theorem arrE_122 : arrE Tryd.prog 122 = none := by kernel_rfl
@[go_sem] theorem isStruct_122 : isStruct Tryd.prog 122 = true := by kernel_rfl
@[go_sem] theorem fldI_122_0 : fldI Tryd.prog 122 0 = some (0, 5) := by kernel_rfl
@[go_sem] theorem fldI_122_1 : fldI Tryd.prog 122 1 = some (1, 5) := by kernel_rfl
@[go_sem] theorem szT_123 : szT Tryd.prog 123 = some 2 := by kernel_rfl
@[go_sem] theorem arrE_123 : arrE Tryd.prog 123 = none := by kernel_rfl
@[go_sem] theorem isStruct_123 : isStruct Tryd.prog 123 = true := by kernel_rfl
@[go_sem] theorem fldI_123_0 : fldI Tryd.prog 123 0 = some (0, 5) := by kernel_rfl
@[go_sem] theorem fldI_123_1 : fldI Tryd.prog 123 1 = some (1, 5) := by kernel_rfl
@[go_sem] theorem szT_124 : szT Tryd.prog 124 = some 32 := by kernel_rfl
@[go_sem] theorem arrE_124 : arrE Tryd.prog 124 = some 2 := by kernel_rfl
@[go_sem] theorem szT_125 : szT Tryd.prog 125 = some 1 := by kernel_rfl
@[go_sem] theorem szT_128 : szT Tryd.prog 128 = some 3 := by kernel_rfl
@[go_sem] theorem arN_128 : arN Tryd.prog 128 = some 3 := by kernel_rfl
@[go_sem] theorem arrE_128 : arrE Tryd.prog 128 = some 1 := by kernel_rfl
@[go_sem] theorem szT_129 : szT Tryd.prog 129 = some 3 := by kernel_rfl
@[go_sem] theorem arN_129 : arN Tryd.prog 129 = some 3 := by kernel_rfl
@[go_sem] theorem arrE_129 : arrE Tryd.prog 129 = some 1 := by kernel_rfl
@[go_sem] theorem szT_130 : szT Tryd.prog 130 = some 5 := by kernel_rfl
@[go_sem] theorem arrE_130 : arrE Tryd.prog 130 = none := by kernel_rfl
@[go_sem] theorem isStruct_130 : isStruct Tryd.prog 130 = true := by kernel_rfl
@[go_sem] theorem fldI_130_0 : fldI Tryd.prog 130 0 = some (0, 83) := by kernel_rfl
@[go_sem] theorem fldI_130_1 : fldI Tryd.prog 130 1 = some (1, 83) := by kernel_rfl
@[go_sem] theorem fldI_130_2 : fldI Tryd.prog 130 2 = some (2, 129) := by kernel_rfl
@[go_sem] theorem szT_131 : szT Tryd.prog 131 = some 5 := by kernel_rfl
@[go_sem] theorem arrE_131 : arrE Tryd.prog 131 = none := by kernel_rfl
@[go_sem] theorem isStruct_131 : isStruct Tryd.prog 131 = true := by kernel_rfl
@[go_sem] theorem fldI_131_0 : fldI Tryd.prog 131 0 = some (0, 83) := by kernel_rfl
@[go_sem] theorem fldI_131_1 : fldI Tryd.prog 131 1 = some (1, 83) := by kernel_rfl
@[go_sem] theorem fldI_131_2 : fldI Tryd.prog 131 2 = some (2, 129) := by kernel_rfl
@[go_sem] theorem szT_132 : szT Tryd.prog 132 = some 4 := by kernel_rfl
@[go_sem] theorem arrE_132 : arrE Tryd.prog 132 = none := by kernel_rfl
@[go_sem] theorem isStruct_132 : isStruct Tryd.prog 132 = true := by kernel_rfl
@[go_sem] theorem fldI_132_0 : fldI Tryd.prog 132 0 = some (0, 17) := by kernel_rfl
@[go_sem] theorem fldI_132_1 : fldI Tryd.prog 132 1 = some (1, 17) := by kernel_rfl
@[go_sem] theorem fldI_132_2 : fldI Tryd.prog 132 2 = some (2, 17) := by kernel_rfl
@[go_sem] theorem fldI_132_3 : fldI Tryd.prog 132 3 = some (3, 9) := by kernel_rfl
@[go_sem] theorem szT_133 : szT Tryd.prog 133 = some 4 := by kernel_rfl
@[go_sem] theorem arrE_133 : arrE Tryd.prog 133 = none := by kernel_rfl
@[go_sem] theorem isStruct_133 : isStruct Tryd.prog 133 = true := by kernel_rfl
@[go_sem] theorem fldI_133_0 : fldI Tryd.prog 133 0 = some (0, 17) := by kernel_rfl
@[go_sem] theorem fldI_133_1 : fldI Tryd.prog 133 1 = some (1, 17) := by kernel_rfl
@[go_sem] theorem fldI_133_2 : fldI Tryd.prog 133 2 = some (2, 17) := by kernel_rfl
@[go_sem] theorem fldI_133_3 : fldI Tryd.prog 133 3 = some (3, 9) := by kernel_rfl
@[go_sem] theorem szT_134 : szT Tryd.prog 134 = some 0 := by kernel_rfl
@[go_sem] theorem arN_134 : arN Tryd.prog 134 = some 0 := by kernel_rfl
@[go_sem] theorem arrE_134 : arrE Tryd.prog 134 = some 1 := by kernel_rfl
@[go_sem] theorem szT_135 : szT Tryd.prog 135 = some 0 := by kernel_rfl
@[go_sem] theorem arrE_135 : arrE Tryd.prog 135 = none := by kernel_rfl
@[go_sem] theorem isStruct_135 : isStruct Tryd.prog 135 = true := by kernel_rfl
@[go_sem] theorem fldI_135_0 : fldI Tryd.prog 135 0 = some (0, 134) := by kernel_rfl
@[go_sem] theorem szT_136 : szT Tryd.prog 136 = some 0 := by kernel_rfl
@[go_sem] theorem arrE_136 : arrE Tryd.prog 136 = none := by kernel_rfl
@[go_sem] theorem isStruct_136 : isStruct Tryd.prog 136 = true := by kernel_rfl
@[go_sem] theorem fldI_136_0 : fldI Tryd.prog 136 0 = some (0, 134) := by kernel_rfl
@[go_sem] theorem szT_137 : szT Tryd.prog 137 = some 1 := by kernel_rfl
@[go_sem] theorem szT_138 : szT Tryd.prog 138 = some 1 := by kernel_rfl
@[go_sem] theorem szT_140 : szT Tryd.prog 140 = some 1 := by kernel_rfl
@[go_sem] theorem szT_141 : szT Tryd.prog 141 = some 1 := by kernel_rfl
@[go_sem] theorem szT_142 : szT Tryd.prog 142 = some 11 := by kernel_rfl
@[go_sem] theorem arrE_142 : arrE Tryd.prog 142 = none := by kernel_rfl
@[go_sem] theorem isStruct_142 : isStruct Tryd.prog 142 = true := by kernel_rfl
@[go_sem] theorem fldI_142_0 : fldI Tryd.prog 142 0 = some (0, 12) := by kernel_rfl
@[go_sem] theorem fldI_142_1 : fldI Tryd.prog 142 1 = some (1, 12) := by kernel_rfl
@[go_sem] theorem fldI_142_2 : fldI Tryd.prog 142 2 = some (2, 83) := by kernel_rfl
@[go_sem] theorem fldI_142_3 : fldI Tryd.prog 142 3 = some (3, 137) := by kernel_rfl
@[go_sem] theorem fldI_142_4 : fldI Tryd.prog 142 4 = some (4, 5) := by kernel_rfl
@[go_sem] theorem fldI_142_5 : fldI Tryd.prog 142 5 = some (5, 5) := by kernel_rfl
@[go_sem] theorem fldI_142_6 : fldI Tryd.prog 142 6 = some (6, 138) := by kernel_rfl
@[go_sem] theorem fldI_142_7 : fldI Tryd.prog 142 7 = some (7, 139) := by kernel_rfl
@[go_sem] theorem fldI_142_8 : fldI Tryd.prog 142 8 = some (8, 95) := by kernel_rfl
@[go_sem] theorem fldI_142_9 : fldI Tryd.prog 142 9 = some (9, 140) := by kernel_rfl
@[go_sem] theorem fldI_142_10 : fldI Tryd.prog 142 10 = some (10, 141) := by kernel_rfl
@[go_sem] theorem szT_143 : szT Tryd.prog 143 = some 11 := by kernel_rfl
@[go_sem] theorem arrE_143 : arrE Tryd.prog 143 = none := by kernel_rfl
@[go_sem] theorem isStruct_143 : isStruct Tryd.prog 143 = true := by kernel_rfl
@[go_sem] theorem fldI_143_0 : fldI Tryd.prog 143 0 = some (0, 12) := by kernel_rfl
@[go_sem] theorem fldI_143_1 : fldI Tryd.prog 143 1 = some (1, 12) := by kernel_rfl
@[go_sem] theorem fldI_143_2 : fldI Tryd.prog 143 2 = some (2, 83) := by kernel_rfl
@[go_sem] theorem fldI_143_3 : fldI Tryd.prog 143 3 = some (3, 137) := by kernel_rfl
@[go_sem] theorem fldI_143_4 : fldI Tryd.prog 143 4 = some (4, 5) := by kernel_rfl
@[go_sem] theorem fldI_143_5 : fldI Tryd.prog 143 5 = some (5, 5) := by kernel_rfl
@[go_sem] theorem fldI_143_6 : fldI Tryd.prog 143 6 = some (6, 138) := by kernel_rfl
@[go_sem] theorem fldI_143_7 : fldI Tryd.prog 143 7 = some (7, 139) := by kernel_rfl
@[go_sem] theorem fldI_143_8 : fldI Tryd.prog 143 8 = some (8, 95) := by kernel_rfl
@[go_sem] theorem fldI_143_9 : fldI Tryd.prog 143 9 = some (9, 140) := by kernel_rfl
@[go_sem] theorem fldI_143_10 : fldI Tryd.prog 143 10 = some (10, 141) := by kernel_rfl
@[go_sem] theorem stK_25 : stK Tryd.prog 25 = some [.s, .s] := by kernel_rfl
def enc_api_Field (p : (List UInt8) × (List UInt8)) : AV := .agg [.str p.1, .str p.2]
@[go_sem] theorem enc_api_Field_p (p : (List UInt8) × (List UInt8)) : enc_api_Field p = .agg [.str p.1, .str p.2] := rfl
@[go_sem] theorem set_enc_api_Field (l : List ((List UInt8) × (List UInt8))) (i : Nat) (a0 : List UInt8) (a1 : List UInt8) : (List.map enc_api_Field l).set i (.agg [.str a0, .str a1]) = List.map enc_api_Field (l.set i (a0, a1)) := by rw [List.map_set]; rfl
@[go_sem] theorem stK_27 : stK Tryd.prog 27 = some [.i, .i] := by kernel_rfl
def enc_api_Body (p : Int × Int) : AV := .agg [.int .i64 p.1, .int .i64 p.2]
@[go_sem] theorem enc_api_Body_p (p : Int × Int) : enc_api_Body p = .agg [.int .i64 p.1, .int .i64 p.2] := rfl
@[go_sem] theorem set_enc_api_Body (l : List (Int × Int)) (i : Nat) (a0 : Int) (a1 : Int) : (List.map enc_api_Body l).set i (.agg [.int .i64 a0, .int .i64 a1]) = List.map enc_api_Body (l.set i (a0, a1)) := by rw [List.map_set]; rfl
@[go_sem] theorem zeroA_1 : zeroA Tryd.prog 1 = some [.sc .nilFunc] := by kernel_rfl
@[go_sem] theorem zeroA_2 : zeroA Tryd.prog 2 = some [.int .i64 0] := by kernel_rfl
@[go_sem] theorem zeroA_3 : zeroA Tryd.prog 3 = some [.int .i64 0] := by kernel_rfl
@[go_sem] theorem zeroA_4 : zeroA Tryd.prog 4 = some [.bool false] := by kernel_rfl
@[go_sem] theorem zeroA_5 : zeroA Tryd.prog 5 = some [.int .u8 0] := by kernel_rfl
@[go_sem] theorem zeroA_6 : zeroA Tryd.prog 6 = some [.int .u8 0] := by kernel_rfl
@[go_sem] theorem zeroA_7 : zeroA Tryd.prog 7 = some [.int .i64 0, .int .i64 0, .bool false, .int .u8 0] := by kernel_rfl
@[go_sem] theorem zeroA_8 : zeroA Tryd.prog 8 = some [.int .i64 0, .int .i64 0, .bool false, .int .u8 0] := by kernel_rfl
@[go_sem] theorem zeroA_9 : zeroA Tryd.prog 9 = some [.str []] := by kernel_rfl
@[go_sem] theorem zeroA_10 : zeroA Tryd.prog 10 = some [.str []] := by kernel_rfl
@[go_sem] theorem zeroA_11 : zeroA Tryd.prog 11 = some [.str []] := by kernel_rfl
@[go_sem] theorem zeroA_12 : zeroA Tryd.prog 12 = some [.int .u64 0] := by kernel_rfl
@[go_sem] theorem zeroA_13 : zeroA Tryd.prog 13 = some [.str [], .int .u64 0] := by kernel_rfl
@[go_sem] theorem zeroA_14 : zeroA Tryd.prog 14 = some [.str [], .int .u64 0] := by kernel_rfl
@[go_sem] theorem zeroA_15 : zeroA Tryd.prog 15 = some [.sc (.pointer none)] := by kernel_rfl
@[go_sem] theorem zeroA_16 : zeroA Tryd.prog 16 = some [.sc (.pointer none)] := by kernel_rfl
@[go_sem] theorem zeroA_17 : zeroA Tryd.prog 17 = some [.sc (.pointer none)] := by kernel_rfl
@[go_sem] theorem zeroA_18 : zeroA Tryd.prog 18 = some [.sc (.pointer none)] := by kernel_rfl
@[go_sem] theorem zeroA_19 : zeroA Tryd.prog 19 = some [.sc (.pointer none)] := by kernel_rfl
@[go_sem] theorem zeroA_20 : zeroA Tryd.prog 20 = some [.sc .nilIface] := by kernel_rfl
@[go_sem] theorem zeroA_21 : zeroA Tryd.prog 21 = some [.int .i32 0] := by kernel_rfl
@[go_sem] theorem zeroA_22 : zeroA Tryd.prog 22 = some [.sc (.slice none 0 0)] := by kernel_rfl
@[go_sem] theorem zeroA_23 : zeroA Tryd.prog 23 = some [.sc .nilFunc] := by kernel_rfl
@[go_sem] theorem zeroA_24 : zeroA Tryd.prog 24 = some [.str [], .str []] := by kernel_rfl
@[go_sem] theorem zeroA_25 : zeroA Tryd.prog 25 = some [.str [], .str []] := by kernel_rfl
@[go_sem] theorem zeroA_26 : zeroA Tryd.prog 26 = some [.int .i64 0, .int .i64 0] := by kernel_rfl
@[go_sem] theorem zeroA_27 : zeroA Tryd.prog 27 = some [.int .i64 0, .int .i64 0] := by kernel_rfl
@[go_sem] theorem zeroA_28 : zeroA Tryd.prog 28 = some [.int .i64 0] := by kernel_rfl
@[go_sem] theorem zeroA_30 : zeroA Tryd.prog 30 = some [.sc .nilFunc] := by kernel_rfl
@[go_sem] theorem zeroA_31 : zeroA Tryd.prog 31 = some [.str [], .str [], .sc (.slice none 0 0)] := by kernel_rfl
@[go_sem] theorem zeroA_32 : zeroA Tryd.prog 32 = some [.str [], .str [], .sc (.slice none 0 0)] := by kernel_rfl
@[go_sem] theorem zeroA_33 : zeroA Tryd.prog 33 = some [.sc .nilFunc] := by kernel_rfl
@[go_sem] theorem zeroA_34 : zeroA Tryd.prog 34 = some [.int .i64 0, .str [], .sc (.slice none 0 0)] := by kernel_rfl
@[go_sem] theorem zeroA_35 : zeroA Tryd.prog 35 = some [.int .i64 0, .str [], .sc (.slice none 0 0)] := by kernel_rfl
@[go_sem] theorem zeroA_36 : zeroA Tryd.prog 36 = some [.sc .nilFunc] := by kernel_rfl
@[go_sem] theorem zeroA_37 : zeroA Tryd.prog 37 = some [.sc .nilFunc] := by kernel_rfl
@[go_sem] theorem zeroA_38 : zeroA Tryd.prog 38 = some [.sc .nilFunc] := by kernel_rfl
@[go_sem] theorem zeroA_39 : zeroA Tryd.prog 39 = some [.sc (.slice none 0 0)] := by kernel_rfl
@[go_sem] theorem zeroA_40 : zeroA Tryd.prog 40 = some [.sc .nilFunc] := by kernel_rfl
@[go_sem] theorem zeroA_41 : zeroA Tryd.prog 41 = some [.sc .nilFunc] := by kernel_rfl
@[go_sem] theorem zeroA_42 : zeroA Tryd.prog 42 = some [.sc .nilFunc] := by kernel_rfl
@[go_sem] theorem zeroA_43 : zeroA Tryd.prog 43 = some [.sc .nilFunc] := by kernel_rfl
@[go_sem] theorem zeroA_44 : zeroA Tryd.prog 44 = some [.sc (.slice none 0 0)] := by kernel_rfl
@[go_sem] theorem zeroA_45 : zeroA Tryd.prog 45 = some [.sc .nilFunc] := by kernel_rfl
@[go_sem] theorem zeroA_46 : zeroA Tryd.prog 46 = some [.sc .nilFunc] := by kernel_rfl
@[go_sem] theorem zeroA_48 : zeroA Tryd.prog 48 = some [.sc .nilFunc] := by kernel_rfl
@[go_sem] theorem zeroA_49 : zeroA Tryd.prog 49 = some [.sc .nilFunc] := by kernel_rfl
@[go_sem] theorem zeroA_51 : zeroA Tryd.prog 51 = some [.sc .nilFunc] := by kernel_rfl
@[go_sem] theorem zeroA_52 : zeroA Tryd.prog 52 = some [.sc .nilFunc] := by kernel_rfl
@[go_sem] theorem zeroA_53 : zeroA Tryd.prog 53 = some [.sc .nilFunc] := by kernel_rfl
@[go_sem] theorem zeroA_54 : zeroA Tryd.prog 54 = some [.sc .nilFunc] := by kernel_rfl
@[go_sem] theorem zeroA_55 : zeroA Tryd.prog 55 = some [.sc .nilFunc] := by kernel_rfl
@[go_sem] theorem zeroA_56 : zeroA Tryd.prog 56 = some [.sc .nilFunc] := by kernel_rfl
@[go_sem] theorem zeroA_58 : zeroA Tryd.prog 58 = some [.sc .nilFunc] := by kernel_rfl
@[go_sem] theorem zeroA_59 : zeroA Tryd.prog 59 = some [.sc (.slice none 0 0)] := by kernel_rfl
@[go_sem] theorem zeroA_60 : zeroA Tryd.prog 60 = some [.sc .nilFunc] := by kernel_rfl
@[go_sem] theorem zeroA_61 : zeroA Tryd.prog 61 = some [.sc .nilFunc] := by kernel_rfl
@[go_sem] theorem zeroA_62 : zeroA Tryd.prog 62 = some [.sc .nilFunc] := by kernel_rfl
@[go_sem] theorem zeroA_63 : zeroA Tryd.prog 63 = some [.int .u8 0, .int .u8 0, .int .u8 0, .int .u8 0, .int .u8 0, .int .u8 0, .int .u8 0, .int .u8 0, .int .u8 0, .int .u8 0, .int .u8 0, .int .u8 0, .int .u8 0, .int .u8 0, .int .u8 0, .int .u8 0, .int .u8 0, .int .u8 0, .int .u8 0, .int .u8 0, .int .u8 0, .int .u8 0, .int .u8 0, .int .u8 0] := by kernel_rfl
@[go_sem] theorem zeroA_64 : zeroA Tryd.prog 64 = some [.int .u64 0] := by kernel_rfl
@[go_sem] theorem zeroA_65 : zeroA Tryd.prog 65 = some [.sc .nilFunc] := by kernel_rfl
@[go_sem] theorem zeroA_66 : zeroA Tryd.prog 66 = some [.sc .nilFunc] := by kernel_rfl
@[go_sem] theorem zeroA_68 : zeroA Tryd.prog 68 = some [.sc .nilFunc] := by kernel_rfl
@[go_sem] theorem zeroA_69 : zeroA Tryd.prog 69 = some [.sc .nilFunc] := by kernel_rfl
@[go_sem] theorem zeroA_70 : zeroA Tryd.prog 70 = some [.sc (.pointer none)] := by kernel_rfl
@[go_sem] theorem zeroA_71 : zeroA Tryd.prog 71 = some [.sc (.pointer none), .sc (.slice none 0 0)] := by kernel_rfl
@[go_sem] theorem zeroA_72 : zeroA Tryd.prog 72 = some [.sc (.pointer none), .sc (.slice none 0 0)] := by kernel_rfl
@[go_sem] theorem zeroA_73 : zeroA Tryd.prog 73 = some [.sc .nilFunc] := by kernel_rfl
@[go_sem] theorem zeroA_74 : zeroA Tryd.prog 74 = some [.sc .nilFunc] := by kernel_rfl
@[go_sem] theorem zeroA_75 : zeroA Tryd.prog 75 = some [.sc .nilIface] := by kernel_rfl
@[go_sem] theorem zeroA_76 : zeroA Tryd.prog 76 = some [.sc .nilIface] := by kernel_rfl
@[go_sem] theorem zeroA_77 : zeroA Tryd.prog 77 = some [.sc .nilFunc] := by kernel_rfl
@[go_sem] theorem zeroA_78 : zeroA Tryd.prog 78 = some [.sc .nilFunc] := by kernel_rfl
@[go_sem] theorem zeroA_79 : zeroA Tryd.prog 79 = some [.sc .nilFunc] := by kernel_rfl
@[go_sem] theorem zeroA_80 : zeroA Tryd.prog 80 = some [.sc .nilFunc] := by kernel_rfl
@[go_sem] theorem zeroA_81 : zeroA Tryd.prog 81 = some [.sc .nilFunc] := by kernel_rfl
@[go_sem] theorem zeroA_82 : zeroA Tryd.prog 82 = some [.int .u64 0, .int .u64 0, .int .u64 0, .int .u64 0, .int .u64 0, .int .u64 0, .int .u64 0, .int .u64 0, .int .u64 0, .int .u64 0, .int .u64 0, .int .u64 0, .int .u64 0, .int .u64 0, .int .u64 0, .int .u64 0, .int .u64 0, .int .u64 0, .int .u64 0, .int .u64 0] := by kernel_rfl
@[go_sem] theorem zeroA_83 : zeroA Tryd.prog 83 = some [.int .u32 0] := by kernel_rfl
@[go_sem] theorem zeroA_84 : zeroA Tryd.prog 84 = some [.int .u8 0, .int .u8 0, .int .u8 0, .int .u8 0, .int .u8 0, .int .u8 0, .int .u8 0, .int .u8 0, .int .u8 0, .int .u8 0, .int .u8 0, .int .u8 0, .int .u8 0, .int .u8 0, .int .u8 0, .int .u8 0, .int .u8 0, .int .u8 0, .int .u8 0, .int .u8 0, .int .u8 0, .int .u8 0, .int .u8 0, .int .u8 0, .int .u8 0, .int .u8 0, .int .u8 0, .int .u8 0, .int .u8 0, .int .u8 0, .int .u8 0, .int .u8 0, .int .u8 0, .int .u8 0, .int .u8 0, .int .u8 0, .int .u8 0, .int .u8 0, .int .u8 0, .int .u8 0, .int .u8 0, .int .u8 0, .int .u8 0, .int .u8 0, .int .u8 0, .int .u8 0, .int .u8 0, .int .u8 0, .int .u8 0, .int .u8 0, .int .u8 0, .int .u8 0, .int .u8 0, .int .u8 0, .int .u8 0, .int .u8 0, .int .u8 0, .int .u8 0, .int .u8 0, .int .u8 0, .int .u8 0, .int .u8 0, .int .u8 0, .int .u8 0, .int .u8 0] := by kernel_rfl
@[go_sem] theorem zeroA_85 : zeroA Tryd.prog 85 = some [.sc .nilFunc] := by kernel_rfl
@[go_sem] theorem zeroA_86 : zeroA Tryd.prog 86 = some [.int .u64 0] := by kernel_rfl
@[go_sem] theorem zeroA_87 : zeroA Tryd.prog 87 = some [.sc .nilFunc] := by kernel_rfl
@[go_sem] theorem zeroA_88 : zeroA Tryd.prog 88 = some [.sc .nilFunc] := by kernel_rfl
@[go_sem] theorem zeroA_89 : zeroA Tryd.prog 89 = some [.bool false, .bool false, .bool false, .bool false, .bool false, .bool false, .bool false, .bool false, .bool false, .bool false, .bool false, .bool false, .bool false, .bool false, .bool false, .bool false, .bool false, .bool false, .bool false, .bool false, .bool false, .bool false, .bool false, .bool false, .bool false, .bool false, .bool false, .bool false, .bool false, .bool false, .bool false, .bool false, .bool false, .bool false, .bool false, .bool false, .bool false, .bool false, .bool false, .bool false, .bool false, .bool false, .bool false, .bool false, .bool false, .bool false, .bool false, .bool false, .bool false, .bool false, .bool false, .bool false, .bool false, .bool false, .bool false, .bool false, .bool false, .bool false, .bool false, .bool false, .bool false, .bool false, .bool false, .bool false, .bool false, .bool false, .bool false, .bool false, .bool false, .bool false, .bool false, .bool false, .bool false, .bool false, .bool false, .bool false, .bool false, .bool false, .bool false, .bool false, .bool false, .bool false, .bool false, .bool false, .bool false, .bool false, .bool false, .bool false, .bool false, .bool false, .bool false, .bool false, .bool false, .bool false, .bool false, .bool false, .bool false, .bool false, .bool false, .bool false, .bool false, .bool false, .bool false, .bool false, .bool false, .bool false, .bool false, .bool false, .bool false, .bool false, .bool false, .bool false, .bool false, .bool false, .bool false, .bool false, .bool false, .bool false, .bool false, .bool false, .bool false, .bool false, .bool false, .bool false, .bool false, .bool false, .bool false, .bool false, .bool false, .bool false, .bool false, .bool false, .bool false, .bool false, .bool false, .bool false, .bool false, .bool false, .bool false, .bool false, .bool false, .bool false, .bool false, .bool false, .bool false, .bool false, .bool false, .bool false, .bool false, .bool false, .bool false, .bool false, .bool false, .bool false, .bool false, .bool false, .bool false, .bool false, .bool false, .bool false, .bool false, .bool false, .bool false, .bool false, .bool false, .bool false, .bool false, .bool false, .bool false, .bool false, .bool false, .bool false, .bool false, .bool false, .bool false, .bool false, .bool false, .bool false, .bool false, .bool false, .bool false, .bool false, .bool false, .bool false, .bool false, .bool false, .bool false, .bool false, .bool false, .bool false, .bool false, .bool false, .bool false, .bool false, .bool false, .bool false, .bool false, .bool false, .bool false, .bool false, .bool false, .bool false, .bool false, .bool false, .bool false, .bool false, .bool false, .bool false, .bool false, .bool false, .bool false, .bool false, .bool false, .bool false, .bool false, .bool false, .bool false, .bool false, .bool false, .bool false, .bool false, .bool false, .bool false, .bool false, .bool false, .bool false, .bool false, .bool false, .bool false, .bool false, .bool false, .bool false, .bool false, .bool false, .bool false, .bool false, .bool false, .bool false, .bool false, .bool false, .bool false, .bool false, .bool false, .bool false, .bool false, .bool false, .bool false, .bool false, .bool false, .bool false, .bool false, .bool false, .bool false, .bool false, .bool false, .bool false] := by kernel_rfl
@[go_sem] theorem zeroA_90 : zeroA Tryd.prog 90 = some [.bool false, .bool false, .bool false, .bool false, .bool false, .bool false, .bool false, .bool false, .bool false, .bool false, .bool false, .bool false, .bool false, .bool false, .bool false, .bool false, .bool false, .bool false, .bool false, .bool false, .bool false, .bool false, .bool false, .bool false, .bool false, .bool false, .bool false, .bool false, .bool false, .bool false, .bool false, .bool false, .bool false, .bool false, .bool false, .bool false, .bool false, .bool false, .bool false, .bool false, .bool false, .bool false, .bool false, .bool false, .bool false, .bool false, .bool false, .bool false, .bool false, .bool false, .bool false, .bool false, .bool false, .bool false, .bool false, .bool false, .bool false, .bool false, .bool false, .bool false, .bool false, .bool false, .bool false, .bool false, .bool false, .bool false, .bool false, .bool false, .bool false, .bool false, .bool false, .bool false, .bool false, .bool false, .bool false, .bool false, .bool false, .bool false, .bool false, .bool false, .bool false, .bool false, .bool false, .bool false, .bool false, .bool false, .bool false, .bool false, .bool false, .bool false, .bool false, .bool false, .bool false, .bool false, .bool false, .bool false, .bool false, .bool false, .bool false, .bool false, .bool false, .bool false, .bool false, .bool false, .bool false, .bool false, .bool false, .bool false, .bool false, .bool false, .bool false, .bool false, .bool false, .bool false, .bool false, .bool false, .bool false, .bool false, .bool false, .bool false, .bool false, .bool false, .bool false, .bool false, .bool false, .bool false, .bool false, .bool false, .bool false, .bool false, .bool false, .bool false, .bool false, .bool false, .bool false, .bool false, .bool false, .bool false, .bool false, .bool false, .bool false, .bool false, .bool false, .bool false, .bool false, .bool false, .bool false, .bool false, .bool false, .bool false, .bool false, .bool false, .bool false, .bool false, .bool false, .bool false, .bool false, .bool false, .bool false, .bool false, .bool false, .bool false, .bool false, .bool false, .bool false, .bool false, .bool false, .bool false, .bool false, .bool false, .bool false, .bool false, .bool false, .bool false, .bool false, .bool false, .bool false, .bool false, .bool false, .bool false, .bool false, .bool false, .bool false, .bool false, .bool false, .bool false, .bool false, .bool false, .bool false, .bool false, .bool false, .bool false, .bool false, .bool false, .bool false, .bool false, .bool false, .bool false, .bool false, .bool false, .bool false, .bool false, .bool false, .bool false, .bool false, .bool false, .bool false, .bool false, .bool false, .bool false, .bool false, .bool false, .bool false, .bool false, .bool false, .bool false, .bool false, .bool false, .bool false, .bool false, .bool false, .bool false, .bool false, .bool false, .bool false, .bool false, .bool false, .bool false, .bool false, .bool false, .bool false, .bool false, .bool false, .bool false, .bool false, .bool false, .bool false, .bool false, .bool false, .bool false, .bool false, .bool false, .bool false, .bool false, .bool false, .bool false, .bool false, .bool false, .bool false, .bool false, .bool false, .bool false, .bool false, .bool false, .bool false, .bool false] := by kernel_rfl
@[go_sem] theorem zeroA_92 : zeroA Tryd.prog 92 = some [.sc .nilFunc] := by kernel_rfl
@[go_sem] theorem zeroA_93 : zeroA Tryd.prog 93 = some [.sc .nilFunc] := by kernel_rfl
@[go_sem] theorem zeroA_94 : zeroA Tryd.prog 94 = some [.sc (.pointer none)] := by kernel_rfl
@[go_sem] theorem zeroA_95 : zeroA Tryd.prog 95 = some [.sc (.pointer none)] := by kernel_rfl
@[go_sem] theorem zeroA_96 : zeroA Tryd.prog 96 = some [.sc .nilFunc] := by kernel_rfl
@[go_sem] theorem zeroA_98 : zeroA Tryd.prog 98 = some [.sc .nilFunc] := by kernel_rfl
@[go_sem] theorem zeroA_99 : zeroA Tryd.prog 99 = some [.sc .nilFunc] := by kernel_rfl
@[go_sem] theorem zeroA_100 : zeroA Tryd.prog 100 = some [.sc .nilFunc] := by kernel_rfl
@[go_sem] theorem zeroA_101 : zeroA Tryd.prog 101 = some [.sc .nilFunc] := by kernel_rfl
@[go_sem] theorem zeroA_102 : zeroA Tryd.prog 102 = some [.sc .nilFunc] := by kernel_rfl
@[go_sem] theorem zeroA_103 : zeroA Tryd.prog 103 = some [.sc .nilFunc] := by kernel_rfl
@[go_sem] theorem zeroA_104 : zeroA Tryd.prog 104 = some [.sc .nilFunc] := by kernel_rfl
@[go_sem] theorem zeroA_106 : zeroA Tryd.prog 106 = some [.sc .nilFunc] := by kernel_rfl
@[go_sem] theorem zeroA_107 : zeroA Tryd.prog 107 = some [.sc .nilFunc] := by kernel_rfl
@[go_sem] theorem zeroA_108 : zeroA Tryd.prog 108 = some [.sc (.pointer none)] := by kernel_rfl
@[go_sem] theorem zeroA_109 : zeroA Tryd.prog 109 = some [.sc .nilFunc] := by kernel_rfl
@[go_sem] theorem zeroA_110 : zeroA Tryd.prog 110 = some [.sc .nilFunc] := by kernel_rfl
@[go_sem] theorem zeroA_111 : zeroA Tryd.prog 111 = some [.sc .nilFunc] := by kernel_rfl
@[go_sem] theorem zeroA_112 : zeroA Tryd.prog 112 = some [.sc .nilFunc] := by kernel_rfl
@[go_sem] theorem zeroA_113 : zeroA Tryd.prog 113 = some [.sc .nilFunc] := by kernel_rfl
@[go_sem] theorem zeroA_114 : zeroA Tryd.prog 114 = some [.int .u8 0, .int .u8 0, .int .u8 0, .int .u8 0, .int .u8 0, .int .u8 0, .int .u8 0, .int .u8 0, .int .u8 0, .int .u8 0, .int .u8 0, .int .u8 0, .int .u8 0, .int .u8 0, .int .u8 0, .int .u8 0, .int .u8 0, .int .u8 0, .int .u8 0, .int .u8 0, .int .u8 0, .int .u8 0, .int .u8 0, .int .u8 0, .int .u8 0, .int .u8 0, .int .u8 0, .int .u8 0, .int .u8 0, .int .u8 0, .int .u8 0, .int .u8 0] := by kernel_rfl
@[go_sem] theorem zeroA_115 : zeroA Tryd.prog 115 = some [.int .u8 0, .int .u8 0, .int .u8 0, .int .u8 0, .int .u8 0, .int .u8 0, .int .u8 0, .int .u8 0, .int .u8 0, .int .u8 0, .int .u8 0, .int .u8 0, .int .u8 0, .int .u8 0, .int .u8 0, .int .u8 0, .int .u8 0, .int .u8 0, .int .u8 0, .int .u8 0, .int .u8 0, .int .u8 0, .int .u8 0, .int .u8 0, .int .u8 0, .int .u8 0, .int .u8 0, .int .u8 0, .int .u8 0, .int .u8 0, .int .u8 0, .int .u8 0, .int .u8 0, .int .u8 0, .int .u8 0, .int .u8 0, .int .u8 0, .int .u8 0, .int .u8 0, .int .u8 0, .int .u8 0, .int .u8 0, .int .u8 0, .int .u8 0, .int .u8 0, .int .u8 0, .int .u8 0, .int .u8 0, .int .u8 0, .int .u8 0, .int .u8 0, .int .u8 0, .int .u8 0, .int .u8 0, .int .u8 0, .int .u8 0, .int .u8 0, .int .u8 0, .int .u8 0, .int .u8 0, .int .u8 0, .int .u8 0, .int .u8 0, .int .u8 0] := by kernel_rfl
@[go_sem] theorem zeroA_116 : zeroA Tryd.prog 116 = some [.sc .nilFunc] := by kernel_rfl
@[go_sem] theorem zeroA_117 : zeroA Tryd.prog 117 = some [.sc .nilFunc] := by kernel_rfl
@[go_sem] theorem zeroA_119 : zeroA Tryd.prog 119 = some [.sc .nilFunc] := by kernel_rfl
@[go_sem] theorem zeroA_120 : zeroA Tryd.prog 120 = some [.sc (.slice none 0 0)] := by kernel_rfl
@[go_sem] theorem zeroA_121 : zeroA Tryd.prog 121 = some [.int .u8 0, .int .u8 0, .int .u8 0, .int .u8 0, .int .u8 0, .int .u8 0, .int .u8 0, .int .u8 0, .int .u8 0, .int .u8 0, .int .u8 0, .int .u8 0, .int .u8 0, .int .u8 0, .int .u8 0, .int .u8 0, .int .u8 0, .int .u8 0, .int .u8 0, .int .u8 0, .int .u8 0, .int .u8 0, .int .u8 0, .int .u8 0, .int .u8 0, .int .u8 0, .int .u8 0, .int .u8 0, .int .u8 0, .int .u8 0, .int .u8 0, .int .u8 0, .int .u8 0, .int .u8 0, .int .u8 0, .int .u8 0, .int .u8 0, .int .u8 0, .int .u8 0, .int .u8 0, .int .u8 0, .int .u8 0, .int .u8 0, .int .u8 0, .int .u8 0, .int .u8 0, .int .u8 0, .int .u8 0, .int .u8 0, .int .u8 0, .int .u8 0, .int .u8 0, .int .u8 0, .int .u8 0, .int .u8 0, .int .u8 0, .int .u8 0, .int .u8 0, .int .u8 0, .int .u8 0, .int .u8 0, .int .u8 0, .int .u8 0, .int .u8 0, .int .u8 0, .int .u8 0, .int .u8 0, .int .u8 0, .int .u8 0, .int .u8 0, .int .u8 0, .int .u8 0, .int .u8 0, .int .u8 0, .int .u8 0, .int .u8 0, .int .u8 0, .int .u8 0, .int .u8 0, .int .u8 0, .int .u8 0, .int .u8 0, .int .u8 0, .int .u8 0, .int .u8 0, .int .u8 0, .int .u8 0, .int .u8 0, .int .u8 0, .int .u8 0, .int .u8 0, .int .u8 0, .int .u8 0, .int .u8 0, .int .u8 0, .int .u8 0, .int .u8 0, .int .u8 0, .int .u8 0, .int .u8 0, .int .u8 0, .int .u8 0, .int .u8 0, .int .u8 0, .int .u8 0, .int .u8 0, .int .u8 0, .int .u8 0, .int .u8 0, .int .u8 0, .int .u8 0, .int .u8 0, .int .u8 0, .int .u8 0, .int .u8 0, .int .u8 0, .int .u8 0, .int .u8 0, .int .u8 0, .int .u8 0, .int .u8 0, .int .u8 0, .int .u8 0, .int .u8 0, .int .u8 0, .int .u8 0, .int .u8 0, .int .u8 0, .int .u8 0, .int .u8 0, .int .u8 0, .int .u8 0, .int .u8 0, .int .u8 0, .int .u8 0, .int .u8 0, .int .u8 0, .int .u8 0, .int .u8 0, .int .u8 0, .int .u8 0, .int .u8 0, .int .u8 0, .int .u8 0, .int .u8 0, .int .u8 0, .int .u8 0, .int .u8 0, .int .u8 0, .int .u8 0, .int .u8 0, .int .u8 0, .int .u8 0, .int .u8 0, .int .u8 0, .int .u8 0, .int .u8 0, .int .u8 0, .int .u8 0, .int .u8 0, .int .u8 0, .int .u8 0, .int .u8 0, .int .u8 0, .int .u8 0, .int .u8 0, .int .u8 0, .int .u8 0, .int .u8 0, .int .u8 0, .int .u8 0, .int .u8 0, .int .u8 0, .int .u8 0, .int .u8 0, .int .u8 0, .int .u8 0, .int .u8 0, .int .u8 0, .int .u8 0, .int .u8 0, .int .u8 0, .int .u8 0, .int .u8 0, .int .u8 0, .int .u8 0, .int .u8 0, .int .u8 0, .int .u8 0, .int .u8 0, .int .u8 0, .int .u8 0, .int .u8 0, .int .u8 0, .int .u8 0, .int .u8 0, .int .u8 0, .int .u8 0, .int .u8 0, .int .u8 0, .int .u8 0, .int .u8 0, .int .u8 0, .int .u8 0, .int .u8 0, .int .u8 0, .int .u8 0, .int .u8 0, .int .u8 0, .int .u8 0, .int .u8 0, .int .u8 0, .int .u8 0, .int .u8 0, .int .u8 0, .int .u8 0, .int .u8 0, .int .u8 0, .int .u8 0, .int .u8 0, .int .u8 0, .int .u8 0, .int .u8 0, .int .u8 0, .int .u8 0, .int .u8 0, .int .u8 0, .int .u8 0, .int .u8 0, .int .u8 0, .int .u8 0, .int .u8 0, .int .u8 0, .int .u8 0, .int .u8 0, .int .u8 0, .int .u8 0, .int .u8 0, .int .u8 0, .int .u8 0, .int .u8 0, .int .u8 0, .int .u8 0, .int .u8 0, .int .u8 0, .int .u8 0, .int .u8 0, .int .u8 0, .int .u8 0, .int .u8 0, .int .u8 0, .int .u8 0, .int .u8 0, .int .u8 0, .int .u8 0, .int .u8 0] := by kernel_rfl
@[go_sem] theorem zeroA_122 : zeroA Tryd.prog 122 = some [.int .u8 0, .int .u8 0] := by kernel_rfl
@[go_sem] theorem zeroA_123 : zeroA Tryd.prog 123 = some [.int .u8 0, .int .u8 0] := by kernel_rfl
@[go_sem] theorem zeroA_124 : zeroA Tryd.prog 124 = some [.int .u8 0, .int .u8 0, .int .u8 0, .int .u8 0, .int .u8 0, .int .u8 0, .int .u8 0, .int .u8 0, .int .u8 0, .int .u8 0, .int .u8 0, .int .u8 0, .int .u8 0, .int .u8 0, .int .u8 0, .int .u8 0, .int .u8 0, .int .u8 0, .int .u8 0, .int .u8 0, .int .u8 0, .int .u8 0, .int .u8 0, .int .u8 0, .int .u8 0, .int .u8 0, .int .u8 0, .int .u8 0, .int .u8 0, .int .u8 0, .int .u8 0, .int .u8 0] := by kernel_rfl
@[go_sem] theorem zeroA_125 : zeroA Tryd.prog 125 = some [.sc (.pointer none)] := by kernel_rfl
@[go_sem] theorem zeroA_126 : zeroA Tryd.prog 126 = some [.sc .nilFunc] := by kernel_rfl
@[go_sem] theorem zeroA_127 : zeroA Tryd.prog 127 = some [.sc .nilFunc] := by kernel_rfl
@[go_sem] theorem zeroA_128 : zeroA Tryd.prog 128 = some [.int .i32 0, .int .i32 0, .int .i32 0] := by kernel_rfl
@[go_sem] theorem zeroA_129 : zeroA Tryd.prog 129 = some [.int .i32 0, .int .i32 0, .int .i32 0] := by kernel_rfl
@[go_sem] theorem zeroA_130 : zeroA Tryd.prog 130 = some [.int .u32 0, .int .u32 0, .int .i32 0, .int .i32 0, .int .i32 0] := by kernel_rfl
@[go_sem] theorem zeroA_131 : zeroA Tryd.prog 131 = some [.int .u32 0, .int .u32 0, .int .i32 0, .int .i32 0, .int .i32 0] := by kernel_rfl
@[go_sem] theorem zeroA_132 : zeroA Tryd.prog 132 = some [.sc (.pointer none), .sc (.pointer none), .sc (.pointer none), .str []] := by kernel_rfl
@[go_sem] theorem zeroA_133 : zeroA Tryd.prog 133 = some [.sc (.pointer none), .sc (.pointer none), .sc (.pointer none), .str []] := by kernel_rfl
@[go_sem] theorem zeroA_134 : zeroA Tryd.prog 134 = some [] := by kernel_rfl
@[go_sem] theorem zeroA_135 : zeroA Tryd.prog 135 = some [] := by kernel_rfl
@[go_sem] theorem zeroA_136 : zeroA Tryd.prog 136 = some [] := by kernel_rfl
@[go_sem] theorem zeroA_137 : zeroA Tryd.prog 137 = some [.int .u8 0] := by kernel_rfl
@[go_sem] theorem zeroA_138 : zeroA Tryd.prog 138 = some [.int .u8 0] := by kernel_rfl
@[go_sem] theorem zeroA_139 : zeroA Tryd.prog 139 = some [.sc .nilFunc] := by kernel_rfl
@[go_sem] theorem zeroA_140 : zeroA Tryd.prog 140 = some [.int .i32 0] := by kernel_rfl
@[go_sem] theorem zeroA_141 : zeroA Tryd.prog 141 = some [.int .i32 0] := by kernel_rfl
@[go_sem] theorem zeroA_142 : zeroA Tryd.prog 142 = some [.int .u64 0, .int .u64 0, .int .u32 0, .int .u8 0, .int .u8 0, .int .u8 0, .int .u8 0, .sc .nilFunc, .sc (.pointer none), .int .i32 0, .int .i32 0] := by kernel_rfl
@[go_sem] theorem zeroA_143 : zeroA Tryd.prog 143 = some [.int .u64 0, .int .u64 0, .int .u32 0, .int .u8 0, .int .u8 0, .int .u8 0, .int .u8 0, .sc .nilFunc, .sc (.pointer none), .int .i32 0, .int .i32 0] := by kernel_rfl
@[go_sem] theorem tyS_22 : tyS Tryd.prog 22 = some (25, 2, 32) := by kernel_rfl
@[go_sem] theorem tyS_39 : tyS Tryd.prog 39 = some (2, 1, 8) := by kernel_rfl
@[go_sem] theorem tyS_44 : tyS Tryd.prog 44 = some (9, 1, 16) := by kernel_rfl
@[go_sem] theorem tyS_59 : tyS Tryd.prog 59 = some (5, 1, 1) := by kernel_rfl
@[go_sem] theorem tyS_120 : tyS Tryd.prog 120 = some (131, 5, 20) := by kernel_rfl
@[go_sem] theorem ptrT_15 : ptrT Tryd.prog 15 = true := by kernel_rfl
@[go_sem] theorem ptrE_15 : ptrE Tryd.prog 15 = some 133 := by kernel_rfl
@[go_sem] theorem ptrT_16 : ptrT Tryd.prog 16 = true := by kernel_rfl
@[go_sem] theorem ptrE_16 : ptrE Tryd.prog 16 = some 136 := by kernel_rfl
@[go_sem] theorem ptrT_17 : ptrT Tryd.prog 17 = true := by kernel_rfl
@[go_sem] theorem ptrE_17 : ptrE Tryd.prog 17 = some 143 := by kernel_rfl
@[go_sem] theorem ptrT_70 : ptrT Tryd.prog 70 = true := by kernel_rfl
@[go_sem] theorem ptrE_70 : ptrE Tryd.prog 70 = some 72 := by kernel_rfl
@[go_sem] theorem unsTo_70_108 : unsOK Tryd.prog 70 108 72 2 0 = true := by kernel_rfl
@[go_sem] theorem unsFrom_70_108 : unsOK Tryd.prog 108 70 72 2 0 = true := by kernel_rfl
@[go_sem] theorem ptrT_94 : ptrT Tryd.prog 94 = true := by kernel_rfl
@[go_sem] theorem ptrE_94 : ptrE Tryd.prog 94 = some 90 := by kernel_rfl
@[go_sem] theorem ptrT_95 : ptrT Tryd.prog 95 = true := by kernel_rfl
@[go_sem] theorem ptrE_95 : ptrE Tryd.prog 95 = some 5 := by kernel_rfl
@[go_sem] theorem ptrT_125 : ptrT Tryd.prog 125 = true := by kernel_rfl
@[go_sem] theorem ptrE_125 : ptrE Tryd.prog 125 = some 131 := by kernel_rfl
theorem follows_mixed : Tryd.prog.follows .mixedOrders = true := by kernel_rfl
end Go.Proofs.YtcikflhenbpdiaaDoor
