import Derived.Test.YtbhomjhhinfojaaDoorProg
import Derived.Test.YtbhomjhhinfojaaDoorAL5
namespace Go.Proofs.AL.T
open Go Go.RowKit Go.Proofs Go.Proofs.Tryd
@[simp] theorem szOf_0 : szOf prog 0 = some (1) := by kernel_rfl
@[simp] theorem elT_0 : elT prog 0 = none := by kernel_rfl
@[simp] theorem aggT_0 : aggT prog 0 = some (false) := by kernel_rfl
@[simp] theorem intT_0 : intT prog 0 = none := by kernel_rfl
@[simp] theorem strT_0 : strT prog 0 = false := by kernel_rfl
@[simp] theorem boolT_0 : boolT prog 0 = false := by kernel_rfl
@[simp] theorem isStruct_0 : isStruct prog 0 = false := by kernel_rfl
@[simp] theorem infoT_0 : infoT prog 0 = some ((1, 0)) := by kernel_rfl
@[simp] theorem zeroT_0 : zeroT prog 0 = none := by kernel_rfl
@[simp] theorem flatT_0 : flatT prog 0 = none := by kernel_rfl
@[simp] theorem kdT_0 : kdT prog 0 = none := by kernel_rfl
@[simp] theorem mapT_0 : mapT prog 0 = none := by kernel_rfl
@[simp] theorem bt_0 : bt prog 0 = none := by kernel_rfl
@[simp] theorem elU8_0 : elU8 prog 0 = false := by kernel_rfl
@[simp] theorem arT_0 : arT prog 0 = none := by kernel_rfl
@[simp] theorem concT_0 : concT prog 0 = true := by kernel_rfl
@[simp] theorem selfT_0 : selfT prog 0 = false := by kernel_rfl
@[simp] theorem szOf_1 : szOf prog 1 = some (1) := by kernel_rfl
@[simp] theorem elT_1 : elT prog 1 = none := by kernel_rfl
@[simp] theorem aggT_1 : aggT prog 1 = some (false) := by kernel_rfl
@[simp] theorem intT_1 : intT prog 1 = none := by kernel_rfl
@[simp] theorem strT_1 : strT prog 1 = false := by kernel_rfl
@[simp] theorem boolT_1 : boolT prog 1 = false := by kernel_rfl
@[simp] theorem isStruct_1 : isStruct prog 1 = false := by kernel_rfl
@[simp] theorem infoT_1 : infoT prog 1 = some ((1, 8)) := by kernel_rfl
@[simp] theorem zeroT_1 : zeroT prog 1 = some (.nilf) := by kernel_rfl
@[simp] theorem flatT_1 : flatT prog 1 = none := by kernel_rfl
@[simp] theorem kdT_1 : kdT prog 1 = some (.fn) := by kernel_rfl
@[simp] theorem mapT_1 : mapT prog 1 = none := by kernel_rfl
@[simp] theorem bt_1 : bt prog 1 = none := by kernel_rfl
@[simp] theorem elU8_1 : elU8 prog 1 = false := by kernel_rfl
@[simp] theorem arT_1 : arT prog 1 = none := by kernel_rfl
@[simp] theorem concT_1 : concT prog 1 = true := by kernel_rfl
@[simp] theorem selfT_1 : selfT prog 1 = false := by kernel_rfl
@[simp] theorem szOf_2 : szOf prog 2 = some (1) := by kernel_rfl
@[simp] theorem elT_2 : elT prog 2 = none := by kernel_rfl
@[simp] theorem aggT_2 : aggT prog 2 = some (false) := by kernel_rfl
@[simp] theorem intT_2 : intT prog 2 = some (.i64) := by kernel_rfl
@[simp] theorem strT_2 : strT prog 2 = false := by kernel_rfl
@[simp] theorem boolT_2 : boolT prog 2 = false := by kernel_rfl
@[simp] theorem isStruct_2 : isStruct prog 2 = false := by kernel_rfl
@[simp] theorem infoT_2 : infoT prog 2 = some ((1, 8)) := by kernel_rfl
@[simp] theorem zeroT_2 : zeroT prog 2 = some (.int (.i64) (0)) := by kernel_rfl
@[simp] theorem flatT_2 : flatT prog 2 = none := by kernel_rfl
@[simp] theorem kdT_2 : kdT prog 2 = none := by kernel_rfl
@[simp] theorem mapT_2 : mapT prog 2 = none := by kernel_rfl
@[simp] theorem bt_2 : bt prog 2 = some (.int) := by kernel_rfl
@[simp] theorem elU8_2 : elU8 prog 2 = false := by kernel_rfl
@[simp] theorem arT_2 : arT prog 2 = none := by kernel_rfl
@[simp] theorem concT_2 : concT prog 2 = true := by kernel_rfl
@[simp] theorem selfT_2 : selfT prog 2 = false := by kernel_rfl
@[simp] theorem szOf_3 : szOf prog 3 = some (1) := by kernel_rfl
@[simp] theorem elT_3 : elT prog 3 = none := by kernel_rfl
@[simp] theorem aggT_3 : aggT prog 3 = some (false) := by kernel_rfl
@[simp] theorem intT_3 : intT prog 3 = some (.i64) := by kernel_rfl
@[simp] theorem strT_3 : strT prog 3 = false := by kernel_rfl
@[simp] theorem boolT_3 : boolT prog 3 = false := by kernel_rfl
@[simp] theorem isStruct_3 : isStruct prog 3 = false := by kernel_rfl
@[simp] theorem infoT_3 : infoT prog 3 = some ((1, 8)) := by kernel_rfl
@[simp] theorem zeroT_3 : zeroT prog 3 = some (.int (.i64) (0)) := by kernel_rfl
@[simp] theorem flatT_3 : flatT prog 3 = none := by kernel_rfl
@[simp] theorem kdT_3 : kdT prog 3 = none := by kernel_rfl
@[simp] theorem mapT_3 : mapT prog 3 = none := by kernel_rfl
@[simp] theorem bt_3 : bt prog 3 = some (.int) := by kernel_rfl
@[simp] theorem elU8_3 : elU8 prog 3 = false := by kernel_rfl
@[simp] theorem arT_3 : arT prog 3 = none := by kernel_rfl
@[simp] theorem concT_3 : concT prog 3 = true := by kernel_rfl
@[simp] theorem selfT_3 : selfT prog 3 = false := by kernel_rfl
@[simp] theorem szOf_4 : szOf prog 4 = some (1) := by kernel_rfl
@[simp] theorem elT_4 : elT prog 4 = none := by kernel_rfl
@[simp] theorem aggT_4 : aggT prog 4 = some (false) := by kernel_rfl
@[simp] theorem intT_4 : intT prog 4 = none := by kernel_rfl
@[simp] theorem strT_4 : strT prog 4 = false := by kernel_rfl
@[simp] theorem boolT_4 : boolT prog 4 = true := by kernel_rfl
@[simp] theorem isStruct_4 : isStruct prog 4 = false := by kernel_rfl
@[simp] theorem infoT_4 : infoT prog 4 = some ((1, 1)) := by kernel_rfl
@[simp] theorem zeroT_4 : zeroT prog 4 = some (.bool (false)) := by kernel_rfl
@[simp] theorem flatT_4 : flatT prog 4 = none := by kernel_rfl
@[simp] theorem kdT_4 : kdT prog 4 = none := by kernel_rfl
@[simp] theorem mapT_4 : mapT prog 4 = none := by kernel_rfl
@[simp] theorem bt_4 : bt prog 4 = some (.bool) := by kernel_rfl
@[simp] theorem elU8_4 : elU8 prog 4 = false := by kernel_rfl
@[simp] theorem arT_4 : arT prog 4 = none := by kernel_rfl
@[simp] theorem concT_4 : concT prog 4 = true := by kernel_rfl
@[simp] theorem selfT_4 : selfT prog 4 = false := by kernel_rfl
@[simp] theorem szOf_5 : szOf prog 5 = some (1) := by kernel_rfl
@[simp] theorem elT_5 : elT prog 5 = none := by kernel_rfl
@[simp] theorem aggT_5 : aggT prog 5 = some (false) := by kernel_rfl
@[simp] theorem intT_5 : intT prog 5 = some (.u8) := by kernel_rfl
@[simp] theorem strT_5 : strT prog 5 = false := by kernel_rfl
@[simp] theorem boolT_5 : boolT prog 5 = false := by kernel_rfl
@[simp] theorem isStruct_5 : isStruct prog 5 = false := by kernel_rfl
@[simp] theorem infoT_5 : infoT prog 5 = some ((1, 1)) := by kernel_rfl
@[simp] theorem zeroT_5 : zeroT prog 5 = some (.int (.u8) (0)) := by kernel_rfl
@[simp] theorem flatT_5 : flatT prog 5 = none := by kernel_rfl
@[simp] theorem kdT_5 : kdT prog 5 = none := by kernel_rfl
@[simp] theorem mapT_5 : mapT prog 5 = none := by kernel_rfl
@[simp] theorem bt_5 : bt prog 5 = some (.int) := by kernel_rfl
@[simp] theorem elU8_5 : elU8 prog 5 = false := by kernel_rfl
@[simp] theorem arT_5 : arT prog 5 = none := by kernel_rfl
@[simp] theorem concT_5 : concT prog 5 = true := by kernel_rfl
@[simp] theorem selfT_5 : selfT prog 5 = false := by kernel_rfl
@[simp] theorem szOf_6 : szOf prog 6 = some (1) := by kernel_rfl
@[simp] theorem elT_6 : elT prog 6 = none := by kernel_rfl
@[simp] theorem aggT_6 : aggT prog 6 = some (false) := by kernel_rfl
@[simp] theorem intT_6 : intT prog 6 = some (.u8) := by kernel_rfl
@[simp] theorem strT_6 : strT prog 6 = false := by kernel_rfl
@[simp] theorem boolT_6 : boolT prog 6 = false := by kernel_rfl
@[simp] theorem isStruct_6 : isStruct prog 6 = false := by kernel_rfl
@[simp] theorem infoT_6 : infoT prog 6 = some ((1, 1)) := by kernel_rfl
@[simp] theorem zeroT_6 : zeroT prog 6 = some (.int (.u8) (0)) := by kernel_rfl
@[simp] theorem flatT_6 : flatT prog 6 = none := by kernel_rfl
@[simp] theorem kdT_6 : kdT prog 6 = none := by kernel_rfl
@[simp] theorem mapT_6 : mapT prog 6 = none := by kernel_rfl
@[simp] theorem bt_6 : bt prog 6 = some (.int) := by kernel_rfl
@[simp] theorem elU8_6 : elU8 prog 6 = false := by kernel_rfl
@[simp] theorem arT_6 : arT prog 6 = none := by kernel_rfl
@[simp] theorem concT_6 : concT prog 6 = true := by kernel_rfl
@[simp] theorem selfT_6 : selfT prog 6 = false := by kernel_rfl
@[simp] theorem szOf_7 : szOf prog 7 = some (4) := by kernel_rfl
@[simp] theorem elT_7 : elT prog 7 = none := by kernel_rfl
@[simp] theorem aggT_7 : aggT prog 7 = some (true) := by kernel_rfl
@[simp] theorem intT_7 : intT prog 7 = none := by kernel_rfl
@[simp] theorem strT_7 : strT prog 7 = false := by kernel_rfl
@[simp] theorem boolT_7 : boolT prog 7 = false := by kernel_rfl
@[simp] theorem isStruct_7 : isStruct prog 7 = true := by kernel_rfl
@[simp] theorem infoT_7 : infoT prog 7 = some ((4, 24)) := by kernel_rfl
@[simp] theorem zeroT_7 : zeroT prog 7 = some (.agg ([.int (.i64) (0), .int (.i64) (0), .bool (false), .int (.u8) (0)])) := by kernel_rfl
@[simp] theorem flatT_7 : flatT prog 7 = some ([.int, .int, .bool, .int]) := by kernel_rfl
@[simp] theorem kdT_7 : kdT prog 7 = none := by kernel_rfl
@[simp] theorem mapT_7 : mapT prog 7 = none := by kernel_rfl
@[simp] theorem bt_7 : bt prog 7 = none := by kernel_rfl
@[simp] theorem elU8_7 : elU8 prog 7 = false := by kernel_rfl
@[simp] theorem arT_7 : arT prog 7 = none := by kernel_rfl
@[simp] theorem concT_7 : concT prog 7 = true := by kernel_rfl
@[simp] theorem selfT_7 : selfT prog 7 = false := by kernel_rfl
@[simp] theorem fldT_7_0 : fldT prog 7 0 = some ((0, 2)) := by kernel_rfl
@[simp] theorem fldPl_7_0 : fldPl prog 7 0 = some ((0, 1)) := by kernel_rfl
@[simp] theorem fldT_7_1 : fldT prog 7 1 = some ((1, 3)) := by kernel_rfl
@[simp] theorem fldPl_7_1 : fldPl prog 7 1 = some ((1, 1)) := by kernel_rfl
@[simp] theorem fldT_7_2 : fldT prog 7 2 = some ((2, 4)) := by kernel_rfl
@[simp] theorem fldPl_7_2 : fldPl prog 7 2 = some ((2, 1)) := by kernel_rfl
@[simp] theorem fldT_7_3 : fldT prog 7 3 = some ((3, 6)) := by kernel_rfl
@[simp] theorem fldPl_7_3 : fldPl prog 7 3 = some ((3, 1)) := by kernel_rfl
@[simp] theorem szOf_8 : szOf prog 8 = some (4) := by kernel_rfl
@[simp] theorem elT_8 : elT prog 8 = none := by kernel_rfl
@[simp] theorem aggT_8 : aggT prog 8 = some (true) := by kernel_rfl
@[simp] theorem intT_8 : intT prog 8 = none := by kernel_rfl
@[simp] theorem strT_8 : strT prog 8 = false := by kernel_rfl
@[simp] theorem boolT_8 : boolT prog 8 = false := by kernel_rfl
@[simp] theorem isStruct_8 : isStruct prog 8 = true := by kernel_rfl
@[simp] theorem infoT_8 : infoT prog 8 = some ((4, 24)) := by kernel_rfl
@[simp] theorem zeroT_8 : zeroT prog 8 = some (.agg ([.int (.i64) (0), .int (.i64) (0), .bool (false), .int (.u8) (0)])) := by kernel_rfl
@[simp] theorem flatT_8 : flatT prog 8 = some ([.int, .int, .bool, .int]) := by kernel_rfl
@[simp] theorem kdT_8 : kdT prog 8 = none := by kernel_rfl
@[simp] theorem mapT_8 : mapT prog 8 = none := by kernel_rfl
@[simp] theorem bt_8 : bt prog 8 = none := by kernel_rfl
@[simp] theorem elU8_8 : elU8 prog 8 = false := by kernel_rfl
@[simp] theorem arT_8 : arT prog 8 = none := by kernel_rfl
@[simp] theorem concT_8 : concT prog 8 = true := by kernel_rfl
@[simp] theorem selfT_8 : selfT prog 8 = false := by kernel_rfl
@[simp] theorem fldT_8_0 : fldT prog 8 0 = some ((0, 2)) := by kernel_rfl
@[simp] theorem fldPl_8_0 : fldPl prog 8 0 = some ((0, 1)) := by kernel_rfl
@[simp] theorem fldT_8_1 : fldT prog 8 1 = some ((1, 3)) := by kernel_rfl
@[simp] theorem fldPl_8_1 : fldPl prog 8 1 = some ((1, 1)) := by kernel_rfl
@[simp] theorem fldT_8_2 : fldT prog 8 2 = some ((2, 4)) := by kernel_rfl
@[simp] theorem fldPl_8_2 : fldPl prog 8 2 = some ((2, 1)) := by kernel_rfl
@[simp] theorem fldT_8_3 : fldT prog 8 3 = some ((3, 6)) := by kernel_rfl
@[simp] theorem fldPl_8_3 : fldPl prog 8 3 = some ((3, 1)) := by kernel_rfl
@[simp] theorem szOf_9 : szOf prog 9 = some (1) := by kernel_rfl
@[simp] theorem elT_9 : elT prog 9 = none := by kernel_rfl
@[simp] theorem aggT_9 : aggT prog 9 = some (false) := by kernel_rfl
@[simp] theorem intT_9 : intT prog 9 = none := by kernel_rfl
@[simp] theorem strT_9 : strT prog 9 = true := by kernel_rfl
@[simp] theorem boolT_9 : boolT prog 9 = false := by kernel_rfl
@[simp] theorem isStruct_9 : isStruct prog 9 = false := by kernel_rfl
@[simp] theorem infoT_9 : infoT prog 9 = some ((1, 16)) := by kernel_rfl
@[simp] theorem zeroT_9 : zeroT prog 9 = some (.str (ByteArray.empty)) := by kernel_rfl
@[simp] theorem flatT_9 : flatT prog 9 = none := by kernel_rfl
@[simp] theorem kdT_9 : kdT prog 9 = none := by kernel_rfl
@[simp] theorem mapT_9 : mapT prog 9 = none := by kernel_rfl
@[simp] theorem bt_9 : bt prog 9 = some (.str) := by kernel_rfl
@[simp] theorem elU8_9 : elU8 prog 9 = false := by kernel_rfl
@[simp] theorem arT_9 : arT prog 9 = none := by kernel_rfl
@[simp] theorem concT_9 : concT prog 9 = true := by kernel_rfl
@[simp] theorem selfT_9 : selfT prog 9 = false := by kernel_rfl
@[simp] theorem szOf_10 : szOf prog 10 = some (1) := by kernel_rfl
@[simp] theorem elT_10 : elT prog 10 = none := by kernel_rfl
@[simp] theorem aggT_10 : aggT prog 10 = some (false) := by kernel_rfl
@[simp] theorem intT_10 : intT prog 10 = none := by kernel_rfl
@[simp] theorem strT_10 : strT prog 10 = true := by kernel_rfl
@[simp] theorem boolT_10 : boolT prog 10 = false := by kernel_rfl
@[simp] theorem isStruct_10 : isStruct prog 10 = false := by kernel_rfl
@[simp] theorem infoT_10 : infoT prog 10 = some ((1, 16)) := by kernel_rfl
@[simp] theorem zeroT_10 : zeroT prog 10 = some (.str (ByteArray.empty)) := by kernel_rfl
@[simp] theorem flatT_10 : flatT prog 10 = none := by kernel_rfl
@[simp] theorem kdT_10 : kdT prog 10 = none := by kernel_rfl
@[simp] theorem mapT_10 : mapT prog 10 = none := by kernel_rfl
@[simp] theorem bt_10 : bt prog 10 = some (.str) := by kernel_rfl
@[simp] theorem elU8_10 : elU8 prog 10 = false := by kernel_rfl
@[simp] theorem arT_10 : arT prog 10 = none := by kernel_rfl
@[simp] theorem concT_10 : concT prog 10 = true := by kernel_rfl
@[simp] theorem selfT_10 : selfT prog 10 = false := by kernel_rfl
@[simp] theorem szOf_11 : szOf prog 11 = some (1) := by kernel_rfl
@[simp] theorem elT_11 : elT prog 11 = none := by kernel_rfl
@[simp] theorem aggT_11 : aggT prog 11 = some (false) := by kernel_rfl
@[simp] theorem intT_11 : intT prog 11 = none := by kernel_rfl
@[simp] theorem strT_11 : strT prog 11 = true := by kernel_rfl
@[simp] theorem boolT_11 : boolT prog 11 = false := by kernel_rfl
@[simp] theorem isStruct_11 : isStruct prog 11 = false := by kernel_rfl
@[simp] theorem infoT_11 : infoT prog 11 = some ((1, 16)) := by kernel_rfl
@[simp] theorem zeroT_11 : zeroT prog 11 = some (.str (ByteArray.empty)) := by kernel_rfl
@[simp] theorem flatT_11 : flatT prog 11 = none := by kernel_rfl
@[simp] theorem kdT_11 : kdT prog 11 = none := by kernel_rfl
@[simp] theorem mapT_11 : mapT prog 11 = none := by kernel_rfl
@[simp] theorem bt_11 : bt prog 11 = some (.str) := by kernel_rfl
@[simp] theorem elU8_11 : elU8 prog 11 = false := by kernel_rfl
@[simp] theorem arT_11 : arT prog 11 = none := by kernel_rfl
@[simp] theorem concT_11 : concT prog 11 = true := by kernel_rfl
@[simp] theorem selfT_11 : selfT prog 11 = false := by kernel_rfl
@[simp] theorem szOf_12 : szOf prog 12 = some (1) := by kernel_rfl
@[simp] theorem elT_12 : elT prog 12 = none := by kernel_rfl
@[simp] theorem aggT_12 : aggT prog 12 = some (false) := by kernel_rfl
@[simp] theorem intT_12 : intT prog 12 = some (.u64) := by kernel_rfl
@[simp] theorem strT_12 : strT prog 12 = false := by kernel_rfl
@[simp] theorem boolT_12 : boolT prog 12 = false := by kernel_rfl
@[simp] theorem isStruct_12 : isStruct prog 12 = false := by kernel_rfl
@[simp] theorem infoT_12 : infoT prog 12 = some ((1, 8)) := by kernel_rfl
@[simp] theorem zeroT_12 : zeroT prog 12 = some (.int (.u64) (0)) := by kernel_rfl
@[simp] theorem flatT_12 : flatT prog 12 = none := by kernel_rfl
@[simp] theorem kdT_12 : kdT prog 12 = none := by kernel_rfl
@[simp] theorem mapT_12 : mapT prog 12 = none := by kernel_rfl
@[simp] theorem bt_12 : bt prog 12 = some (.int) := by kernel_rfl
@[simp] theorem elU8_12 : elU8 prog 12 = false := by kernel_rfl
@[simp] theorem arT_12 : arT prog 12 = none := by kernel_rfl
@[simp] theorem concT_12 : concT prog 12 = true := by kernel_rfl
@[simp] theorem selfT_12 : selfT prog 12 = false := by kernel_rfl
@[simp] theorem szOf_13 : szOf prog 13 = some (2) := by kernel_rfl
@[simp] theorem elT_13 : elT prog 13 = none := by kernel_rfl
@[simp] theorem aggT_13 : aggT prog 13 = some (true) := by kernel_rfl
@[simp] theorem intT_13 : intT prog 13 = none := by kernel_rfl
@[simp] theorem strT_13 : strT prog 13 = false := by kernel_rfl
@[simp] theorem boolT_13 : boolT prog 13 = false := by kernel_rfl
@[simp] theorem isStruct_13 : isStruct prog 13 = true := by kernel_rfl
@[simp] theorem infoT_13 : infoT prog 13 = some ((2, 24)) := by kernel_rfl
@[simp] theorem zeroT_13 : zeroT prog 13 = some (.agg ([.str (ByteArray.empty), .int (.u64) (0)])) := by kernel_rfl
@[simp] theorem flatT_13 : flatT prog 13 = none := by kernel_rfl
@[simp] theorem kdT_13 : kdT prog 13 = none := by kernel_rfl
@[simp] theorem mapT_13 : mapT prog 13 = none := by kernel_rfl
@[simp] theorem bt_13 : bt prog 13 = none := by kernel_rfl
@[simp] theorem elU8_13 : elU8 prog 13 = false := by kernel_rfl
@[simp] theorem arT_13 : arT prog 13 = none := by kernel_rfl
@[simp] theorem concT_13 : concT prog 13 = true := by kernel_rfl
@[simp] theorem selfT_13 : selfT prog 13 = false := by kernel_rfl
@[simp] theorem fldT_13_0 : fldT prog 13 0 = some ((0, 9)) := by kernel_rfl
@[simp] theorem fldPl_13_0 : fldPl prog 13 0 = some ((0, 1)) := by kernel_rfl
@[simp] theorem fldT_13_1 : fldT prog 13 1 = some ((1, 12)) := by kernel_rfl
@[simp] theorem fldPl_13_1 : fldPl prog 13 1 = some ((1, 1)) := by kernel_rfl
@[simp] theorem szOf_14 : szOf prog 14 = some (2) := by kernel_rfl
@[simp] theorem elT_14 : elT prog 14 = none := by kernel_rfl
@[simp] theorem aggT_14 : aggT prog 14 = some (true) := by kernel_rfl
@[simp] theorem intT_14 : intT prog 14 = none := by kernel_rfl
@[simp] theorem strT_14 : strT prog 14 = false := by kernel_rfl
@[simp] theorem boolT_14 : boolT prog 14 = false := by kernel_rfl
@[simp] theorem isStruct_14 : isStruct prog 14 = true := by kernel_rfl
@[simp] theorem infoT_14 : infoT prog 14 = some ((2, 24)) := by kernel_rfl
@[simp] theorem zeroT_14 : zeroT prog 14 = some (.agg ([.str (ByteArray.empty), .int (.u64) (0)])) := by kernel_rfl
@[simp] theorem flatT_14 : flatT prog 14 = none := by kernel_rfl
@[simp] theorem kdT_14 : kdT prog 14 = none := by kernel_rfl
@[simp] theorem mapT_14 : mapT prog 14 = none := by kernel_rfl
@[simp] theorem bt_14 : bt prog 14 = none := by kernel_rfl
@[simp] theorem elU8_14 : elU8 prog 14 = false := by kernel_rfl
@[simp] theorem arT_14 : arT prog 14 = none := by kernel_rfl
@[simp] theorem concT_14 : concT prog 14 = true := by kernel_rfl
@[simp] theorem selfT_14 : selfT prog 14 = false := by kernel_rfl
@[simp] theorem fldT_14_0 : fldT prog 14 0 = some ((0, 9)) := by kernel_rfl
@[simp] theorem fldPl_14_0 : fldPl prog 14 0 = some ((0, 1)) := by kernel_rfl
@[simp] theorem fldT_14_1 : fldT prog 14 1 = some ((1, 12)) := by kernel_rfl
@[simp] theorem fldPl_14_1 : fldPl prog 14 1 = some ((1, 1)) := by kernel_rfl
@[simp] theorem szOf_15 : szOf prog 15 = some (1) := by kernel_rfl
@[simp] theorem elT_15 : elT prog 15 = none := by kernel_rfl
@[simp] theorem aggT_15 : aggT prog 15 = some (false) := by kernel_rfl
@[simp] theorem intT_15 : intT prog 15 = none := by kernel_rfl
@[simp] theorem strT_15 : strT prog 15 = false := by kernel_rfl
@[simp] theorem boolT_15 : boolT prog 15 = false := by kernel_rfl
@[simp] theorem isStruct_15 : isStruct prog 15 = false := by kernel_rfl
@[simp] theorem infoT_15 : infoT prog 15 = some ((1, 8)) := by kernel_rfl
@[simp] theorem zeroT_15 : zeroT prog 15 = some (.nilp) := by kernel_rfl
@[simp] theorem flatT_15 : flatT prog 15 = none := by kernel_rfl
@[simp] theorem kdT_15 : kdT prog 15 = some (.ptr) := by kernel_rfl
@[simp] theorem mapT_15 : mapT prog 15 = none := by kernel_rfl
@[simp] theorem bt_15 : bt prog 15 = none := by kernel_rfl
@[simp] theorem elU8_15 : elU8 prog 15 = false := by kernel_rfl
@[simp] theorem arT_15 : arT prog 15 = none := by kernel_rfl
@[simp] theorem concT_15 : concT prog 15 = true := by kernel_rfl
@[simp] theorem selfT_15 : selfT prog 15 = false := by kernel_rfl
@[simp] theorem szOf_16 : szOf prog 16 = some (1) := by kernel_rfl
@[simp] theorem elT_16 : elT prog 16 = none := by kernel_rfl
@[simp] theorem aggT_16 : aggT prog 16 = some (false) := by kernel_rfl
@[simp] theorem intT_16 : intT prog 16 = none := by kernel_rfl
@[simp] theorem strT_16 : strT prog 16 = false := by kernel_rfl
@[simp] theorem boolT_16 : boolT prog 16 = false := by kernel_rfl
@[simp] theorem isStruct_16 : isStruct prog 16 = false := by kernel_rfl
@[simp] theorem infoT_16 : infoT prog 16 = some ((1, 8)) := by kernel_rfl
@[simp] theorem zeroT_16 : zeroT prog 16 = some (.nilp) := by kernel_rfl
@[simp] theorem flatT_16 : flatT prog 16 = none := by kernel_rfl
@[simp] theorem kdT_16 : kdT prog 16 = some (.ptr) := by kernel_rfl
@[simp] theorem mapT_16 : mapT prog 16 = none := by kernel_rfl
@[simp] theorem bt_16 : bt prog 16 = none := by kernel_rfl
@[simp] theorem elU8_16 : elU8 prog 16 = false := by kernel_rfl
@[simp] theorem arT_16 : arT prog 16 = none := by kernel_rfl
@[simp] theorem concT_16 : concT prog 16 = true := by kernel_rfl
@[simp] theorem selfT_16 : selfT prog 16 = false := by kernel_rfl
@[simp] theorem szOf_17 : szOf prog 17 = some (1) := by kernel_rfl
@[simp] theorem elT_17 : elT prog 17 = none := by kernel_rfl
@[simp] theorem aggT_17 : aggT prog 17 = some (false) := by kernel_rfl
@[simp] theorem intT_17 : intT prog 17 = none := by kernel_rfl
@[simp] theorem strT_17 : strT prog 17 = false := by kernel_rfl
@[simp] theorem boolT_17 : boolT prog 17 = false := by kernel_rfl
@[simp] theorem isStruct_17 : isStruct prog 17 = false := by kernel_rfl
@[simp] theorem infoT_17 : infoT prog 17 = some ((1, 8)) := by kernel_rfl
@[simp] theorem zeroT_17 : zeroT prog 17 = some (.nilp) := by kernel_rfl
@[simp] theorem flatT_17 : flatT prog 17 = none := by kernel_rfl
@[simp] theorem kdT_17 : kdT prog 17 = some (.ptr) := by kernel_rfl
@[simp] theorem mapT_17 : mapT prog 17 = none := by kernel_rfl
@[simp] theorem bt_17 : bt prog 17 = none := by kernel_rfl
@[simp] theorem elU8_17 : elU8 prog 17 = false := by kernel_rfl
@[simp] theorem arT_17 : arT prog 17 = none := by kernel_rfl
@[simp] theorem concT_17 : concT prog 17 = true := by kernel_rfl
@[simp] theorem selfT_17 : selfT prog 17 = false := by kernel_rfl
@[simp] theorem szOf_18 : szOf prog 18 = some (1) := by kernel_rfl
@[simp] theorem elT_18 : elT prog 18 = none := by kernel_rfl
@[simp] theorem aggT_18 : aggT prog 18 = some (true) := by kernel_rfl
@[simp] theorem intT_18 : intT prog 18 = none := by kernel_rfl
@[simp] theorem strT_18 : strT prog 18 = false := by kernel_rfl
@[simp] theorem boolT_18 : boolT prog 18 = false := by kernel_rfl
@[simp] theorem isStruct_18 : isStruct prog 18 = true := by kernel_rfl
@[simp] theorem infoT_18 : infoT prog 18 = some ((1, 8)) := by kernel_rfl
@[simp] theorem zeroT_18 : zeroT prog 18 = some (.agg ([.nilp])) := by kernel_rfl
@[simp] theorem flatT_18 : flatT prog 18 = none := by kernel_rfl
@[simp] theorem kdT_18 : kdT prog 18 = none := by kernel_rfl
@[simp] theorem mapT_18 : mapT prog 18 = none := by kernel_rfl
@[simp] theorem bt_18 : bt prog 18 = none := by kernel_rfl
@[simp] theorem elU8_18 : elU8 prog 18 = false := by kernel_rfl
@[simp] theorem arT_18 : arT prog 18 = none := by kernel_rfl
@[simp] theorem concT_18 : concT prog 18 = true := by kernel_rfl
@[simp] theorem selfT_18 : selfT prog 18 = false := by kernel_rfl
@[simp] theorem fldT_18_0 : fldT prog 18 0 = some ((0, 17)) := by kernel_rfl
@[simp] theorem fldPl_18_0 : fldPl prog 18 0 = some ((0, 1)) := by kernel_rfl
@[simp] theorem szOf_19 : szOf prog 19 = some (1) := by kernel_rfl
@[simp] theorem elT_19 : elT prog 19 = none := by kernel_rfl
@[simp] theorem aggT_19 : aggT prog 19 = some (true) := by kernel_rfl
@[simp] theorem intT_19 : intT prog 19 = none := by kernel_rfl
@[simp] theorem strT_19 : strT prog 19 = false := by kernel_rfl
@[simp] theorem boolT_19 : boolT prog 19 = false := by kernel_rfl
@[simp] theorem isStruct_19 : isStruct prog 19 = true := by kernel_rfl
@[simp] theorem infoT_19 : infoT prog 19 = some ((1, 8)) := by kernel_rfl
@[simp] theorem zeroT_19 : zeroT prog 19 = some (.agg ([.nilp])) := by kernel_rfl
@[simp] theorem flatT_19 : flatT prog 19 = none := by kernel_rfl
@[simp] theorem kdT_19 : kdT prog 19 = none := by kernel_rfl
@[simp] theorem mapT_19 : mapT prog 19 = none := by kernel_rfl
@[simp] theorem bt_19 : bt prog 19 = none := by kernel_rfl
@[simp] theorem elU8_19 : elU8 prog 19 = false := by kernel_rfl
@[simp] theorem arT_19 : arT prog 19 = none := by kernel_rfl
@[simp] theorem concT_19 : concT prog 19 = true := by kernel_rfl
@[simp] theorem selfT_19 : selfT prog 19 = false := by kernel_rfl
@[simp] theorem fldT_19_0 : fldT prog 19 0 = some ((0, 17)) := by kernel_rfl
@[simp] theorem fldPl_19_0 : fldPl prog 19 0 = some ((0, 1)) := by kernel_rfl
@[simp] theorem szOf_20 : szOf prog 20 = some (1) := by kernel_rfl
@[simp] theorem elT_20 : elT prog 20 = none := by kernel_rfl
@[simp] theorem aggT_20 : aggT prog 20 = some (false) := by kernel_rfl
@[simp] theorem intT_20 : intT prog 20 = none := by kernel_rfl
@[simp] theorem strT_20 : strT prog 20 = false := by kernel_rfl
@[simp] theorem boolT_20 : boolT prog 20 = false := by kernel_rfl
@[simp] theorem isStruct_20 : isStruct prog 20 = false := by kernel_rfl
@[simp] theorem infoT_20 : infoT prog 20 = some ((1, 16)) := by kernel_rfl
@[simp] theorem zeroT_20 : zeroT prog 20 = some (.nili) := by kernel_rfl
@[simp] theorem flatT_20 : flatT prog 20 = none := by kernel_rfl
@[simp] theorem kdT_20 : kdT prog 20 = some (.ifc) := by kernel_rfl
@[simp] theorem mapT_20 : mapT prog 20 = none := by kernel_rfl
@[simp] theorem bt_20 : bt prog 20 = none := by kernel_rfl
@[simp] theorem elU8_20 : elU8 prog 20 = false := by kernel_rfl
@[simp] theorem arT_20 : arT prog 20 = none := by kernel_rfl
@[simp] theorem concT_20 : concT prog 20 = false := by kernel_rfl
@[simp] theorem selfT_20 : selfT prog 20 = false := by kernel_rfl
@[simp] theorem szOf_21 : szOf prog 21 = some (1) := by kernel_rfl
@[simp] theorem elT_21 : elT prog 21 = none := by kernel_rfl
@[simp] theorem aggT_21 : aggT prog 21 = some (false) := by kernel_rfl
@[simp] theorem intT_21 : intT prog 21 = some (.i32) := by kernel_rfl
@[simp] theorem strT_21 : strT prog 21 = false := by kernel_rfl
@[simp] theorem boolT_21 : boolT prog 21 = false := by kernel_rfl
@[simp] theorem isStruct_21 : isStruct prog 21 = false := by kernel_rfl
@[simp] theorem infoT_21 : infoT prog 21 = some ((1, 4)) := by kernel_rfl
@[simp] theorem zeroT_21 : zeroT prog 21 = some (.int (.i32) (0)) := by kernel_rfl
@[simp] theorem flatT_21 : flatT prog 21 = none := by kernel_rfl
@[simp] theorem kdT_21 : kdT prog 21 = none := by kernel_rfl
@[simp] theorem mapT_21 : mapT prog 21 = none := by kernel_rfl
@[simp] theorem bt_21 : bt prog 21 = some (.int) := by kernel_rfl
@[simp] theorem elU8_21 : elU8 prog 21 = false := by kernel_rfl
@[simp] theorem arT_21 : arT prog 21 = none := by kernel_rfl
@[simp] theorem concT_21 : concT prog 21 = true := by kernel_rfl
@[simp] theorem selfT_21 : selfT prog 21 = false := by kernel_rfl
@[simp] theorem szOf_22 : szOf prog 22 = some (2) := by kernel_rfl
@[simp] theorem elT_22 : elT prog 22 = none := by kernel_rfl
@[simp] theorem aggT_22 : aggT prog 22 = some (true) := by kernel_rfl
@[simp] theorem intT_22 : intT prog 22 = none := by kernel_rfl
@[simp] theorem strT_22 : strT prog 22 = false := by kernel_rfl
@[simp] theorem boolT_22 : boolT prog 22 = false := by kernel_rfl
@[simp] theorem isStruct_22 : isStruct prog 22 = true := by kernel_rfl
@[simp] theorem infoT_22 : infoT prog 22 = some ((2, 24)) := by kernel_rfl
@[simp] theorem zeroT_22 : zeroT prog 22 = some (.agg ([.int (.i64) (0), .str (ByteArray.empty)])) := by kernel_rfl
@[simp] theorem flatT_22 : flatT prog 22 = some ([.int, .str]) := by kernel_rfl
@[simp] theorem kdT_22 : kdT prog 22 = none := by kernel_rfl
@[simp] theorem mapT_22 : mapT prog 22 = none := by kernel_rfl
@[simp] theorem bt_22 : bt prog 22 = none := by kernel_rfl
@[simp] theorem elU8_22 : elU8 prog 22 = false := by kernel_rfl
@[simp] theorem arT_22 : arT prog 22 = none := by kernel_rfl
@[simp] theorem concT_22 : concT prog 22 = true := by kernel_rfl
@[simp] theorem selfT_22 : selfT prog 22 = false := by kernel_rfl
@[simp] theorem fldT_22_0 : fldT prog 22 0 = some ((0, 3)) := by kernel_rfl
@[simp] theorem fldPl_22_0 : fldPl prog 22 0 = some ((0, 1)) := by kernel_rfl
@[simp] theorem fldT_22_1 : fldT prog 22 1 = some ((1, 9)) := by kernel_rfl
@[simp] theorem fldPl_22_1 : fldPl prog 22 1 = some ((1, 1)) := by kernel_rfl
@[simp] theorem szOf_23 : szOf prog 23 = some (2) := by kernel_rfl
@[simp] theorem elT_23 : elT prog 23 = none := by kernel_rfl
@[simp] theorem aggT_23 : aggT prog 23 = some (true) := by kernel_rfl
@[simp] theorem intT_23 : intT prog 23 = none := by kernel_rfl
@[simp] theorem strT_23 : strT prog 23 = false := by kernel_rfl
@[simp] theorem boolT_23 : boolT prog 23 = false := by kernel_rfl
@[simp] theorem isStruct_23 : isStruct prog 23 = true := by kernel_rfl
@[simp] theorem infoT_23 : infoT prog 23 = some ((2, 24)) := by kernel_rfl
@[simp] theorem zeroT_23 : zeroT prog 23 = some (.agg ([.int (.i64) (0), .str (ByteArray.empty)])) := by kernel_rfl
@[simp] theorem flatT_23 : flatT prog 23 = some ([.int, .str]) := by kernel_rfl
@[simp] theorem kdT_23 : kdT prog 23 = none := by kernel_rfl
@[simp] theorem mapT_23 : mapT prog 23 = none := by kernel_rfl
@[simp] theorem bt_23 : bt prog 23 = none := by kernel_rfl
@[simp] theorem elU8_23 : elU8 prog 23 = false := by kernel_rfl
@[simp] theorem arT_23 : arT prog 23 = none := by kernel_rfl
@[simp] theorem concT_23 : concT prog 23 = true := by kernel_rfl
@[simp] theorem selfT_23 : selfT prog 23 = false := by kernel_rfl
@[simp] theorem fldT_23_0 : fldT prog 23 0 = some ((0, 3)) := by kernel_rfl
@[simp] theorem fldPl_23_0 : fldPl prog 23 0 = some ((0, 1)) := by kernel_rfl
@[simp] theorem fldT_23_1 : fldT prog 23 1 = some ((1, 9)) := by kernel_rfl
@[simp] theorem fldPl_23_1 : fldPl prog 23 1 = some ((1, 1)) := by kernel_rfl
@[simp] theorem szOf_24 : szOf prog 24 = some (1) := by kernel_rfl
@[simp] theorem elT_24 : elT prog 24 = none := by kernel_rfl
@[simp] theorem aggT_24 : aggT prog 24 = some (false) := by kernel_rfl
@[simp] theorem intT_24 : intT prog 24 = none := by kernel_rfl
@[simp] theorem strT_24 : strT prog 24 = false := by kernel_rfl
@[simp] theorem boolT_24 : boolT prog 24 = false := by kernel_rfl
@[simp] theorem isStruct_24 : isStruct prog 24 = false := by kernel_rfl
@[simp] theorem infoT_24 : infoT prog 24 = some ((1, 8)) := by kernel_rfl
@[simp] theorem zeroT_24 : zeroT prog 24 = some (.nilf) := by kernel_rfl
@[simp] theorem flatT_24 : flatT prog 24 = none := by kernel_rfl
@[simp] theorem kdT_24 : kdT prog 24 = some (.fn) := by kernel_rfl
@[simp] theorem mapT_24 : mapT prog 24 = none := by kernel_rfl
@[simp] theorem bt_24 : bt prog 24 = none := by kernel_rfl
@[simp] theorem elU8_24 : elU8 prog 24 = false := by kernel_rfl
@[simp] theorem arT_24 : arT prog 24 = none := by kernel_rfl
@[simp] theorem concT_24 : concT prog 24 = true := by kernel_rfl
@[simp] theorem selfT_24 : selfT prog 24 = false := by kernel_rfl
@[simp] theorem szOf_25 : szOf prog 25 = some (1) := by kernel_rfl
@[simp] theorem elT_25 : elT prog 25 = none := by kernel_rfl
@[simp] theorem aggT_25 : aggT prog 25 = some (false) := by kernel_rfl
@[simp] theorem intT_25 : intT prog 25 = none := by kernel_rfl
@[simp] theorem strT_25 : strT prog 25 = false := by kernel_rfl
@[simp] theorem boolT_25 : boolT prog 25 = false := by kernel_rfl
@[simp] theorem isStruct_25 : isStruct prog 25 = false := by kernel_rfl
@[simp] theorem infoT_25 : infoT prog 25 = some ((1, 0)) := by kernel_rfl
@[simp] theorem zeroT_25 : zeroT prog 25 = none := by kernel_rfl
@[simp] theorem flatT_25 : flatT prog 25 = none := by kernel_rfl
@[simp] theorem kdT_25 : kdT prog 25 = none := by kernel_rfl
@[simp] theorem mapT_25 : mapT prog 25 = none := by kernel_rfl
@[simp] theorem bt_25 : bt prog 25 = none := by kernel_rfl
@[simp] theorem elU8_25 : elU8 prog 25 = false := by kernel_rfl
@[simp] theorem arT_25 : arT prog 25 = none := by kernel_rfl
@[simp] theorem concT_25 : concT prog 25 = true := by kernel_rfl
@[simp] theorem selfT_25 : selfT prog 25 = false := by kernel_rfl
@[simp] theorem szOf_26 : szOf prog 26 = some (1) := by kernel_rfl
@[simp] theorem elT_26 : elT prog 26 = none := by kernel_rfl
@[simp] theorem aggT_26 : aggT prog 26 = some (false) := by kernel_rfl
@[simp] theorem intT_26 : intT prog 26 = none := by kernel_rfl
@[simp] theorem strT_26 : strT prog 26 = false := by kernel_rfl
@[simp] theorem boolT_26 : boolT prog 26 = false := by kernel_rfl
@[simp] theorem isStruct_26 : isStruct prog 26 = false := by kernel_rfl
@[simp] theorem infoT_26 : infoT prog 26 = some ((1, 8)) := by kernel_rfl
@[simp] theorem zeroT_26 : zeroT prog 26 = some (.nilf) := by kernel_rfl
@[simp] theorem flatT_26 : flatT prog 26 = none := by kernel_rfl
@[simp] theorem kdT_26 : kdT prog 26 = some (.fn) := by kernel_rfl
@[simp] theorem mapT_26 : mapT prog 26 = none := by kernel_rfl
@[simp] theorem bt_26 : bt prog 26 = none := by kernel_rfl
@[simp] theorem elU8_26 : elU8 prog 26 = false := by kernel_rfl
@[simp] theorem arT_26 : arT prog 26 = none := by kernel_rfl
@[simp] theorem concT_26 : concT prog 26 = true := by kernel_rfl
@[simp] theorem selfT_26 : selfT prog 26 = false := by kernel_rfl
@[simp] theorem szOf_27 : szOf prog 27 = some (1) := by kernel_rfl
@[simp] theorem elT_27 : elT prog 27 = none := by kernel_rfl
@[simp] theorem aggT_27 : aggT prog 27 = some (false) := by kernel_rfl
@[simp] theorem intT_27 : intT prog 27 = none := by kernel_rfl
@[simp] theorem strT_27 : strT prog 27 = false := by kernel_rfl
@[simp] theorem boolT_27 : boolT prog 27 = false := by kernel_rfl
@[simp] theorem isStruct_27 : isStruct prog 27 = false := by kernel_rfl
@[simp] theorem infoT_27 : infoT prog 27 = some ((1, 8)) := by kernel_rfl
@[simp] theorem zeroT_27 : zeroT prog 27 = some (.nilf) := by kernel_rfl
@[simp] theorem flatT_27 : flatT prog 27 = none := by kernel_rfl
@[simp] theorem kdT_27 : kdT prog 27 = some (.fn) := by kernel_rfl
@[simp] theorem mapT_27 : mapT prog 27 = none := by kernel_rfl
@[simp] theorem bt_27 : bt prog 27 = none := by kernel_rfl
@[simp] theorem elU8_27 : elU8 prog 27 = false := by kernel_rfl
@[simp] theorem arT_27 : arT prog 27 = none := by kernel_rfl
@[simp] theorem concT_27 : concT prog 27 = true := by kernel_rfl
@[simp] theorem selfT_27 : selfT prog 27 = false := by kernel_rfl
@[simp] theorem szOf_28 : szOf prog 28 = some (1) := by kernel_rfl
@[simp] theorem elT_28 : elT prog 28 = none := by kernel_rfl
@[simp] theorem aggT_28 : aggT prog 28 = some (false) := by kernel_rfl
@[simp] theorem intT_28 : intT prog 28 = none := by kernel_rfl
@[simp] theorem strT_28 : strT prog 28 = false := by kernel_rfl
@[simp] theorem boolT_28 : boolT prog 28 = false := by kernel_rfl
@[simp] theorem isStruct_28 : isStruct prog 28 = false := by kernel_rfl
@[simp] theorem infoT_28 : infoT prog 28 = some ((1, 8)) := by kernel_rfl
@[simp] theorem zeroT_28 : zeroT prog 28 = some (.nilf) := by kernel_rfl
@[simp] theorem flatT_28 : flatT prog 28 = none := by kernel_rfl
@[simp] theorem kdT_28 : kdT prog 28 = some (.fn) := by kernel_rfl
@[simp] theorem mapT_28 : mapT prog 28 = none := by kernel_rfl
@[simp] theorem bt_28 : bt prog 28 = none := by kernel_rfl
@[simp] theorem elU8_28 : elU8 prog 28 = false := by kernel_rfl
@[simp] theorem arT_28 : arT prog 28 = none := by kernel_rfl
@[simp] theorem concT_28 : concT prog 28 = true := by kernel_rfl
@[simp] theorem selfT_28 : selfT prog 28 = false := by kernel_rfl
@[simp] theorem szOf_29 : szOf prog 29 = some (1) := by kernel_rfl
@[simp] theorem elT_29 : elT prog 29 = none := by kernel_rfl
@[simp] theorem aggT_29 : aggT prog 29 = some (false) := by kernel_rfl
@[simp] theorem intT_29 : intT prog 29 = none := by kernel_rfl
@[simp] theorem strT_29 : strT prog 29 = false := by kernel_rfl
@[simp] theorem boolT_29 : boolT prog 29 = false := by kernel_rfl
@[simp] theorem isStruct_29 : isStruct prog 29 = false := by kernel_rfl
@[simp] theorem infoT_29 : infoT prog 29 = some ((1, 8)) := by kernel_rfl
@[simp] theorem zeroT_29 : zeroT prog 29 = some (.nilf) := by kernel_rfl
@[simp] theorem flatT_29 : flatT prog 29 = none := by kernel_rfl
@[simp] theorem kdT_29 : kdT prog 29 = some (.fn) := by kernel_rfl
@[simp] theorem mapT_29 : mapT prog 29 = none := by kernel_rfl
@[simp] theorem bt_29 : bt prog 29 = none := by kernel_rfl
@[simp] theorem elU8_29 : elU8 prog 29 = false := by kernel_rfl
@[simp] theorem arT_29 : arT prog 29 = none := by kernel_rfl
@[simp] theorem concT_29 : concT prog 29 = true := by kernel_rfl
@[simp] theorem selfT_29 : selfT prog 29 = false := by kernel_rfl
@[simp] theorem szOf_30 : szOf prog 30 = some (1) := by kernel_rfl
@[simp] theorem elT_30 : elT prog 30 = some (33) := by kernel_rfl
@[simp] theorem aggT_30 : aggT prog 30 = some (false) := by kernel_rfl
@[simp] theorem intT_30 : intT prog 30 = none := by kernel_rfl
@[simp] theorem strT_30 : strT prog 30 = false := by kernel_rfl
@[simp] theorem boolT_30 : boolT prog 30 = false := by kernel_rfl
@[simp] theorem isStruct_30 : isStruct prog 30 = false := by kernel_rfl
@[simp] theorem infoT_30 : infoT prog 30 = some ((1, 24)) := by kernel_rfl
@[simp] theorem zeroT_30 : zeroT prog 30 = some (.sl (1) ([])) := by kernel_rfl
@[simp] theorem flatT_30 : flatT prog 30 = none := by kernel_rfl
@[simp] theorem kdT_30 : kdT prog 30 = some (.sl) := by kernel_rfl
@[simp] theorem mapT_30 : mapT prog 30 = none := by kernel_rfl
@[simp] theorem bt_30 : bt prog 30 = none := by kernel_rfl
@[simp] theorem elU8_30 : elU8 prog 30 = false := by kernel_rfl
@[simp] theorem arT_30 : arT prog 30 = none := by kernel_rfl
@[simp] theorem concT_30 : concT prog 30 = true := by kernel_rfl
@[simp] theorem selfT_30 : selfT prog 30 = false := by kernel_rfl
@[simp] theorem szOf_31 : szOf prog 31 = some (1) := by kernel_rfl
@[simp] theorem elT_31 : elT prog 31 = some (23) := by kernel_rfl
@[simp] theorem aggT_31 : aggT prog 31 = some (false) := by kernel_rfl
@[simp] theorem intT_31 : intT prog 31 = none := by kernel_rfl
@[simp] theorem strT_31 : strT prog 31 = false := by kernel_rfl
@[simp] theorem boolT_31 : boolT prog 31 = false := by kernel_rfl
@[simp] theorem isStruct_31 : isStruct prog 31 = false := by kernel_rfl
@[simp] theorem infoT_31 : infoT prog 31 = some ((1, 24)) := by kernel_rfl
@[simp] theorem zeroT_31 : zeroT prog 31 = some (.sl (1) ([])) := by kernel_rfl
@[simp] theorem flatT_31 : flatT prog 31 = none := by kernel_rfl
@[simp] theorem kdT_31 : kdT prog 31 = some (.sl) := by kernel_rfl
@[simp] theorem mapT_31 : mapT prog 31 = none := by kernel_rfl
@[simp] theorem bt_31 : bt prog 31 = none := by kernel_rfl
@[simp] theorem elU8_31 : elU8 prog 31 = false := by kernel_rfl
@[simp] theorem arT_31 : arT prog 31 = none := by kernel_rfl
@[simp] theorem concT_31 : concT prog 31 = true := by kernel_rfl
@[simp] theorem selfT_31 : selfT prog 31 = false := by kernel_rfl
@[simp] theorem szOf_32 : szOf prog 32 = some (3) := by kernel_rfl
@[simp] theorem elT_32 : elT prog 32 = none := by kernel_rfl
@[simp] theorem aggT_32 : aggT prog 32 = some (true) := by kernel_rfl
@[simp] theorem intT_32 : intT prog 32 = none := by kernel_rfl
@[simp] theorem strT_32 : strT prog 32 = false := by kernel_rfl
@[simp] theorem boolT_32 : boolT prog 32 = false := by kernel_rfl
@[simp] theorem isStruct_32 : isStruct prog 32 = true := by kernel_rfl
@[simp] theorem infoT_32 : infoT prog 32 = some ((3, 40)) := by kernel_rfl
@[simp] theorem zeroT_32 : zeroT prog 32 = some (.agg ([.int (.i64) (0), .str (ByteArray.empty), .str (ByteArray.empty)])) := by kernel_rfl
@[simp] theorem flatT_32 : flatT prog 32 = some ([.int, .str, .str]) := by kernel_rfl
@[simp] theorem kdT_32 : kdT prog 32 = none := by kernel_rfl
@[simp] theorem mapT_32 : mapT prog 32 = none := by kernel_rfl
@[simp] theorem bt_32 : bt prog 32 = none := by kernel_rfl
@[simp] theorem elU8_32 : elU8 prog 32 = false := by kernel_rfl
@[simp] theorem arT_32 : arT prog 32 = none := by kernel_rfl
@[simp] theorem concT_32 : concT prog 32 = true := by kernel_rfl
@[simp] theorem selfT_32 : selfT prog 32 = false := by kernel_rfl
@[simp] theorem fldT_32_0 : fldT prog 32 0 = some ((0, 3)) := by kernel_rfl
@[simp] theorem fldPl_32_0 : fldPl prog 32 0 = some ((0, 1)) := by kernel_rfl
@[simp] theorem fldT_32_1 : fldT prog 32 1 = some ((1, 9)) := by kernel_rfl
@[simp] theorem fldPl_32_1 : fldPl prog 32 1 = some ((1, 1)) := by kernel_rfl
@[simp] theorem fldT_32_2 : fldT prog 32 2 = some ((2, 9)) := by kernel_rfl
@[simp] theorem fldPl_32_2 : fldPl prog 32 2 = some ((2, 1)) := by kernel_rfl
@[simp] theorem szOf_33 : szOf prog 33 = some (3) := by kernel_rfl
@[simp] theorem elT_33 : elT prog 33 = none := by kernel_rfl
@[simp] theorem aggT_33 : aggT prog 33 = some (true) := by kernel_rfl
@[simp] theorem intT_33 : intT prog 33 = none := by kernel_rfl
@[simp] theorem strT_33 : strT prog 33 = false := by kernel_rfl
@[simp] theorem boolT_33 : boolT prog 33 = false := by kernel_rfl
@[simp] theorem isStruct_33 : isStruct prog 33 = true := by kernel_rfl
@[simp] theorem infoT_33 : infoT prog 33 = some ((3, 40)) := by kernel_rfl
@[simp] theorem zeroT_33 : zeroT prog 33 = some (.agg ([.int (.i64) (0), .str (ByteArray.empty), .str (ByteArray.empty)])) := by kernel_rfl
@[simp] theorem flatT_33 : flatT prog 33 = some ([.int, .str, .str]) := by kernel_rfl
@[simp] theorem kdT_33 : kdT prog 33 = none := by kernel_rfl
@[simp] theorem mapT_33 : mapT prog 33 = none := by kernel_rfl
@[simp] theorem bt_33 : bt prog 33 = none := by kernel_rfl
@[simp] theorem elU8_33 : elU8 prog 33 = false := by kernel_rfl
@[simp] theorem arT_33 : arT prog 33 = none := by kernel_rfl
@[simp] theorem concT_33 : concT prog 33 = true := by kernel_rfl
@[simp] theorem selfT_33 : selfT prog 33 = false := by kernel_rfl
@[simp] theorem fldT_33_0 : fldT prog 33 0 = some ((0, 3)) := by kernel_rfl
@[simp] theorem fldPl_33_0 : fldPl prog 33 0 = some ((0, 1)) := by kernel_rfl
@[simp] theorem fldT_33_1 : fldT prog 33 1 = some ((1, 9)) := by kernel_rfl
@[simp] theorem fldPl_33_1 : fldPl prog 33 1 = some ((1, 1)) := by kernel_rfl
@[simp] theorem fldT_33_2 : fldT prog 33 2 = some ((2, 9)) := by kernel_rfl
@[simp] theorem fldPl_33_2 : fldPl prog 33 2 = some ((2, 1)) := by kernel_rfl
@[simp] theorem szOf_34 : szOf prog 34 = some (1) := by kernel_rfl
@[simp] theorem elT_34 : elT prog 34 = none := by kernel_rfl
@[simp] theorem aggT_34 : aggT prog 34 = some (false) := by kernel_rfl
@[simp] theorem intT_34 : intT prog 34 = none := by kernel_rfl
@[simp] theorem strT_34 : strT prog 34 = false := by kernel_rfl
@[simp] theorem boolT_34 : boolT prog 34 = false := by kernel_rfl
@[simp] theorem isStruct_34 : isStruct prog 34 = false := by kernel_rfl
@[simp] theorem infoT_34 : infoT prog 34 = some ((1, 8)) := by kernel_rfl
@[simp] theorem zeroT_34 : zeroT prog 34 = some (.nilf) := by kernel_rfl
@[simp] theorem flatT_34 : flatT prog 34 = none := by kernel_rfl
@[simp] theorem kdT_34 : kdT prog 34 = some (.fn) := by kernel_rfl
@[simp] theorem mapT_34 : mapT prog 34 = none := by kernel_rfl
@[simp] theorem bt_34 : bt prog 34 = none := by kernel_rfl
@[simp] theorem elU8_34 : elU8 prog 34 = false := by kernel_rfl
@[simp] theorem arT_34 : arT prog 34 = none := by kernel_rfl
@[simp] theorem concT_34 : concT prog 34 = true := by kernel_rfl
@[simp] theorem selfT_34 : selfT prog 34 = false := by kernel_rfl
@[simp] theorem szOf_35 : szOf prog 35 = some (1) := by kernel_rfl
@[simp] theorem elT_35 : elT prog 35 = none := by kernel_rfl
@[simp] theorem aggT_35 : aggT prog 35 = some (false) := by kernel_rfl
@[simp] theorem intT_35 : intT prog 35 = none := by kernel_rfl
@[simp] theorem strT_35 : strT prog 35 = false := by kernel_rfl
@[simp] theorem boolT_35 : boolT prog 35 = false := by kernel_rfl
@[simp] theorem isStruct_35 : isStruct prog 35 = false := by kernel_rfl
@[simp] theorem infoT_35 : infoT prog 35 = some ((1, 8)) := by kernel_rfl
@[simp] theorem zeroT_35 : zeroT prog 35 = some (.nilf) := by kernel_rfl
@[simp] theorem flatT_35 : flatT prog 35 = none := by kernel_rfl
@[simp] theorem kdT_35 : kdT prog 35 = some (.fn) := by kernel_rfl
@[simp] theorem mapT_35 : mapT prog 35 = none := by kernel_rfl
@[simp] theorem bt_35 : bt prog 35 = none := by kernel_rfl
@[simp] theorem elU8_35 : elU8 prog 35 = false := by kernel_rfl
@[simp] theorem arT_35 : arT prog 35 = none := by kernel_rfl
@[simp] theorem concT_35 : concT prog 35 = true := by kernel_rfl
@[simp] theorem selfT_35 : selfT prog 35 = false := by kernel_rfl
@[simp] theorem szOf_36 : szOf prog 36 = some (1) := by kernel_rfl
@[simp] theorem elT_36 : elT prog 36 = some (3) := by kernel_rfl
@[simp] theorem aggT_36 : aggT prog 36 = some (false) := by kernel_rfl
@[simp] theorem intT_36 : intT prog 36 = none := by kernel_rfl
@[simp] theorem strT_36 : strT prog 36 = false := by kernel_rfl
@[simp] theorem boolT_36 : boolT prog 36 = false := by kernel_rfl
@[simp] theorem isStruct_36 : isStruct prog 36 = false := by kernel_rfl
@[simp] theorem infoT_36 : infoT prog 36 = some ((1, 24)) := by kernel_rfl
@[simp] theorem zeroT_36 : zeroT prog 36 = some (.sl (1) ([])) := by kernel_rfl
@[simp] theorem flatT_36 : flatT prog 36 = none := by kernel_rfl
@[simp] theorem kdT_36 : kdT prog 36 = some (.sl) := by kernel_rfl
@[simp] theorem mapT_36 : mapT prog 36 = none := by kernel_rfl
@[simp] theorem bt_36 : bt prog 36 = none := by kernel_rfl
@[simp] theorem elU8_36 : elU8 prog 36 = false := by kernel_rfl
@[simp] theorem arT_36 : arT prog 36 = none := by kernel_rfl
@[simp] theorem concT_36 : concT prog 36 = true := by kernel_rfl
@[simp] theorem selfT_36 : selfT prog 36 = false := by kernel_rfl
@[simp] theorem szOf_37 : szOf prog 37 = some (1) := by kernel_rfl
@[simp] theorem elT_37 : elT prog 37 = none := by kernel_rfl
@[simp] theorem aggT_37 : aggT prog 37 = some (false) := by kernel_rfl
@[simp] theorem intT_37 : intT prog 37 = none := by kernel_rfl
@[simp] theorem strT_37 : strT prog 37 = false := by kernel_rfl
@[simp] theorem boolT_37 : boolT prog 37 = false := by kernel_rfl
@[simp] theorem isStruct_37 : isStruct prog 37 = false := by kernel_rfl
@[simp] theorem infoT_37 : infoT prog 37 = some ((1, 8)) := by kernel_rfl
@[simp] theorem zeroT_37 : zeroT prog 37 = some (.nilf) := by kernel_rfl
@[simp] theorem flatT_37 : flatT prog 37 = none := by kernel_rfl
@[simp] theorem kdT_37 : kdT prog 37 = some (.fn) := by kernel_rfl
@[simp] theorem mapT_37 : mapT prog 37 = none := by kernel_rfl
@[simp] theorem bt_37 : bt prog 37 = none := by kernel_rfl
@[simp] theorem elU8_37 : elU8 prog 37 = false := by kernel_rfl
@[simp] theorem arT_37 : arT prog 37 = none := by kernel_rfl
@[simp] theorem concT_37 : concT prog 37 = true := by kernel_rfl
@[simp] theorem selfT_37 : selfT prog 37 = false := by kernel_rfl
@[simp] theorem szOf_38 : szOf prog 38 = some (1) := by kernel_rfl
@[simp] theorem elT_38 : elT prog 38 = none := by kernel_rfl
@[simp] theorem aggT_38 : aggT prog 38 = some (false) := by kernel_rfl
@[simp] theorem intT_38 : intT prog 38 = none := by kernel_rfl
@[simp] theorem strT_38 : strT prog 38 = false := by kernel_rfl
@[simp] theorem boolT_38 : boolT prog 38 = false := by kernel_rfl
@[simp] theorem isStruct_38 : isStruct prog 38 = false := by kernel_rfl
@[simp] theorem infoT_38 : infoT prog 38 = some ((1, 8)) := by kernel_rfl
@[simp] theorem zeroT_38 : zeroT prog 38 = some (.nilf) := by kernel_rfl
@[simp] theorem flatT_38 : flatT prog 38 = none := by kernel_rfl
@[simp] theorem kdT_38 : kdT prog 38 = some (.fn) := by kernel_rfl
@[simp] theorem mapT_38 : mapT prog 38 = none := by kernel_rfl
@[simp] theorem bt_38 : bt prog 38 = none := by kernel_rfl
@[simp] theorem elU8_38 : elU8 prog 38 = false := by kernel_rfl
@[simp] theorem arT_38 : arT prog 38 = none := by kernel_rfl
@[simp] theorem concT_38 : concT prog 38 = true := by kernel_rfl
@[simp] theorem selfT_38 : selfT prog 38 = false := by kernel_rfl
@[simp] theorem szOf_39 : szOf prog 39 = some (1) := by kernel_rfl
@[simp] theorem elT_39 : elT prog 39 = none := by kernel_rfl
@[simp] theorem aggT_39 : aggT prog 39 = some (false) := by kernel_rfl
@[simp] theorem intT_39 : intT prog 39 = none := by kernel_rfl
@[simp] theorem strT_39 : strT prog 39 = false := by kernel_rfl
@[simp] theorem boolT_39 : boolT prog 39 = false := by kernel_rfl
@[simp] theorem isStruct_39 : isStruct prog 39 = false := by kernel_rfl
@[simp] theorem infoT_39 : infoT prog 39 = some ((1, 8)) := by kernel_rfl
@[simp] theorem zeroT_39 : zeroT prog 39 = some (.nilf) := by kernel_rfl
@[simp] theorem flatT_39 : flatT prog 39 = none := by kernel_rfl
@[simp] theorem kdT_39 : kdT prog 39 = some (.fn) := by kernel_rfl
@[simp] theorem mapT_39 : mapT prog 39 = none := by kernel_rfl
@[simp] theorem bt_39 : bt prog 39 = none := by kernel_rfl
@[simp] theorem elU8_39 : elU8 prog 39 = false := by kernel_rfl
@[simp] theorem arT_39 : arT prog 39 = none := by kernel_rfl
@[simp] theorem concT_39 : concT prog 39 = true := by kernel_rfl
@[simp] theorem selfT_39 : selfT prog 39 = false := by kernel_rfl
@[simp] theorem szOf_40 : szOf prog 40 = some (1) := by kernel_rfl
@[simp] theorem elT_40 : elT prog 40 = some (9) := by kernel_rfl
@[simp] theorem aggT_40 : aggT prog 40 = some (false) := by kernel_rfl
@[simp] theorem intT_40 : intT prog 40 = none := by kernel_rfl
@[simp] theorem strT_40 : strT prog 40 = false := by kernel_rfl
@[simp] theorem boolT_40 : boolT prog 40 = false := by kernel_rfl
@[simp] theorem isStruct_40 : isStruct prog 40 = false := by kernel_rfl
@[simp] theorem infoT_40 : infoT prog 40 = some ((1, 24)) := by kernel_rfl
@[simp] theorem zeroT_40 : zeroT prog 40 = some (.sl (1) ([])) := by kernel_rfl
@[simp] theorem flatT_40 : flatT prog 40 = none := by kernel_rfl
@[simp] theorem kdT_40 : kdT prog 40 = some (.sl) := by kernel_rfl
@[simp] theorem mapT_40 : mapT prog 40 = none := by kernel_rfl
@[simp] theorem bt_40 : bt prog 40 = none := by kernel_rfl
@[simp] theorem elU8_40 : elU8 prog 40 = false := by kernel_rfl
@[simp] theorem arT_40 : arT prog 40 = none := by kernel_rfl
@[simp] theorem concT_40 : concT prog 40 = true := by kernel_rfl
@[simp] theorem selfT_40 : selfT prog 40 = false := by kernel_rfl
@[simp] theorem szOf_41 : szOf prog 41 = some (1) := by kernel_rfl
@[simp] theorem elT_41 : elT prog 41 = none := by kernel_rfl
@[simp] theorem aggT_41 : aggT prog 41 = some (false) := by kernel_rfl
@[simp] theorem intT_41 : intT prog 41 = none := by kernel_rfl
@[simp] theorem strT_41 : strT prog 41 = false := by kernel_rfl
@[simp] theorem boolT_41 : boolT prog 41 = false := by kernel_rfl
@[simp] theorem isStruct_41 : isStruct prog 41 = false := by kernel_rfl
@[simp] theorem infoT_41 : infoT prog 41 = some ((1, 8)) := by kernel_rfl
@[simp] theorem zeroT_41 : zeroT prog 41 = some (.nilf) := by kernel_rfl
@[simp] theorem flatT_41 : flatT prog 41 = none := by kernel_rfl
@[simp] theorem kdT_41 : kdT prog 41 = some (.fn) := by kernel_rfl
@[simp] theorem mapT_41 : mapT prog 41 = none := by kernel_rfl
@[simp] theorem bt_41 : bt prog 41 = none := by kernel_rfl
@[simp] theorem elU8_41 : elU8 prog 41 = false := by kernel_rfl
@[simp] theorem arT_41 : arT prog 41 = none := by kernel_rfl
@[simp] theorem concT_41 : concT prog 41 = true := by kernel_rfl
@[simp] theorem selfT_41 : selfT prog 41 = false := by kernel_rfl
@[simp] theorem szOf_42 : szOf prog 42 = some (1) := by kernel_rfl
@[simp] theorem elT_42 : elT prog 42 = none := by kernel_rfl
@[simp] theorem aggT_42 : aggT prog 42 = some (false) := by kernel_rfl
@[simp] theorem intT_42 : intT prog 42 = none := by kernel_rfl
@[simp] theorem strT_42 : strT prog 42 = false := by kernel_rfl
@[simp] theorem boolT_42 : boolT prog 42 = false := by kernel_rfl
@[simp] theorem isStruct_42 : isStruct prog 42 = false := by kernel_rfl
@[simp] theorem infoT_42 : infoT prog 42 = some ((1, 0)) := by kernel_rfl
@[simp] theorem zeroT_42 : zeroT prog 42 = none := by kernel_rfl
@[simp] theorem flatT_42 : flatT prog 42 = none := by kernel_rfl
@[simp] theorem kdT_42 : kdT prog 42 = none := by kernel_rfl
@[simp] theorem mapT_42 : mapT prog 42 = none := by kernel_rfl
@[simp] theorem bt_42 : bt prog 42 = none := by kernel_rfl
@[simp] theorem elU8_42 : elU8 prog 42 = false := by kernel_rfl
@[simp] theorem arT_42 : arT prog 42 = none := by kernel_rfl
@[simp] theorem concT_42 : concT prog 42 = true := by kernel_rfl
@[simp] theorem selfT_42 : selfT prog 42 = false := by kernel_rfl
@[simp] theorem szOf_43 : szOf prog 43 = some (1) := by kernel_rfl
@[simp] theorem elT_43 : elT prog 43 = none := by kernel_rfl
@[simp] theorem aggT_43 : aggT prog 43 = some (false) := by kernel_rfl
@[simp] theorem intT_43 : intT prog 43 = none := by kernel_rfl
@[simp] theorem strT_43 : strT prog 43 = false := by kernel_rfl
@[simp] theorem boolT_43 : boolT prog 43 = false := by kernel_rfl
@[simp] theorem isStruct_43 : isStruct prog 43 = false := by kernel_rfl
@[simp] theorem infoT_43 : infoT prog 43 = some ((1, 8)) := by kernel_rfl
@[simp] theorem zeroT_43 : zeroT prog 43 = some (.nilf) := by kernel_rfl
@[simp] theorem flatT_43 : flatT prog 43 = none := by kernel_rfl
@[simp] theorem kdT_43 : kdT prog 43 = some (.fn) := by kernel_rfl
@[simp] theorem mapT_43 : mapT prog 43 = none := by kernel_rfl
@[simp] theorem bt_43 : bt prog 43 = none := by kernel_rfl
@[simp] theorem elU8_43 : elU8 prog 43 = false := by kernel_rfl
@[simp] theorem arT_43 : arT prog 43 = none := by kernel_rfl
@[simp] theorem concT_43 : concT prog 43 = true := by kernel_rfl
@[simp] theorem selfT_43 : selfT prog 43 = false := by kernel_rfl
@[simp] theorem szOf_44 : szOf prog 44 = some (1) := by kernel_rfl
@[simp] theorem elT_44 : elT prog 44 = none := by kernel_rfl
@[simp] theorem aggT_44 : aggT prog 44 = some (false) := by kernel_rfl
@[simp] theorem intT_44 : intT prog 44 = none := by kernel_rfl
@[simp] theorem strT_44 : strT prog 44 = false := by kernel_rfl
@[simp] theorem boolT_44 : boolT prog 44 = false := by kernel_rfl
@[simp] theorem isStruct_44 : isStruct prog 44 = false := by kernel_rfl
@[simp] theorem infoT_44 : infoT prog 44 = some ((1, 8)) := by kernel_rfl
@[simp] theorem zeroT_44 : zeroT prog 44 = some (.nilf) := by kernel_rfl
@[simp] theorem flatT_44 : flatT prog 44 = none := by kernel_rfl
@[simp] theorem kdT_44 : kdT prog 44 = some (.fn) := by kernel_rfl
@[simp] theorem mapT_44 : mapT prog 44 = none := by kernel_rfl
@[simp] theorem bt_44 : bt prog 44 = none := by kernel_rfl
@[simp] theorem elU8_44 : elU8 prog 44 = false := by kernel_rfl
@[simp] theorem arT_44 : arT prog 44 = none := by kernel_rfl
@[simp] theorem concT_44 : concT prog 44 = true := by kernel_rfl
@[simp] theorem selfT_44 : selfT prog 44 = false := by kernel_rfl
@[simp] theorem szOf_45 : szOf prog 45 = some (6) := by kernel_rfl
@[simp] theorem elT_45 : elT prog 45 = none := by kernel_rfl
@[simp] theorem aggT_45 : aggT prog 45 = some (true) := by kernel_rfl
@[simp] theorem intT_45 : intT prog 45 = none := by kernel_rfl
@[simp] theorem strT_45 : strT prog 45 = false := by kernel_rfl
@[simp] theorem boolT_45 : boolT prog 45 = false := by kernel_rfl
@[simp] theorem isStruct_45 : isStruct prog 45 = false := by kernel_rfl
@[simp] theorem infoT_45 : infoT prog 45 = some ((6, 96)) := by kernel_rfl
@[simp] theorem zeroT_45 : zeroT prog 45 = some (.agg ([.str (ByteArray.empty), .str (ByteArray.empty), .str (ByteArray.empty), .str (ByteArray.empty), .str (ByteArray.empty), .str (ByteArray.empty)])) := by kernel_rfl
@[simp] theorem flatT_45 : flatT prog 45 = none := by kernel_rfl
@[simp] theorem kdT_45 : kdT prog 45 = none := by kernel_rfl
@[simp] theorem mapT_45 : mapT prog 45 = none := by kernel_rfl
@[simp] theorem bt_45 : bt prog 45 = none := by kernel_rfl
@[simp] theorem elU8_45 : elU8 prog 45 = false := by kernel_rfl
@[simp] theorem arT_45 : arT prog 45 = some ((6, 9)) := by kernel_rfl
@[simp] theorem concT_45 : concT prog 45 = true := by kernel_rfl
@[simp] theorem selfT_45 : selfT prog 45 = false := by kernel_rfl
@[simp] theorem szOf_46 : szOf prog 46 = some (1) := by kernel_rfl
@[simp] theorem elT_46 : elT prog 46 = none := by kernel_rfl
@[simp] theorem aggT_46 : aggT prog 46 = some (false) := by kernel_rfl
@[simp] theorem intT_46 : intT prog 46 = none := by kernel_rfl
@[simp] theorem strT_46 : strT prog 46 = false := by kernel_rfl
@[simp] theorem boolT_46 : boolT prog 46 = false := by kernel_rfl
@[simp] theorem isStruct_46 : isStruct prog 46 = false := by kernel_rfl
@[simp] theorem infoT_46 : infoT prog 46 = some ((1, 8)) := by kernel_rfl
@[simp] theorem zeroT_46 : zeroT prog 46 = some (.nilf) := by kernel_rfl
@[simp] theorem flatT_46 : flatT prog 46 = none := by kernel_rfl
@[simp] theorem kdT_46 : kdT prog 46 = some (.fn) := by kernel_rfl
@[simp] theorem mapT_46 : mapT prog 46 = none := by kernel_rfl
@[simp] theorem bt_46 : bt prog 46 = none := by kernel_rfl
@[simp] theorem elU8_46 : elU8 prog 46 = false := by kernel_rfl
@[simp] theorem arT_46 : arT prog 46 = none := by kernel_rfl
@[simp] theorem concT_46 : concT prog 46 = true := by kernel_rfl
@[simp] theorem selfT_46 : selfT prog 46 = false := by kernel_rfl
@[simp] theorem szOf_47 : szOf prog 47 = some (1) := by kernel_rfl
@[simp] theorem elT_47 : elT prog 47 = none := by kernel_rfl
@[simp] theorem aggT_47 : aggT prog 47 = some (false) := by kernel_rfl
@[simp] theorem intT_47 : intT prog 47 = none := by kernel_rfl
@[simp] theorem strT_47 : strT prog 47 = false := by kernel_rfl
@[simp] theorem boolT_47 : boolT prog 47 = false := by kernel_rfl
@[simp] theorem isStruct_47 : isStruct prog 47 = false := by kernel_rfl
@[simp] theorem infoT_47 : infoT prog 47 = some ((1, 8)) := by kernel_rfl
@[simp] theorem zeroT_47 : zeroT prog 47 = some (.nilf) := by kernel_rfl
@[simp] theorem flatT_47 : flatT prog 47 = none := by kernel_rfl
@[simp] theorem kdT_47 : kdT prog 47 = some (.fn) := by kernel_rfl
@[simp] theorem mapT_47 : mapT prog 47 = none := by kernel_rfl
@[simp] theorem bt_47 : bt prog 47 = none := by kernel_rfl
@[simp] theorem elU8_47 : elU8 prog 47 = false := by kernel_rfl
@[simp] theorem arT_47 : arT prog 47 = none := by kernel_rfl
@[simp] theorem concT_47 : concT prog 47 = true := by kernel_rfl
@[simp] theorem selfT_47 : selfT prog 47 = false := by kernel_rfl
@[simp] theorem szOf_48 : szOf prog 48 = some (1) := by kernel_rfl
@[simp] theorem elT_48 : elT prog 48 = none := by kernel_rfl
@[simp] theorem aggT_48 : aggT prog 48 = some (false) := by kernel_rfl
@[simp] theorem intT_48 : intT prog 48 = none := by kernel_rfl
@[simp] theorem strT_48 : strT prog 48 = false := by kernel_rfl
@[simp] theorem boolT_48 : boolT prog 48 = false := by kernel_rfl
@[simp] theorem isStruct_48 : isStruct prog 48 = false := by kernel_rfl
@[simp] theorem infoT_48 : infoT prog 48 = some ((1, 8)) := by kernel_rfl
@[simp] theorem zeroT_48 : zeroT prog 48 = some (.nilf) := by kernel_rfl
@[simp] theorem flatT_48 : flatT prog 48 = none := by kernel_rfl
@[simp] theorem kdT_48 : kdT prog 48 = some (.fn) := by kernel_rfl
@[simp] theorem mapT_48 : mapT prog 48 = none := by kernel_rfl
@[simp] theorem bt_48 : bt prog 48 = none := by kernel_rfl
@[simp] theorem elU8_48 : elU8 prog 48 = false := by kernel_rfl
@[simp] theorem arT_48 : arT prog 48 = none := by kernel_rfl
@[simp] theorem concT_48 : concT prog 48 = true := by kernel_rfl
@[simp] theorem selfT_48 : selfT prog 48 = false := by kernel_rfl
@[simp] theorem szOf_49 : szOf prog 49 = some (5) := by kernel_rfl
@[simp] theorem elT_49 : elT prog 49 = none := by kernel_rfl
@[simp] theorem aggT_49 : aggT prog 49 = some (true) := by kernel_rfl
@[simp] theorem intT_49 : intT prog 49 = none := by kernel_rfl
@[simp] theorem strT_49 : strT prog 49 = false := by kernel_rfl
@[simp] theorem boolT_49 : boolT prog 49 = false := by kernel_rfl
@[simp] theorem isStruct_49 : isStruct prog 49 = false := by kernel_rfl
@[simp] theorem infoT_49 : infoT prog 49 = some ((5, 80)) := by kernel_rfl
@[simp] theorem zeroT_49 : zeroT prog 49 = some (.agg ([.str (ByteArray.empty), .str (ByteArray.empty), .str (ByteArray.empty), .str (ByteArray.empty), .str (ByteArray.empty)])) := by kernel_rfl
@[simp] theorem flatT_49 : flatT prog 49 = none := by kernel_rfl
@[simp] theorem kdT_49 : kdT prog 49 = none := by kernel_rfl
@[simp] theorem mapT_49 : mapT prog 49 = none := by kernel_rfl
@[simp] theorem bt_49 : bt prog 49 = none := by kernel_rfl
@[simp] theorem elU8_49 : elU8 prog 49 = false := by kernel_rfl
@[simp] theorem arT_49 : arT prog 49 = some ((5, 9)) := by kernel_rfl
@[simp] theorem concT_49 : concT prog 49 = true := by kernel_rfl
@[simp] theorem selfT_49 : selfT prog 49 = false := by kernel_rfl
@[simp] theorem szOf_50 : szOf prog 50 = some (1) := by kernel_rfl
@[simp] theorem elT_50 : elT prog 50 = none := by kernel_rfl
@[simp] theorem aggT_50 : aggT prog 50 = some (false) := by kernel_rfl
@[simp] theorem intT_50 : intT prog 50 = none := by kernel_rfl
@[simp] theorem strT_50 : strT prog 50 = false := by kernel_rfl
@[simp] theorem boolT_50 : boolT prog 50 = false := by kernel_rfl
@[simp] theorem isStruct_50 : isStruct prog 50 = false := by kernel_rfl
@[simp] theorem infoT_50 : infoT prog 50 = some ((1, 8)) := by kernel_rfl
@[simp] theorem zeroT_50 : zeroT prog 50 = some (.nilp) := by kernel_rfl
@[simp] theorem flatT_50 : flatT prog 50 = none := by kernel_rfl
@[simp] theorem kdT_50 : kdT prog 50 = some (.ptr) := by kernel_rfl
@[simp] theorem mapT_50 : mapT prog 50 = none := by kernel_rfl
@[simp] theorem bt_50 : bt prog 50 = none := by kernel_rfl
@[simp] theorem elU8_50 : elU8 prog 50 = false := by kernel_rfl
@[simp] theorem arT_50 : arT prog 50 = none := by kernel_rfl
@[simp] theorem concT_50 : concT prog 50 = true := by kernel_rfl
@[simp] theorem selfT_50 : selfT prog 50 = false := by kernel_rfl
@[simp] theorem szOf_51 : szOf prog 51 = some (1) := by kernel_rfl
@[simp] theorem elT_51 : elT prog 51 = some (5) := by kernel_rfl
@[simp] theorem aggT_51 : aggT prog 51 = some (false) := by kernel_rfl
@[simp] theorem intT_51 : intT prog 51 = none := by kernel_rfl
@[simp] theorem strT_51 : strT prog 51 = false := by kernel_rfl
@[simp] theorem boolT_51 : boolT prog 51 = false := by kernel_rfl
@[simp] theorem isStruct_51 : isStruct prog 51 = false := by kernel_rfl
@[simp] theorem infoT_51 : infoT prog 51 = some ((1, 24)) := by kernel_rfl
@[simp] theorem zeroT_51 : zeroT prog 51 = some (.sl (1) ([])) := by kernel_rfl
@[simp] theorem flatT_51 : flatT prog 51 = none := by kernel_rfl
@[simp] theorem kdT_51 : kdT prog 51 = some (.sl) := by kernel_rfl
@[simp] theorem mapT_51 : mapT prog 51 = none := by kernel_rfl
@[simp] theorem bt_51 : bt prog 51 = none := by kernel_rfl
@[simp] theorem elU8_51 : elU8 prog 51 = true := by kernel_rfl
@[simp] theorem arT_51 : arT prog 51 = none := by kernel_rfl
@[simp] theorem concT_51 : concT prog 51 = true := by kernel_rfl
@[simp] theorem selfT_51 : selfT prog 51 = false := by kernel_rfl
@[simp] theorem szOf_52 : szOf prog 52 = some (2) := by kernel_rfl
@[simp] theorem elT_52 : elT prog 52 = none := by kernel_rfl
@[simp] theorem aggT_52 : aggT prog 52 = some (true) := by kernel_rfl
@[simp] theorem intT_52 : intT prog 52 = none := by kernel_rfl
@[simp] theorem strT_52 : strT prog 52 = false := by kernel_rfl
@[simp] theorem boolT_52 : boolT prog 52 = false := by kernel_rfl
@[simp] theorem isStruct_52 : isStruct prog 52 = true := by kernel_rfl
@[simp] theorem infoT_52 : infoT prog 52 = some ((2, 32)) := by kernel_rfl
@[simp] theorem zeroT_52 : zeroT prog 52 = some (.agg ([.nilp, .sl (1) ([])])) := by kernel_rfl
@[simp] theorem flatT_52 : flatT prog 52 = none := by kernel_rfl
@[simp] theorem kdT_52 : kdT prog 52 = none := by kernel_rfl
@[simp] theorem mapT_52 : mapT prog 52 = none := by kernel_rfl
@[simp] theorem bt_52 : bt prog 52 = none := by kernel_rfl
@[simp] theorem elU8_52 : elU8 prog 52 = false := by kernel_rfl
@[simp] theorem arT_52 : arT prog 52 = none := by kernel_rfl
@[simp] theorem concT_52 : concT prog 52 = true := by kernel_rfl
@[simp] theorem selfT_52 : selfT prog 52 = false := by kernel_rfl
@[simp] theorem fldT_52_0 : fldT prog 52 0 = some ((0, 50)) := by kernel_rfl
@[simp] theorem fldPl_52_0 : fldPl prog 52 0 = some ((0, 1)) := by kernel_rfl
@[simp] theorem fldT_52_1 : fldT prog 52 1 = some ((1, 51)) := by kernel_rfl
@[simp] theorem fldPl_52_1 : fldPl prog 52 1 = some ((1, 1)) := by kernel_rfl
@[simp] theorem szOf_53 : szOf prog 53 = some (2) := by kernel_rfl
@[simp] theorem elT_53 : elT prog 53 = none := by kernel_rfl
@[simp] theorem aggT_53 : aggT prog 53 = some (true) := by kernel_rfl
@[simp] theorem intT_53 : intT prog 53 = none := by kernel_rfl
@[simp] theorem strT_53 : strT prog 53 = false := by kernel_rfl
@[simp] theorem boolT_53 : boolT prog 53 = false := by kernel_rfl
@[simp] theorem isStruct_53 : isStruct prog 53 = true := by kernel_rfl
@[simp] theorem infoT_53 : infoT prog 53 = some ((2, 32)) := by kernel_rfl
@[simp] theorem zeroT_53 : zeroT prog 53 = some (.agg ([.nilp, .sl (1) ([])])) := by kernel_rfl
@[simp] theorem flatT_53 : flatT prog 53 = none := by kernel_rfl
@[simp] theorem kdT_53 : kdT prog 53 = none := by kernel_rfl
@[simp] theorem mapT_53 : mapT prog 53 = none := by kernel_rfl
@[simp] theorem bt_53 : bt prog 53 = none := by kernel_rfl
@[simp] theorem elU8_53 : elU8 prog 53 = false := by kernel_rfl
@[simp] theorem arT_53 : arT prog 53 = none := by kernel_rfl
@[simp] theorem concT_53 : concT prog 53 = true := by kernel_rfl
@[simp] theorem selfT_53 : selfT prog 53 = true := by kernel_rfl
@[simp] theorem fldT_53_0 : fldT prog 53 0 = some ((0, 50)) := by kernel_rfl
@[simp] theorem fldPl_53_0 : fldPl prog 53 0 = some ((0, 1)) := by kernel_rfl
@[simp] theorem fldT_53_1 : fldT prog 53 1 = some ((1, 51)) := by kernel_rfl
@[simp] theorem fldPl_53_1 : fldPl prog 53 1 = some ((1, 1)) := by kernel_rfl
@[simp] theorem szOf_54 : szOf prog 54 = some (1) := by kernel_rfl
@[simp] theorem elT_54 : elT prog 54 = none := by kernel_rfl
@[simp] theorem aggT_54 : aggT prog 54 = some (false) := by kernel_rfl
@[simp] theorem intT_54 : intT prog 54 = none := by kernel_rfl
@[simp] theorem strT_54 : strT prog 54 = false := by kernel_rfl
@[simp] theorem boolT_54 : boolT prog 54 = false := by kernel_rfl
@[simp] theorem isStruct_54 : isStruct prog 54 = false := by kernel_rfl
@[simp] theorem infoT_54 : infoT prog 54 = some ((1, 8)) := by kernel_rfl
@[simp] theorem zeroT_54 : zeroT prog 54 = some (.nilf) := by kernel_rfl
@[simp] theorem flatT_54 : flatT prog 54 = none := by kernel_rfl
@[simp] theorem kdT_54 : kdT prog 54 = some (.fn) := by kernel_rfl
@[simp] theorem mapT_54 : mapT prog 54 = none := by kernel_rfl
@[simp] theorem bt_54 : bt prog 54 = none := by kernel_rfl
@[simp] theorem elU8_54 : elU8 prog 54 = false := by kernel_rfl
@[simp] theorem arT_54 : arT prog 54 = none := by kernel_rfl
@[simp] theorem concT_54 : concT prog 54 = true := by kernel_rfl
@[simp] theorem selfT_54 : selfT prog 54 = false := by kernel_rfl
@[simp] theorem szOf_55 : szOf prog 55 = some (1) := by kernel_rfl
@[simp] theorem elT_55 : elT prog 55 = none := by kernel_rfl
@[simp] theorem aggT_55 : aggT prog 55 = some (false) := by kernel_rfl
@[simp] theorem intT_55 : intT prog 55 = none := by kernel_rfl
@[simp] theorem strT_55 : strT prog 55 = false := by kernel_rfl
@[simp] theorem boolT_55 : boolT prog 55 = false := by kernel_rfl
@[simp] theorem isStruct_55 : isStruct prog 55 = false := by kernel_rfl
@[simp] theorem infoT_55 : infoT prog 55 = some ((1, 8)) := by kernel_rfl
@[simp] theorem zeroT_55 : zeroT prog 55 = some (.nilf) := by kernel_rfl
@[simp] theorem flatT_55 : flatT prog 55 = none := by kernel_rfl
@[simp] theorem kdT_55 : kdT prog 55 = some (.fn) := by kernel_rfl
@[simp] theorem mapT_55 : mapT prog 55 = none := by kernel_rfl
@[simp] theorem bt_55 : bt prog 55 = none := by kernel_rfl
@[simp] theorem elU8_55 : elU8 prog 55 = false := by kernel_rfl
@[simp] theorem arT_55 : arT prog 55 = none := by kernel_rfl
@[simp] theorem concT_55 : concT prog 55 = true := by kernel_rfl
@[simp] theorem selfT_55 : selfT prog 55 = false := by kernel_rfl
@[simp] theorem szOf_56 : szOf prog 56 = some (1) := by kernel_rfl
@[simp] theorem elT_56 : elT prog 56 = none := by kernel_rfl
@[simp] theorem aggT_56 : aggT prog 56 = some (false) := by kernel_rfl
@[simp] theorem intT_56 : intT prog 56 = none := by kernel_rfl
@[simp] theorem strT_56 : strT prog 56 = false := by kernel_rfl
@[simp] theorem boolT_56 : boolT prog 56 = false := by kernel_rfl
@[simp] theorem isStruct_56 : isStruct prog 56 = false := by kernel_rfl
@[simp] theorem infoT_56 : infoT prog 56 = some ((1, 8)) := by kernel_rfl
@[simp] theorem zeroT_56 : zeroT prog 56 = some (.nilf) := by kernel_rfl
@[simp] theorem flatT_56 : flatT prog 56 = none := by kernel_rfl
@[simp] theorem kdT_56 : kdT prog 56 = some (.fn) := by kernel_rfl
@[simp] theorem mapT_56 : mapT prog 56 = none := by kernel_rfl
@[simp] theorem bt_56 : bt prog 56 = none := by kernel_rfl
@[simp] theorem elU8_56 : elU8 prog 56 = false := by kernel_rfl
@[simp] theorem arT_56 : arT prog 56 = none := by kernel_rfl
@[simp] theorem concT_56 : concT prog 56 = true := by kernel_rfl
@[simp] theorem selfT_56 : selfT prog 56 = false := by kernel_rfl
@[simp] theorem szOf_57 : szOf prog 57 = some (6) := by kernel_rfl
@[simp] theorem elT_57 : elT prog 57 = none := by kernel_rfl
@[simp] theorem aggT_57 : aggT prog 57 = some (true) := by kernel_rfl
@[simp] theorem intT_57 : intT prog 57 = none := by kernel_rfl
@[simp] theorem strT_57 : strT prog 57 = false := by kernel_rfl
@[simp] theorem boolT_57 : boolT prog 57 = false := by kernel_rfl
@[simp] theorem isStruct_57 : isStruct prog 57 = false := by kernel_rfl
@[simp] theorem infoT_57 : infoT prog 57 = some ((6, 48)) := by kernel_rfl
@[simp] theorem zeroT_57 : zeroT prog 57 = some (.agg ([.int (.i64) (0), .int (.i64) (0), .int (.i64) (0), .int (.i64) (0), .int (.i64) (0), .int (.i64) (0)])) := by kernel_rfl
@[simp] theorem flatT_57 : flatT prog 57 = none := by kernel_rfl
@[simp] theorem kdT_57 : kdT prog 57 = none := by kernel_rfl
@[simp] theorem mapT_57 : mapT prog 57 = none := by kernel_rfl
@[simp] theorem bt_57 : bt prog 57 = none := by kernel_rfl
@[simp] theorem elU8_57 : elU8 prog 57 = false := by kernel_rfl
@[simp] theorem arT_57 : arT prog 57 = some ((6, 3)) := by kernel_rfl
@[simp] theorem concT_57 : concT prog 57 = true := by kernel_rfl
@[simp] theorem selfT_57 : selfT prog 57 = false := by kernel_rfl
@[simp] theorem szOf_58 : szOf prog 58 = some (1) := by kernel_rfl
@[simp] theorem elT_58 : elT prog 58 = none := by kernel_rfl
@[simp] theorem aggT_58 : aggT prog 58 = some (false) := by kernel_rfl
@[simp] theorem intT_58 : intT prog 58 = none := by kernel_rfl
@[simp] theorem strT_58 : strT prog 58 = false := by kernel_rfl
@[simp] theorem boolT_58 : boolT prog 58 = false := by kernel_rfl
@[simp] theorem isStruct_58 : isStruct prog 58 = false := by kernel_rfl
@[simp] theorem infoT_58 : infoT prog 58 = some ((1, 8)) := by kernel_rfl
@[simp] theorem zeroT_58 : zeroT prog 58 = some (.nilf) := by kernel_rfl
@[simp] theorem flatT_58 : flatT prog 58 = none := by kernel_rfl
@[simp] theorem kdT_58 : kdT prog 58 = some (.fn) := by kernel_rfl
@[simp] theorem mapT_58 : mapT prog 58 = none := by kernel_rfl
@[simp] theorem bt_58 : bt prog 58 = none := by kernel_rfl
@[simp] theorem elU8_58 : elU8 prog 58 = false := by kernel_rfl
@[simp] theorem arT_58 : arT prog 58 = none := by kernel_rfl
@[simp] theorem concT_58 : concT prog 58 = true := by kernel_rfl
@[simp] theorem selfT_58 : selfT prog 58 = false := by kernel_rfl
@[simp] theorem szOf_59 : szOf prog 59 = some (1) := by kernel_rfl
@[simp] theorem elT_59 : elT prog 59 = some (40) := by kernel_rfl
@[simp] theorem aggT_59 : aggT prog 59 = some (false) := by kernel_rfl
@[simp] theorem intT_59 : intT prog 59 = none := by kernel_rfl
@[simp] theorem strT_59 : strT prog 59 = false := by kernel_rfl
@[simp] theorem boolT_59 : boolT prog 59 = false := by kernel_rfl
@[simp] theorem isStruct_59 : isStruct prog 59 = false := by kernel_rfl
@[simp] theorem infoT_59 : infoT prog 59 = some ((1, 24)) := by kernel_rfl
@[simp] theorem zeroT_59 : zeroT prog 59 = some (.sl (1) ([])) := by kernel_rfl
@[simp] theorem flatT_59 : flatT prog 59 = none := by kernel_rfl
@[simp] theorem kdT_59 : kdT prog 59 = some (.sl) := by kernel_rfl
@[simp] theorem mapT_59 : mapT prog 59 = none := by kernel_rfl
@[simp] theorem bt_59 : bt prog 59 = none := by kernel_rfl
@[simp] theorem elU8_59 : elU8 prog 59 = false := by kernel_rfl
@[simp] theorem arT_59 : arT prog 59 = none := by kernel_rfl
@[simp] theorem concT_59 : concT prog 59 = true := by kernel_rfl
@[simp] theorem selfT_59 : selfT prog 59 = false := by kernel_rfl
@[simp] theorem szOf_60 : szOf prog 60 = some (1) := by kernel_rfl
@[simp] theorem elT_60 : elT prog 60 = none := by kernel_rfl
@[simp] theorem aggT_60 : aggT prog 60 = some (false) := by kernel_rfl
@[simp] theorem intT_60 : intT prog 60 = none := by kernel_rfl
@[simp] theorem strT_60 : strT prog 60 = false := by kernel_rfl
@[simp] theorem boolT_60 : boolT prog 60 = false := by kernel_rfl
@[simp] theorem isStruct_60 : isStruct prog 60 = false := by kernel_rfl
@[simp] theorem infoT_60 : infoT prog 60 = some ((1, 16)) := by kernel_rfl
@[simp] theorem zeroT_60 : zeroT prog 60 = some (.nili) := by kernel_rfl
@[simp] theorem flatT_60 : flatT prog 60 = none := by kernel_rfl
@[simp] theorem kdT_60 : kdT prog 60 = some (.ifc) := by kernel_rfl
@[simp] theorem mapT_60 : mapT prog 60 = none := by kernel_rfl
@[simp] theorem bt_60 : bt prog 60 = none := by kernel_rfl
@[simp] theorem elU8_60 : elU8 prog 60 = false := by kernel_rfl
@[simp] theorem arT_60 : arT prog 60 = none := by kernel_rfl
@[simp] theorem concT_60 : concT prog 60 = false := by kernel_rfl
@[simp] theorem selfT_60 : selfT prog 60 = false := by kernel_rfl
@[simp] theorem szOf_61 : szOf prog 61 = some (1) := by kernel_rfl
@[simp] theorem elT_61 : elT prog 61 = none := by kernel_rfl
@[simp] theorem aggT_61 : aggT prog 61 = some (false) := by kernel_rfl
@[simp] theorem intT_61 : intT prog 61 = none := by kernel_rfl
@[simp] theorem strT_61 : strT prog 61 = false := by kernel_rfl
@[simp] theorem boolT_61 : boolT prog 61 = false := by kernel_rfl
@[simp] theorem isStruct_61 : isStruct prog 61 = false := by kernel_rfl
@[simp] theorem infoT_61 : infoT prog 61 = some ((1, 16)) := by kernel_rfl
@[simp] theorem zeroT_61 : zeroT prog 61 = some (.nili) := by kernel_rfl
@[simp] theorem flatT_61 : flatT prog 61 = none := by kernel_rfl
@[simp] theorem kdT_61 : kdT prog 61 = some (.ifc) := by kernel_rfl
@[simp] theorem mapT_61 : mapT prog 61 = none := by kernel_rfl
@[simp] theorem bt_61 : bt prog 61 = none := by kernel_rfl
@[simp] theorem elU8_61 : elU8 prog 61 = false := by kernel_rfl
@[simp] theorem arT_61 : arT prog 61 = none := by kernel_rfl
@[simp] theorem concT_61 : concT prog 61 = false := by kernel_rfl
@[simp] theorem selfT_61 : selfT prog 61 = false := by kernel_rfl
@[simp] theorem szOf_62 : szOf prog 62 = some (1) := by kernel_rfl
@[simp] theorem elT_62 : elT prog 62 = none := by kernel_rfl
@[simp] theorem aggT_62 : aggT prog 62 = some (false) := by kernel_rfl
@[simp] theorem intT_62 : intT prog 62 = none := by kernel_rfl
@[simp] theorem strT_62 : strT prog 62 = false := by kernel_rfl
@[simp] theorem boolT_62 : boolT prog 62 = false := by kernel_rfl
@[simp] theorem isStruct_62 : isStruct prog 62 = false := by kernel_rfl
@[simp] theorem infoT_62 : infoT prog 62 = some ((1, 0)) := by kernel_rfl
@[simp] theorem zeroT_62 : zeroT prog 62 = none := by kernel_rfl
@[simp] theorem flatT_62 : flatT prog 62 = none := by kernel_rfl
@[simp] theorem kdT_62 : kdT prog 62 = none := by kernel_rfl
@[simp] theorem mapT_62 : mapT prog 62 = none := by kernel_rfl
@[simp] theorem bt_62 : bt prog 62 = none := by kernel_rfl
@[simp] theorem elU8_62 : elU8 prog 62 = false := by kernel_rfl
@[simp] theorem arT_62 : arT prog 62 = none := by kernel_rfl
@[simp] theorem concT_62 : concT prog 62 = true := by kernel_rfl
@[simp] theorem selfT_62 : selfT prog 62 = false := by kernel_rfl
@[simp] theorem szOf_63 : szOf prog 63 = some (1) := by kernel_rfl
@[simp] theorem elT_63 : elT prog 63 = none := by kernel_rfl
@[simp] theorem aggT_63 : aggT prog 63 = some (false) := by kernel_rfl
@[simp] theorem intT_63 : intT prog 63 = none := by kernel_rfl
@[simp] theorem strT_63 : strT prog 63 = false := by kernel_rfl
@[simp] theorem boolT_63 : boolT prog 63 = false := by kernel_rfl
@[simp] theorem isStruct_63 : isStruct prog 63 = false := by kernel_rfl
@[simp] theorem infoT_63 : infoT prog 63 = some ((1, 8)) := by kernel_rfl
@[simp] theorem zeroT_63 : zeroT prog 63 = some (.nilf) := by kernel_rfl
@[simp] theorem flatT_63 : flatT prog 63 = none := by kernel_rfl
@[simp] theorem kdT_63 : kdT prog 63 = some (.fn) := by kernel_rfl
@[simp] theorem mapT_63 : mapT prog 63 = none := by kernel_rfl
@[simp] theorem bt_63 : bt prog 63 = none := by kernel_rfl
@[simp] theorem elU8_63 : elU8 prog 63 = false := by kernel_rfl
@[simp] theorem arT_63 : arT prog 63 = none := by kernel_rfl
@[simp] theorem concT_63 : concT prog 63 = true := by kernel_rfl
@[simp] theorem selfT_63 : selfT prog 63 = false := by kernel_rfl
@[simp] theorem szOf_64 : szOf prog 64 = some (1) := by kernel_rfl
@[simp] theorem elT_64 : elT prog 64 = none := by kernel_rfl
@[simp] theorem aggT_64 : aggT prog 64 = some (false) := by kernel_rfl
@[simp] theorem intT_64 : intT prog 64 = none := by kernel_rfl
@[simp] theorem strT_64 : strT prog 64 = false := by kernel_rfl
@[simp] theorem boolT_64 : boolT prog 64 = false := by kernel_rfl
@[simp] theorem isStruct_64 : isStruct prog 64 = false := by kernel_rfl
@[simp] theorem infoT_64 : infoT prog 64 = some ((1, 8)) := by kernel_rfl
@[simp] theorem zeroT_64 : zeroT prog 64 = some (.nilf) := by kernel_rfl
@[simp] theorem flatT_64 : flatT prog 64 = none := by kernel_rfl
@[simp] theorem kdT_64 : kdT prog 64 = some (.fn) := by kernel_rfl
@[simp] theorem mapT_64 : mapT prog 64 = none := by kernel_rfl
@[simp] theorem bt_64 : bt prog 64 = none := by kernel_rfl
@[simp] theorem elU8_64 : elU8 prog 64 = false := by kernel_rfl
@[simp] theorem arT_64 : arT prog 64 = none := by kernel_rfl
@[simp] theorem concT_64 : concT prog 64 = true := by kernel_rfl
@[simp] theorem selfT_64 : selfT prog 64 = false := by kernel_rfl
@[simp] theorem szOf_65 : szOf prog 65 = some (1) := by kernel_rfl
@[simp] theorem elT_65 : elT prog 65 = none := by kernel_rfl
@[simp] theorem aggT_65 : aggT prog 65 = some (false) := by kernel_rfl
@[simp] theorem intT_65 : intT prog 65 = none := by kernel_rfl
@[simp] theorem strT_65 : strT prog 65 = false := by kernel_rfl
@[simp] theorem boolT_65 : boolT prog 65 = false := by kernel_rfl
@[simp] theorem isStruct_65 : isStruct prog 65 = false := by kernel_rfl
@[simp] theorem infoT_65 : infoT prog 65 = some ((1, 16)) := by kernel_rfl
@[simp] theorem zeroT_65 : zeroT prog 65 = some (.nili) := by kernel_rfl
@[simp] theorem flatT_65 : flatT prog 65 = none := by kernel_rfl
@[simp] theorem kdT_65 : kdT prog 65 = some (.ifc) := by kernel_rfl
@[simp] theorem mapT_65 : mapT prog 65 = none := by kernel_rfl
@[simp] theorem bt_65 : bt prog 65 = none := by kernel_rfl
@[simp] theorem elU8_65 : elU8 prog 65 = false := by kernel_rfl
@[simp] theorem arT_65 : arT prog 65 = none := by kernel_rfl
@[simp] theorem concT_65 : concT prog 65 = false := by kernel_rfl
@[simp] theorem selfT_65 : selfT prog 65 = false := by kernel_rfl
@[simp] theorem szOf_66 : szOf prog 66 = some (1) := by kernel_rfl
@[simp] theorem elT_66 : elT prog 66 = none := by kernel_rfl
@[simp] theorem aggT_66 : aggT prog 66 = some (false) := by kernel_rfl
@[simp] theorem intT_66 : intT prog 66 = none := by kernel_rfl
@[simp] theorem strT_66 : strT prog 66 = false := by kernel_rfl
@[simp] theorem boolT_66 : boolT prog 66 = false := by kernel_rfl
@[simp] theorem isStruct_66 : isStruct prog 66 = false := by kernel_rfl
@[simp] theorem infoT_66 : infoT prog 66 = some ((1, 16)) := by kernel_rfl
@[simp] theorem zeroT_66 : zeroT prog 66 = some (.nili) := by kernel_rfl
@[simp] theorem flatT_66 : flatT prog 66 = none := by kernel_rfl
@[simp] theorem kdT_66 : kdT prog 66 = some (.ifc) := by kernel_rfl
@[simp] theorem mapT_66 : mapT prog 66 = none := by kernel_rfl
@[simp] theorem bt_66 : bt prog 66 = none := by kernel_rfl
@[simp] theorem elU8_66 : elU8 prog 66 = false := by kernel_rfl
@[simp] theorem arT_66 : arT prog 66 = none := by kernel_rfl
@[simp] theorem concT_66 : concT prog 66 = false := by kernel_rfl
@[simp] theorem selfT_66 : selfT prog 66 = false := by kernel_rfl
@[simp] theorem szOf_67 : szOf prog 67 = some (1) := by kernel_rfl
@[simp] theorem elT_67 : elT prog 67 = none := by kernel_rfl
@[simp] theorem aggT_67 : aggT prog 67 = some (false) := by kernel_rfl
@[simp] theorem intT_67 : intT prog 67 = none := by kernel_rfl
@[simp] theorem strT_67 : strT prog 67 = false := by kernel_rfl
@[simp] theorem boolT_67 : boolT prog 67 = false := by kernel_rfl
@[simp] theorem isStruct_67 : isStruct prog 67 = false := by kernel_rfl
@[simp] theorem infoT_67 : infoT prog 67 = some ((1, 0)) := by kernel_rfl
@[simp] theorem zeroT_67 : zeroT prog 67 = none := by kernel_rfl
@[simp] theorem flatT_67 : flatT prog 67 = none := by kernel_rfl
@[simp] theorem kdT_67 : kdT prog 67 = none := by kernel_rfl
@[simp] theorem mapT_67 : mapT prog 67 = none := by kernel_rfl
@[simp] theorem bt_67 : bt prog 67 = none := by kernel_rfl
@[simp] theorem elU8_67 : elU8 prog 67 = false := by kernel_rfl
@[simp] theorem arT_67 : arT prog 67 = none := by kernel_rfl
@[simp] theorem concT_67 : concT prog 67 = true := by kernel_rfl
@[simp] theorem selfT_67 : selfT prog 67 = false := by kernel_rfl
@[simp] theorem szOf_68 : szOf prog 68 = some (1) := by kernel_rfl
@[simp] theorem elT_68 : elT prog 68 = none := by kernel_rfl
@[simp] theorem aggT_68 : aggT prog 68 = some (false) := by kernel_rfl
@[simp] theorem intT_68 : intT prog 68 = none := by kernel_rfl
@[simp] theorem strT_68 : strT prog 68 = false := by kernel_rfl
@[simp] theorem boolT_68 : boolT prog 68 = false := by kernel_rfl
@[simp] theorem isStruct_68 : isStruct prog 68 = false := by kernel_rfl
@[simp] theorem infoT_68 : infoT prog 68 = some ((1, 8)) := by kernel_rfl
@[simp] theorem zeroT_68 : zeroT prog 68 = some (.nilf) := by kernel_rfl
@[simp] theorem flatT_68 : flatT prog 68 = none := by kernel_rfl
@[simp] theorem kdT_68 : kdT prog 68 = some (.fn) := by kernel_rfl
@[simp] theorem mapT_68 : mapT prog 68 = none := by kernel_rfl
@[simp] theorem bt_68 : bt prog 68 = none := by kernel_rfl
@[simp] theorem elU8_68 : elU8 prog 68 = false := by kernel_rfl
@[simp] theorem arT_68 : arT prog 68 = none := by kernel_rfl
@[simp] theorem concT_68 : concT prog 68 = true := by kernel_rfl
@[simp] theorem selfT_68 : selfT prog 68 = false := by kernel_rfl
@[simp] theorem szOf_69 : szOf prog 69 = some (4) := by kernel_rfl
@[simp] theorem elT_69 : elT prog 69 = none := by kernel_rfl
@[simp] theorem aggT_69 : aggT prog 69 = some (true) := by kernel_rfl
@[simp] theorem intT_69 : intT prog 69 = none := by kernel_rfl
@[simp] theorem strT_69 : strT prog 69 = false := by kernel_rfl
@[simp] theorem boolT_69 : boolT prog 69 = false := by kernel_rfl
@[simp] theorem isStruct_69 : isStruct prog 69 = false := by kernel_rfl
@[simp] theorem infoT_69 : infoT prog 69 = some ((4, 64)) := by kernel_rfl
@[simp] theorem zeroT_69 : zeroT prog 69 = some (.agg ([.str (ByteArray.empty), .str (ByteArray.empty), .str (ByteArray.empty), .str (ByteArray.empty)])) := by kernel_rfl
@[simp] theorem flatT_69 : flatT prog 69 = none := by kernel_rfl
@[simp] theorem kdT_69 : kdT prog 69 = none := by kernel_rfl
@[simp] theorem mapT_69 : mapT prog 69 = none := by kernel_rfl
@[simp] theorem bt_69 : bt prog 69 = none := by kernel_rfl
@[simp] theorem elU8_69 : elU8 prog 69 = false := by kernel_rfl
@[simp] theorem arT_69 : arT prog 69 = some ((4, 9)) := by kernel_rfl
@[simp] theorem concT_69 : concT prog 69 = true := by kernel_rfl
@[simp] theorem selfT_69 : selfT prog 69 = false := by kernel_rfl
@[simp] theorem szOf_70 : szOf prog 70 = some (1) := by kernel_rfl
@[simp] theorem elT_70 : elT prog 70 = none := by kernel_rfl
@[simp] theorem aggT_70 : aggT prog 70 = some (false) := by kernel_rfl
@[simp] theorem intT_70 : intT prog 70 = none := by kernel_rfl
@[simp] theorem strT_70 : strT prog 70 = false := by kernel_rfl
@[simp] theorem boolT_70 : boolT prog 70 = false := by kernel_rfl
@[simp] theorem isStruct_70 : isStruct prog 70 = false := by kernel_rfl
@[simp] theorem infoT_70 : infoT prog 70 = some ((1, 8)) := by kernel_rfl
@[simp] theorem zeroT_70 : zeroT prog 70 = some (.nilp) := by kernel_rfl
@[simp] theorem flatT_70 : flatT prog 70 = none := by kernel_rfl
@[simp] theorem kdT_70 : kdT prog 70 = some (.ptr) := by kernel_rfl
@[simp] theorem mapT_70 : mapT prog 70 = none := by kernel_rfl
@[simp] theorem bt_70 : bt prog 70 = none := by kernel_rfl
@[simp] theorem elU8_70 : elU8 prog 70 = false := by kernel_rfl
@[simp] theorem arT_70 : arT prog 70 = none := by kernel_rfl
@[simp] theorem concT_70 : concT prog 70 = true := by kernel_rfl
@[simp] theorem selfT_70 : selfT prog 70 = false := by kernel_rfl
@[simp] theorem szOf_71 : szOf prog 71 = some (1) := by kernel_rfl
@[simp] theorem elT_71 : elT prog 71 = none := by kernel_rfl
@[simp] theorem aggT_71 : aggT prog 71 = some (false) := by kernel_rfl
@[simp] theorem intT_71 : intT prog 71 = none := by kernel_rfl
@[simp] theorem strT_71 : strT prog 71 = false := by kernel_rfl
@[simp] theorem boolT_71 : boolT prog 71 = false := by kernel_rfl
@[simp] theorem isStruct_71 : isStruct prog 71 = false := by kernel_rfl
@[simp] theorem infoT_71 : infoT prog 71 = some ((1, 8)) := by kernel_rfl
@[simp] theorem zeroT_71 : zeroT prog 71 = some (.nilf) := by kernel_rfl
@[simp] theorem flatT_71 : flatT prog 71 = none := by kernel_rfl
@[simp] theorem kdT_71 : kdT prog 71 = some (.fn) := by kernel_rfl
@[simp] theorem mapT_71 : mapT prog 71 = none := by kernel_rfl
@[simp] theorem bt_71 : bt prog 71 = none := by kernel_rfl
@[simp] theorem elU8_71 : elU8 prog 71 = false := by kernel_rfl
@[simp] theorem arT_71 : arT prog 71 = none := by kernel_rfl
@[simp] theorem concT_71 : concT prog 71 = true := by kernel_rfl
@[simp] theorem selfT_71 : selfT prog 71 = false := by kernel_rfl
@[simp] theorem szOf_72 : szOf prog 72 = some (3) := by kernel_rfl
@[simp] theorem elT_72 : elT prog 72 = none := by kernel_rfl
@[simp] theorem aggT_72 : aggT prog 72 = some (true) := by kernel_rfl
@[simp] theorem intT_72 : intT prog 72 = none := by kernel_rfl
@[simp] theorem strT_72 : strT prog 72 = false := by kernel_rfl
@[simp] theorem boolT_72 : boolT prog 72 = false := by kernel_rfl
@[simp] theorem isStruct_72 : isStruct prog 72 = true := by kernel_rfl
@[simp] theorem infoT_72 : infoT prog 72 = some ((3, 40)) := by kernel_rfl
@[simp] theorem zeroT_72 : zeroT prog 72 = some (.agg ([.int (.i64) (0), .str (ByteArray.empty), .str (ByteArray.empty)])) := by kernel_rfl
@[simp] theorem flatT_72 : flatT prog 72 = some ([.int, .str, .str]) := by kernel_rfl
@[simp] theorem kdT_72 : kdT prog 72 = none := by kernel_rfl
@[simp] theorem mapT_72 : mapT prog 72 = none := by kernel_rfl
@[simp] theorem bt_72 : bt prog 72 = none := by kernel_rfl
@[simp] theorem elU8_72 : elU8 prog 72 = false := by kernel_rfl
@[simp] theorem arT_72 : arT prog 72 = none := by kernel_rfl
@[simp] theorem concT_72 : concT prog 72 = true := by kernel_rfl
@[simp] theorem selfT_72 : selfT prog 72 = false := by kernel_rfl
@[simp] theorem fldT_72_0 : fldT prog 72 0 = some ((0, 3)) := by kernel_rfl
@[simp] theorem fldPl_72_0 : fldPl prog 72 0 = some ((0, 1)) := by kernel_rfl
@[simp] theorem fldT_72_1 : fldT prog 72 1 = some ((1, 9)) := by kernel_rfl
@[simp] theorem fldPl_72_1 : fldPl prog 72 1 = some ((1, 1)) := by kernel_rfl
@[simp] theorem fldT_72_2 : fldT prog 72 2 = some ((2, 9)) := by kernel_rfl
@[simp] theorem fldPl_72_2 : fldPl prog 72 2 = some ((2, 1)) := by kernel_rfl
@[simp] theorem szOf_73 : szOf prog 73 = some (3) := by kernel_rfl
@[simp] theorem elT_73 : elT prog 73 = none := by kernel_rfl
@[simp] theorem aggT_73 : aggT prog 73 = some (true) := by kernel_rfl
@[simp] theorem intT_73 : intT prog 73 = none := by kernel_rfl
@[simp] theorem strT_73 : strT prog 73 = false := by kernel_rfl
@[simp] theorem boolT_73 : boolT prog 73 = false := by kernel_rfl
@[simp] theorem isStruct_73 : isStruct prog 73 = true := by kernel_rfl
@[simp] theorem infoT_73 : infoT prog 73 = some ((3, 40)) := by kernel_rfl
@[simp] theorem zeroT_73 : zeroT prog 73 = some (.agg ([.int (.i64) (0), .str (ByteArray.empty), .str (ByteArray.empty)])) := by kernel_rfl
@[simp] theorem flatT_73 : flatT prog 73 = some ([.int, .str, .str]) := by kernel_rfl
@[simp] theorem kdT_73 : kdT prog 73 = none := by kernel_rfl
@[simp] theorem mapT_73 : mapT prog 73 = none := by kernel_rfl
@[simp] theorem bt_73 : bt prog 73 = none := by kernel_rfl
@[simp] theorem elU8_73 : elU8 prog 73 = false := by kernel_rfl
@[simp] theorem arT_73 : arT prog 73 = none := by kernel_rfl
@[simp] theorem concT_73 : concT prog 73 = true := by kernel_rfl
@[simp] theorem selfT_73 : selfT prog 73 = false := by kernel_rfl
@[simp] theorem fldT_73_0 : fldT prog 73 0 = some ((0, 3)) := by kernel_rfl
@[simp] theorem fldPl_73_0 : fldPl prog 73 0 = some ((0, 1)) := by kernel_rfl
@[simp] theorem fldT_73_1 : fldT prog 73 1 = some ((1, 9)) := by kernel_rfl
@[simp] theorem fldPl_73_1 : fldPl prog 73 1 = some ((1, 1)) := by kernel_rfl
@[simp] theorem fldT_73_2 : fldT prog 73 2 = some ((2, 9)) := by kernel_rfl
@[simp] theorem fldPl_73_2 : fldPl prog 73 2 = some ((2, 1)) := by kernel_rfl
@[simp] theorem szOf_74 : szOf prog 74 = some (3) := by kernel_rfl
@[simp] theorem elT_74 : elT prog 74 = none := by kernel_rfl
@[simp] theorem aggT_74 : aggT prog 74 = some (true) := by kernel_rfl
@[simp] theorem intT_74 : intT prog 74 = none := by kernel_rfl
@[simp] theorem strT_74 : strT prog 74 = false := by kernel_rfl
@[simp] theorem boolT_74 : boolT prog 74 = false := by kernel_rfl
@[simp] theorem isStruct_74 : isStruct prog 74 = true := by kernel_rfl
@[simp] theorem infoT_74 : infoT prog 74 = some ((3, 40)) := by kernel_rfl
@[simp] theorem zeroT_74 : zeroT prog 74 = some (.agg ([.int (.i64) (0), .str (ByteArray.empty), .str (ByteArray.empty)])) := by kernel_rfl
@[simp] theorem flatT_74 : flatT prog 74 = some ([.int, .str, .str]) := by kernel_rfl
@[simp] theorem kdT_74 : kdT prog 74 = none := by kernel_rfl
@[simp] theorem mapT_74 : mapT prog 74 = none := by kernel_rfl
@[simp] theorem bt_74 : bt prog 74 = none := by kernel_rfl
@[simp] theorem elU8_74 : elU8 prog 74 = false := by kernel_rfl
@[simp] theorem arT_74 : arT prog 74 = none := by kernel_rfl
@[simp] theorem concT_74 : concT prog 74 = true := by kernel_rfl
@[simp] theorem selfT_74 : selfT prog 74 = false := by kernel_rfl
@[simp] theorem fldT_74_0 : fldT prog 74 0 = some ((0, 3)) := by kernel_rfl
@[simp] theorem fldPl_74_0 : fldPl prog 74 0 = some ((0, 1)) := by kernel_rfl
@[simp] theorem fldT_74_1 : fldT prog 74 1 = some ((1, 9)) := by kernel_rfl
@[simp] theorem fldPl_74_1 : fldPl prog 74 1 = some ((1, 1)) := by kernel_rfl
@[simp] theorem fldT_74_2 : fldT prog 74 2 = some ((2, 9)) := by kernel_rfl
@[simp] theorem fldPl_74_2 : fldPl prog 74 2 = some ((2, 1)) := by kernel_rfl
@[simp] theorem szOf_75 : szOf prog 75 = some (1) := by kernel_rfl
@[simp] theorem elT_75 : elT prog 75 = none := by kernel_rfl
@[simp] theorem aggT_75 : aggT prog 75 = some (false) := by kernel_rfl
@[simp] theorem intT_75 : intT prog 75 = none := by kernel_rfl
@[simp] theorem strT_75 : strT prog 75 = false := by kernel_rfl
@[simp] theorem boolT_75 : boolT prog 75 = false := by kernel_rfl
@[simp] theorem isStruct_75 : isStruct prog 75 = false := by kernel_rfl
@[simp] theorem infoT_75 : infoT prog 75 = some ((1, 8)) := by kernel_rfl
@[simp] theorem zeroT_75 : zeroT prog 75 = some (.nilf) := by kernel_rfl
@[simp] theorem flatT_75 : flatT prog 75 = none := by kernel_rfl
@[simp] theorem kdT_75 : kdT prog 75 = some (.fn) := by kernel_rfl
@[simp] theorem mapT_75 : mapT prog 75 = none := by kernel_rfl
@[simp] theorem bt_75 : bt prog 75 = none := by kernel_rfl
@[simp] theorem elU8_75 : elU8 prog 75 = false := by kernel_rfl
@[simp] theorem arT_75 : arT prog 75 = none := by kernel_rfl
@[simp] theorem concT_75 : concT prog 75 = true := by kernel_rfl
@[simp] theorem selfT_75 : selfT prog 75 = false := by kernel_rfl
@[simp] theorem szOf_76 : szOf prog 76 = some (1) := by kernel_rfl
@[simp] theorem elT_76 : elT prog 76 = none := by kernel_rfl
@[simp] theorem aggT_76 : aggT prog 76 = some (false) := by kernel_rfl
@[simp] theorem intT_76 : intT prog 76 = none := by kernel_rfl
@[simp] theorem strT_76 : strT prog 76 = false := by kernel_rfl
@[simp] theorem boolT_76 : boolT prog 76 = false := by kernel_rfl
@[simp] theorem isStruct_76 : isStruct prog 76 = false := by kernel_rfl
@[simp] theorem infoT_76 : infoT prog 76 = some ((1, 8)) := by kernel_rfl
@[simp] theorem zeroT_76 : zeroT prog 76 = some (.nilf) := by kernel_rfl
@[simp] theorem flatT_76 : flatT prog 76 = none := by kernel_rfl
@[simp] theorem kdT_76 : kdT prog 76 = some (.fn) := by kernel_rfl
@[simp] theorem mapT_76 : mapT prog 76 = none := by kernel_rfl
@[simp] theorem bt_76 : bt prog 76 = none := by kernel_rfl
@[simp] theorem elU8_76 : elU8 prog 76 = false := by kernel_rfl
@[simp] theorem arT_76 : arT prog 76 = none := by kernel_rfl
@[simp] theorem concT_76 : concT prog 76 = true := by kernel_rfl
@[simp] theorem selfT_76 : selfT prog 76 = false := by kernel_rfl
@[simp] theorem szOf_77 : szOf prog 77 = some (1) := by kernel_rfl
@[simp] theorem elT_77 : elT prog 77 = none := by kernel_rfl
@[simp] theorem aggT_77 : aggT prog 77 = some (false) := by kernel_rfl
@[simp] theorem intT_77 : intT prog 77 = some (.u64) := by kernel_rfl
@[simp] theorem strT_77 : strT prog 77 = false := by kernel_rfl
@[simp] theorem boolT_77 : boolT prog 77 = false := by kernel_rfl
@[simp] theorem isStruct_77 : isStruct prog 77 = false := by kernel_rfl
@[simp] theorem infoT_77 : infoT prog 77 = some ((1, 8)) := by kernel_rfl
@[simp] theorem zeroT_77 : zeroT prog 77 = some (.int (.u64) (0)) := by kernel_rfl
@[simp] theorem flatT_77 : flatT prog 77 = none := by kernel_rfl
@[simp] theorem kdT_77 : kdT prog 77 = none := by kernel_rfl
@[simp] theorem mapT_77 : mapT prog 77 = none := by kernel_rfl
@[simp] theorem bt_77 : bt prog 77 = some (.int) := by kernel_rfl
@[simp] theorem elU8_77 : elU8 prog 77 = false := by kernel_rfl
@[simp] theorem arT_77 : arT prog 77 = none := by kernel_rfl
@[simp] theorem concT_77 : concT prog 77 = true := by kernel_rfl
@[simp] theorem selfT_77 : selfT prog 77 = false := by kernel_rfl
@[simp] theorem szOf_78 : szOf prog 78 = some (1) := by kernel_rfl
@[simp] theorem elT_78 : elT prog 78 = none := by kernel_rfl
@[simp] theorem aggT_78 : aggT prog 78 = some (false) := by kernel_rfl
@[simp] theorem intT_78 : intT prog 78 = none := by kernel_rfl
@[simp] theorem strT_78 : strT prog 78 = false := by kernel_rfl
@[simp] theorem boolT_78 : boolT prog 78 = false := by kernel_rfl
@[simp] theorem isStruct_78 : isStruct prog 78 = false := by kernel_rfl
@[simp] theorem infoT_78 : infoT prog 78 = some ((1, 8)) := by kernel_rfl
@[simp] theorem zeroT_78 : zeroT prog 78 = some (.nilp) := by kernel_rfl
@[simp] theorem flatT_78 : flatT prog 78 = none := by kernel_rfl
@[simp] theorem kdT_78 : kdT prog 78 = none := by kernel_rfl
@[simp] theorem mapT_78 : mapT prog 78 = none := by kernel_rfl
@[simp] theorem bt_78 : bt prog 78 = none := by kernel_rfl
@[simp] theorem elU8_78 : elU8 prog 78 = false := by kernel_rfl
@[simp] theorem arT_78 : arT prog 78 = none := by kernel_rfl
@[simp] theorem concT_78 : concT prog 78 = true := by kernel_rfl
@[simp] theorem selfT_78 : selfT prog 78 = false := by kernel_rfl
@[simp] theorem szOf_79 : szOf prog 79 = some (1) := by kernel_rfl
@[simp] theorem elT_79 : elT prog 79 = none := by kernel_rfl
@[simp] theorem aggT_79 : aggT prog 79 = some (false) := by kernel_rfl
@[simp] theorem intT_79 : intT prog 79 = none := by kernel_rfl
@[simp] theorem strT_79 : strT prog 79 = false := by kernel_rfl
@[simp] theorem boolT_79 : boolT prog 79 = false := by kernel_rfl
@[simp] theorem isStruct_79 : isStruct prog 79 = false := by kernel_rfl
@[simp] theorem infoT_79 : infoT prog 79 = some ((1, 8)) := by kernel_rfl
@[simp] theorem zeroT_79 : zeroT prog 79 = some (.nilf) := by kernel_rfl
@[simp] theorem flatT_79 : flatT prog 79 = none := by kernel_rfl
@[simp] theorem kdT_79 : kdT prog 79 = some (.fn) := by kernel_rfl
@[simp] theorem mapT_79 : mapT prog 79 = none := by kernel_rfl
@[simp] theorem bt_79 : bt prog 79 = none := by kernel_rfl
@[simp] theorem elU8_79 : elU8 prog 79 = false := by kernel_rfl
@[simp] theorem arT_79 : arT prog 79 = none := by kernel_rfl
@[simp] theorem concT_79 : concT prog 79 = true := by kernel_rfl
@[simp] theorem selfT_79 : selfT prog 79 = false := by kernel_rfl
@[simp] theorem szOf_80 : szOf prog 80 = some (1) := by kernel_rfl
@[simp] theorem elT_80 : elT prog 80 = none := by kernel_rfl
@[simp] theorem aggT_80 : aggT prog 80 = some (false) := by kernel_rfl
@[simp] theorem intT_80 : intT prog 80 = some (.u32) := by kernel_rfl
@[simp] theorem strT_80 : strT prog 80 = false := by kernel_rfl
@[simp] theorem boolT_80 : boolT prog 80 = false := by kernel_rfl
@[simp] theorem isStruct_80 : isStruct prog 80 = false := by kernel_rfl
@[simp] theorem infoT_80 : infoT prog 80 = some ((1, 4)) := by kernel_rfl
@[simp] theorem zeroT_80 : zeroT prog 80 = some (.int (.u32) (0)) := by kernel_rfl
@[simp] theorem flatT_80 : flatT prog 80 = none := by kernel_rfl
@[simp] theorem kdT_80 : kdT prog 80 = none := by kernel_rfl
@[simp] theorem mapT_80 : mapT prog 80 = none := by kernel_rfl
@[simp] theorem bt_80 : bt prog 80 = some (.int) := by kernel_rfl
@[simp] theorem elU8_80 : elU8 prog 80 = false := by kernel_rfl
@[simp] theorem arT_80 : arT prog 80 = none := by kernel_rfl
@[simp] theorem concT_80 : concT prog 80 = true := by kernel_rfl
@[simp] theorem selfT_80 : selfT prog 80 = false := by kernel_rfl
@[simp] theorem szOf_81 : szOf prog 81 = some (1) := by kernel_rfl
@[simp] theorem elT_81 : elT prog 81 = none := by kernel_rfl
@[simp] theorem aggT_81 : aggT prog 81 = some (false) := by kernel_rfl
@[simp] theorem intT_81 : intT prog 81 = none := by kernel_rfl
@[simp] theorem strT_81 : strT prog 81 = false := by kernel_rfl
@[simp] theorem boolT_81 : boolT prog 81 = false := by kernel_rfl
@[simp] theorem isStruct_81 : isStruct prog 81 = false := by kernel_rfl
@[simp] theorem infoT_81 : infoT prog 81 = some ((1, 0)) := by kernel_rfl
@[simp] theorem zeroT_81 : zeroT prog 81 = none := by kernel_rfl
@[simp] theorem flatT_81 : flatT prog 81 = none := by kernel_rfl
@[simp] theorem kdT_81 : kdT prog 81 = none := by kernel_rfl
@[simp] theorem mapT_81 : mapT prog 81 = none := by kernel_rfl
@[simp] theorem bt_81 : bt prog 81 = none := by kernel_rfl
@[simp] theorem elU8_81 : elU8 prog 81 = false := by kernel_rfl
@[simp] theorem arT_81 : arT prog 81 = none := by kernel_rfl
@[simp] theorem concT_81 : concT prog 81 = true := by kernel_rfl
@[simp] theorem selfT_81 : selfT prog 81 = false := by kernel_rfl
@[simp] theorem szOf_82 : szOf prog 82 = some (1) := by kernel_rfl
@[simp] theorem elT_82 : elT prog 82 = none := by kernel_rfl
@[simp] theorem aggT_82 : aggT prog 82 = some (false) := by kernel_rfl
@[simp] theorem intT_82 : intT prog 82 = none := by kernel_rfl
@[simp] theorem strT_82 : strT prog 82 = false := by kernel_rfl
@[simp] theorem boolT_82 : boolT prog 82 = false := by kernel_rfl
@[simp] theorem isStruct_82 : isStruct prog 82 = false := by kernel_rfl
@[simp] theorem infoT_82 : infoT prog 82 = some ((1, 8)) := by kernel_rfl
@[simp] theorem zeroT_82 : zeroT prog 82 = some (.nilf) := by kernel_rfl
@[simp] theorem flatT_82 : flatT prog 82 = none := by kernel_rfl
@[simp] theorem kdT_82 : kdT prog 82 = some (.fn) := by kernel_rfl
@[simp] theorem mapT_82 : mapT prog 82 = none := by kernel_rfl
@[simp] theorem bt_82 : bt prog 82 = none := by kernel_rfl
@[simp] theorem elU8_82 : elU8 prog 82 = false := by kernel_rfl
@[simp] theorem arT_82 : arT prog 82 = none := by kernel_rfl
@[simp] theorem concT_82 : concT prog 82 = true := by kernel_rfl
@[simp] theorem selfT_82 : selfT prog 82 = false := by kernel_rfl
@[simp] theorem szOf_83 : szOf prog 83 = some (1) := by kernel_rfl
@[simp] theorem elT_83 : elT prog 83 = none := by kernel_rfl
@[simp] theorem aggT_83 : aggT prog 83 = some (false) := by kernel_rfl
@[simp] theorem intT_83 : intT prog 83 = none := by kernel_rfl
@[simp] theorem strT_83 : strT prog 83 = false := by kernel_rfl
@[simp] theorem boolT_83 : boolT prog 83 = false := by kernel_rfl
@[simp] theorem isStruct_83 : isStruct prog 83 = false := by kernel_rfl
@[simp] theorem infoT_83 : infoT prog 83 = some ((1, 8)) := by kernel_rfl
@[simp] theorem zeroT_83 : zeroT prog 83 = some (.nilf) := by kernel_rfl
@[simp] theorem flatT_83 : flatT prog 83 = none := by kernel_rfl
@[simp] theorem kdT_83 : kdT prog 83 = some (.fn) := by kernel_rfl
@[simp] theorem mapT_83 : mapT prog 83 = none := by kernel_rfl
@[simp] theorem bt_83 : bt prog 83 = none := by kernel_rfl
@[simp] theorem elU8_83 : elU8 prog 83 = false := by kernel_rfl
@[simp] theorem arT_83 : arT prog 83 = none := by kernel_rfl
@[simp] theorem concT_83 : concT prog 83 = true := by kernel_rfl
@[simp] theorem selfT_83 : selfT prog 83 = false := by kernel_rfl
@[simp] theorem szOf_84 : szOf prog 84 = some (4) := by kernel_rfl
@[simp] theorem elT_84 : elT prog 84 = none := by kernel_rfl
@[simp] theorem aggT_84 : aggT prog 84 = some (true) := by kernel_rfl
@[simp] theorem intT_84 : intT prog 84 = none := by kernel_rfl
@[simp] theorem strT_84 : strT prog 84 = false := by kernel_rfl
@[simp] theorem boolT_84 : boolT prog 84 = false := by kernel_rfl
@[simp] theorem isStruct_84 : isStruct prog 84 = true := by kernel_rfl
@[simp] theorem infoT_84 : infoT prog 84 = some ((4, 40)) := by kernel_rfl
@[simp] theorem zeroT_84 : zeroT prog 84 = some (.agg ([.nilp, .nilp, .nilp, .str (ByteArray.empty)])) := by kernel_rfl
@[simp] theorem flatT_84 : flatT prog 84 = none := by kernel_rfl
@[simp] theorem kdT_84 : kdT prog 84 = none := by kernel_rfl
@[simp] theorem mapT_84 : mapT prog 84 = none := by kernel_rfl
@[simp] theorem bt_84 : bt prog 84 = none := by kernel_rfl
@[simp] theorem elU8_84 : elU8 prog 84 = false := by kernel_rfl
@[simp] theorem arT_84 : arT prog 84 = none := by kernel_rfl
@[simp] theorem concT_84 : concT prog 84 = true := by kernel_rfl
@[simp] theorem selfT_84 : selfT prog 84 = false := by kernel_rfl
@[simp] theorem fldT_84_0 : fldT prog 84 0 = some ((0, 17)) := by kernel_rfl
@[simp] theorem fldPl_84_0 : fldPl prog 84 0 = some ((0, 1)) := by kernel_rfl
@[simp] theorem fldT_84_1 : fldT prog 84 1 = some ((1, 17)) := by kernel_rfl
@[simp] theorem fldPl_84_1 : fldPl prog 84 1 = some ((1, 1)) := by kernel_rfl
@[simp] theorem fldT_84_2 : fldT prog 84 2 = some ((2, 17)) := by kernel_rfl
@[simp] theorem fldPl_84_2 : fldPl prog 84 2 = some ((2, 1)) := by kernel_rfl
@[simp] theorem fldT_84_3 : fldT prog 84 3 = some ((3, 9)) := by kernel_rfl
@[simp] theorem fldPl_84_3 : fldPl prog 84 3 = some ((3, 1)) := by kernel_rfl
@[simp] theorem szOf_85 : szOf prog 85 = some (4) := by kernel_rfl
@[simp] theorem elT_85 : elT prog 85 = none := by kernel_rfl
@[simp] theorem aggT_85 : aggT prog 85 = some (true) := by kernel_rfl
@[simp] theorem intT_85 : intT prog 85 = none := by kernel_rfl
@[simp] theorem strT_85 : strT prog 85 = false := by kernel_rfl
@[simp] theorem boolT_85 : boolT prog 85 = false := by kernel_rfl
@[simp] theorem isStruct_85 : isStruct prog 85 = true := by kernel_rfl
@[simp] theorem infoT_85 : infoT prog 85 = some ((4, 40)) := by kernel_rfl
@[simp] theorem zeroT_85 : zeroT prog 85 = some (.agg ([.nilp, .nilp, .nilp, .str (ByteArray.empty)])) := by kernel_rfl
@[simp] theorem flatT_85 : flatT prog 85 = none := by kernel_rfl
@[simp] theorem kdT_85 : kdT prog 85 = none := by kernel_rfl
@[simp] theorem mapT_85 : mapT prog 85 = none := by kernel_rfl
@[simp] theorem bt_85 : bt prog 85 = none := by kernel_rfl
@[simp] theorem elU8_85 : elU8 prog 85 = false := by kernel_rfl
@[simp] theorem arT_85 : arT prog 85 = none := by kernel_rfl
@[simp] theorem concT_85 : concT prog 85 = true := by kernel_rfl
@[simp] theorem selfT_85 : selfT prog 85 = false := by kernel_rfl
@[simp] theorem fldT_85_0 : fldT prog 85 0 = some ((0, 17)) := by kernel_rfl
@[simp] theorem fldPl_85_0 : fldPl prog 85 0 = some ((0, 1)) := by kernel_rfl
@[simp] theorem fldT_85_1 : fldT prog 85 1 = some ((1, 17)) := by kernel_rfl
@[simp] theorem fldPl_85_1 : fldPl prog 85 1 = some ((1, 1)) := by kernel_rfl
@[simp] theorem fldT_85_2 : fldT prog 85 2 = some ((2, 17)) := by kernel_rfl
@[simp] theorem fldPl_85_2 : fldPl prog 85 2 = some ((2, 1)) := by kernel_rfl
@[simp] theorem fldT_85_3 : fldT prog 85 3 = some ((3, 9)) := by kernel_rfl
@[simp] theorem fldPl_85_3 : fldPl prog 85 3 = some ((3, 1)) := by kernel_rfl
@[simp] theorem szOf_86 : szOf prog 86 = some (0) := by kernel_rfl
@[simp] theorem elT_86 : elT prog 86 = none := by kernel_rfl
@[simp] theorem aggT_86 : aggT prog 86 = some (true) := by kernel_rfl
@[simp] theorem intT_86 : intT prog 86 = none := by kernel_rfl
@[simp] theorem strT_86 : strT prog 86 = false := by kernel_rfl
@[simp] theorem boolT_86 : boolT prog 86 = false := by kernel_rfl
@[simp] theorem isStruct_86 : isStruct prog 86 = false := by kernel_rfl
@[simp] theorem infoT_86 : infoT prog 86 = some ((0, 0)) := by kernel_rfl
@[simp] theorem zeroT_86 : zeroT prog 86 = some (.agg ([])) := by kernel_rfl
@[simp] theorem flatT_86 : flatT prog 86 = none := by kernel_rfl
@[simp] theorem kdT_86 : kdT prog 86 = none := by kernel_rfl
@[simp] theorem mapT_86 : mapT prog 86 = none := by kernel_rfl
@[simp] theorem bt_86 : bt prog 86 = none := by kernel_rfl
@[simp] theorem elU8_86 : elU8 prog 86 = false := by kernel_rfl
@[simp] theorem arT_86 : arT prog 86 = some ((0, 16)) := by kernel_rfl
@[simp] theorem concT_86 : concT prog 86 = true := by kernel_rfl
@[simp] theorem selfT_86 : selfT prog 86 = false := by kernel_rfl
@[simp] theorem szOf_87 : szOf prog 87 = some (0) := by kernel_rfl
@[simp] theorem elT_87 : elT prog 87 = none := by kernel_rfl
@[simp] theorem aggT_87 : aggT prog 87 = some (true) := by kernel_rfl
@[simp] theorem intT_87 : intT prog 87 = none := by kernel_rfl
@[simp] theorem strT_87 : strT prog 87 = false := by kernel_rfl
@[simp] theorem boolT_87 : boolT prog 87 = false := by kernel_rfl
@[simp] theorem isStruct_87 : isStruct prog 87 = true := by kernel_rfl
@[simp] theorem infoT_87 : infoT prog 87 = some ((0, 0)) := by kernel_rfl
@[simp] theorem zeroT_87 : zeroT prog 87 = some (.agg ([])) := by kernel_rfl
@[simp] theorem flatT_87 : flatT prog 87 = none := by kernel_rfl
@[simp] theorem kdT_87 : kdT prog 87 = none := by kernel_rfl
@[simp] theorem mapT_87 : mapT prog 87 = none := by kernel_rfl
@[simp] theorem bt_87 : bt prog 87 = none := by kernel_rfl
@[simp] theorem elU8_87 : elU8 prog 87 = false := by kernel_rfl
@[simp] theorem arT_87 : arT prog 87 = none := by kernel_rfl
@[simp] theorem concT_87 : concT prog 87 = true := by kernel_rfl
@[simp] theorem selfT_87 : selfT prog 87 = false := by kernel_rfl
@[simp] theorem fldT_87_0 : fldT prog 87 0 = some ((0, 86)) := by kernel_rfl
@[simp] theorem fldPl_87_0 : fldPl prog 87 0 = some ((0, 0)) := by kernel_rfl
@[simp] theorem szOf_88 : szOf prog 88 = some (0) := by kernel_rfl
@[simp] theorem elT_88 : elT prog 88 = none := by kernel_rfl
@[simp] theorem aggT_88 : aggT prog 88 = some (true) := by kernel_rfl
@[simp] theorem intT_88 : intT prog 88 = none := by kernel_rfl
@[simp] theorem strT_88 : strT prog 88 = false := by kernel_rfl
@[simp] theorem boolT_88 : boolT prog 88 = false := by kernel_rfl
@[simp] theorem isStruct_88 : isStruct prog 88 = true := by kernel_rfl
@[simp] theorem infoT_88 : infoT prog 88 = some ((0, 0)) := by kernel_rfl
@[simp] theorem zeroT_88 : zeroT prog 88 = some (.agg ([])) := by kernel_rfl
@[simp] theorem flatT_88 : flatT prog 88 = none := by kernel_rfl
@[simp] theorem kdT_88 : kdT prog 88 = none := by kernel_rfl
@[simp] theorem mapT_88 : mapT prog 88 = none := by kernel_rfl
@[simp] theorem bt_88 : bt prog 88 = none := by kernel_rfl
@[simp] theorem elU8_88 : elU8 prog 88 = false := by kernel_rfl
@[simp] theorem arT_88 : arT prog 88 = none := by kernel_rfl
@[simp] theorem concT_88 : concT prog 88 = true := by kernel_rfl
@[simp] theorem selfT_88 : selfT prog 88 = false := by kernel_rfl
@[simp] theorem fldT_88_0 : fldT prog 88 0 = some ((0, 86)) := by kernel_rfl
@[simp] theorem fldPl_88_0 : fldPl prog 88 0 = some ((0, 0)) := by kernel_rfl
@[simp] theorem szOf_89 : szOf prog 89 = some (1) := by kernel_rfl
@[simp] theorem elT_89 : elT prog 89 = none := by kernel_rfl
@[simp] theorem aggT_89 : aggT prog 89 = some (false) := by kernel_rfl
@[simp] theorem intT_89 : intT prog 89 = none := by kernel_rfl
@[simp] theorem strT_89 : strT prog 89 = false := by kernel_rfl
@[simp] theorem boolT_89 : boolT prog 89 = false := by kernel_rfl
@[simp] theorem isStruct_89 : isStruct prog 89 = false := by kernel_rfl
@[simp] theorem infoT_89 : infoT prog 89 = some ((1, 8)) := by kernel_rfl
@[simp] theorem zeroT_89 : zeroT prog 89 = some (.nilf) := by kernel_rfl
@[simp] theorem flatT_89 : flatT prog 89 = none := by kernel_rfl
@[simp] theorem kdT_89 : kdT prog 89 = some (.fn) := by kernel_rfl
@[simp] theorem mapT_89 : mapT prog 89 = none := by kernel_rfl
@[simp] theorem bt_89 : bt prog 89 = none := by kernel_rfl
@[simp] theorem elU8_89 : elU8 prog 89 = false := by kernel_rfl
@[simp] theorem arT_89 : arT prog 89 = none := by kernel_rfl
@[simp] theorem concT_89 : concT prog 89 = true := by kernel_rfl
@[simp] theorem selfT_89 : selfT prog 89 = false := by kernel_rfl
@[simp] theorem szOf_90 : szOf prog 90 = some (1) := by kernel_rfl
@[simp] theorem elT_90 : elT prog 90 = none := by kernel_rfl
@[simp] theorem aggT_90 : aggT prog 90 = some (false) := by kernel_rfl
@[simp] theorem intT_90 : intT prog 90 = some (.u8) := by kernel_rfl
@[simp] theorem strT_90 : strT prog 90 = false := by kernel_rfl
@[simp] theorem boolT_90 : boolT prog 90 = false := by kernel_rfl
@[simp] theorem isStruct_90 : isStruct prog 90 = false := by kernel_rfl
@[simp] theorem infoT_90 : infoT prog 90 = some ((1, 1)) := by kernel_rfl
@[simp] theorem zeroT_90 : zeroT prog 90 = some (.int (.u8) (0)) := by kernel_rfl
@[simp] theorem flatT_90 : flatT prog 90 = none := by kernel_rfl
@[simp] theorem kdT_90 : kdT prog 90 = none := by kernel_rfl
@[simp] theorem mapT_90 : mapT prog 90 = none := by kernel_rfl
@[simp] theorem bt_90 : bt prog 90 = some (.int) := by kernel_rfl
@[simp] theorem elU8_90 : elU8 prog 90 = false := by kernel_rfl
@[simp] theorem arT_90 : arT prog 90 = none := by kernel_rfl
@[simp] theorem concT_90 : concT prog 90 = true := by kernel_rfl
@[simp] theorem selfT_90 : selfT prog 90 = false := by kernel_rfl
@[simp] theorem szOf_91 : szOf prog 91 = some (1) := by kernel_rfl
@[simp] theorem elT_91 : elT prog 91 = none := by kernel_rfl
@[simp] theorem aggT_91 : aggT prog 91 = some (false) := by kernel_rfl
@[simp] theorem intT_91 : intT prog 91 = some (.u8) := by kernel_rfl
@[simp] theorem strT_91 : strT prog 91 = false := by kernel_rfl
@[simp] theorem boolT_91 : boolT prog 91 = false := by kernel_rfl
@[simp] theorem isStruct_91 : isStruct prog 91 = false := by kernel_rfl
@[simp] theorem infoT_91 : infoT prog 91 = some ((1, 1)) := by kernel_rfl
@[simp] theorem zeroT_91 : zeroT prog 91 = some (.int (.u8) (0)) := by kernel_rfl
@[simp] theorem flatT_91 : flatT prog 91 = none := by kernel_rfl
@[simp] theorem kdT_91 : kdT prog 91 = none := by kernel_rfl
@[simp] theorem mapT_91 : mapT prog 91 = none := by kernel_rfl
@[simp] theorem bt_91 : bt prog 91 = some (.int) := by kernel_rfl
@[simp] theorem elU8_91 : elU8 prog 91 = false := by kernel_rfl
@[simp] theorem arT_91 : arT prog 91 = none := by kernel_rfl
@[simp] theorem concT_91 : concT prog 91 = true := by kernel_rfl
@[simp] theorem selfT_91 : selfT prog 91 = false := by kernel_rfl
@[simp] theorem szOf_92 : szOf prog 92 = some (1) := by kernel_rfl
@[simp] theorem elT_92 : elT prog 92 = none := by kernel_rfl
@[simp] theorem aggT_92 : aggT prog 92 = some (false) := by kernel_rfl
@[simp] theorem intT_92 : intT prog 92 = none := by kernel_rfl
@[simp] theorem strT_92 : strT prog 92 = false := by kernel_rfl
@[simp] theorem boolT_92 : boolT prog 92 = false := by kernel_rfl
@[simp] theorem isStruct_92 : isStruct prog 92 = false := by kernel_rfl
@[simp] theorem infoT_92 : infoT prog 92 = some ((1, 8)) := by kernel_rfl
@[simp] theorem zeroT_92 : zeroT prog 92 = some (.nilf) := by kernel_rfl
@[simp] theorem flatT_92 : flatT prog 92 = none := by kernel_rfl
@[simp] theorem kdT_92 : kdT prog 92 = some (.fn) := by kernel_rfl
@[simp] theorem mapT_92 : mapT prog 92 = none := by kernel_rfl
@[simp] theorem bt_92 : bt prog 92 = none := by kernel_rfl
@[simp] theorem elU8_92 : elU8 prog 92 = false := by kernel_rfl
@[simp] theorem arT_92 : arT prog 92 = none := by kernel_rfl
@[simp] theorem concT_92 : concT prog 92 = true := by kernel_rfl
@[simp] theorem selfT_92 : selfT prog 92 = false := by kernel_rfl
@[simp] theorem szOf_93 : szOf prog 93 = some (1) := by kernel_rfl
@[simp] theorem elT_93 : elT prog 93 = none := by kernel_rfl
@[simp] theorem aggT_93 : aggT prog 93 = some (false) := by kernel_rfl
@[simp] theorem intT_93 : intT prog 93 = some (.i32) := by kernel_rfl
@[simp] theorem strT_93 : strT prog 93 = false := by kernel_rfl
@[simp] theorem boolT_93 : boolT prog 93 = false := by kernel_rfl
@[simp] theorem isStruct_93 : isStruct prog 93 = false := by kernel_rfl
@[simp] theorem infoT_93 : infoT prog 93 = some ((1, 4)) := by kernel_rfl
@[simp] theorem zeroT_93 : zeroT prog 93 = some (.int (.i32) (0)) := by kernel_rfl
@[simp] theorem flatT_93 : flatT prog 93 = none := by kernel_rfl
@[simp] theorem kdT_93 : kdT prog 93 = none := by kernel_rfl
@[simp] theorem mapT_93 : mapT prog 93 = none := by kernel_rfl
@[simp] theorem bt_93 : bt prog 93 = some (.int) := by kernel_rfl
@[simp] theorem elU8_93 : elU8 prog 93 = false := by kernel_rfl
@[simp] theorem arT_93 : arT prog 93 = none := by kernel_rfl
@[simp] theorem concT_93 : concT prog 93 = true := by kernel_rfl
@[simp] theorem selfT_93 : selfT prog 93 = false := by kernel_rfl
@[simp] theorem szOf_94 : szOf prog 94 = some (1) := by kernel_rfl
@[simp] theorem elT_94 : elT prog 94 = none := by kernel_rfl
@[simp] theorem aggT_94 : aggT prog 94 = some (false) := by kernel_rfl
@[simp] theorem intT_94 : intT prog 94 = some (.i32) := by kernel_rfl
@[simp] theorem strT_94 : strT prog 94 = false := by kernel_rfl
@[simp] theorem boolT_94 : boolT prog 94 = false := by kernel_rfl
@[simp] theorem isStruct_94 : isStruct prog 94 = false := by kernel_rfl
@[simp] theorem infoT_94 : infoT prog 94 = some ((1, 4)) := by kernel_rfl
@[simp] theorem zeroT_94 : zeroT prog 94 = some (.int (.i32) (0)) := by kernel_rfl
@[simp] theorem flatT_94 : flatT prog 94 = none := by kernel_rfl
@[simp] theorem kdT_94 : kdT prog 94 = none := by kernel_rfl
@[simp] theorem mapT_94 : mapT prog 94 = none := by kernel_rfl
@[simp] theorem bt_94 : bt prog 94 = some (.int) := by kernel_rfl
@[simp] theorem elU8_94 : elU8 prog 94 = false := by kernel_rfl
@[simp] theorem arT_94 : arT prog 94 = none := by kernel_rfl
@[simp] theorem concT_94 : concT prog 94 = true := by kernel_rfl
@[simp] theorem selfT_94 : selfT prog 94 = false := by kernel_rfl
@[simp] theorem szOf_95 : szOf prog 95 = some (11) := by kernel_rfl
@[simp] theorem elT_95 : elT prog 95 = none := by kernel_rfl
@[simp] theorem aggT_95 : aggT prog 95 = some (true) := by kernel_rfl
@[simp] theorem intT_95 : intT prog 95 = none := by kernel_rfl
@[simp] theorem strT_95 : strT prog 95 = false := by kernel_rfl
@[simp] theorem boolT_95 : boolT prog 95 = false := by kernel_rfl
@[simp] theorem isStruct_95 : isStruct prog 95 = true := by kernel_rfl
@[simp] theorem infoT_95 : infoT prog 95 = some ((11, 48)) := by kernel_rfl
@[simp] theorem zeroT_95 : zeroT prog 95 = some (.agg ([.int (.u64) (0), .int (.u64) (0), .int (.u32) (0), .int (.u8) (0), .int (.u8) (0), .int (.u8) (0), .int (.u8) (0), .nilf, .nilp, .int (.i32) (0), .int (.i32) (0)])) := by kernel_rfl
@[simp] theorem flatT_95 : flatT prog 95 = none := by kernel_rfl
@[simp] theorem kdT_95 : kdT prog 95 = none := by kernel_rfl
@[simp] theorem mapT_95 : mapT prog 95 = none := by kernel_rfl
@[simp] theorem bt_95 : bt prog 95 = none := by kernel_rfl
@[simp] theorem elU8_95 : elU8 prog 95 = false := by kernel_rfl
@[simp] theorem arT_95 : arT prog 95 = none := by kernel_rfl
@[simp] theorem concT_95 : concT prog 95 = true := by kernel_rfl
@[simp] theorem selfT_95 : selfT prog 95 = false := by kernel_rfl
@[simp] theorem fldT_95_0 : fldT prog 95 0 = some ((0, 12)) := by kernel_rfl
@[simp] theorem fldPl_95_0 : fldPl prog 95 0 = some ((0, 1)) := by kernel_rfl
@[simp] theorem fldT_95_1 : fldT prog 95 1 = some ((1, 12)) := by kernel_rfl
@[simp] theorem fldPl_95_1 : fldPl prog 95 1 = some ((1, 1)) := by kernel_rfl
@[simp] theorem fldT_95_2 : fldT prog 95 2 = some ((2, 80)) := by kernel_rfl
@[simp] theorem fldPl_95_2 : fldPl prog 95 2 = some ((2, 1)) := by kernel_rfl
@[simp] theorem fldT_95_3 : fldT prog 95 3 = some ((3, 90)) := by kernel_rfl
@[simp] theorem fldPl_95_3 : fldPl prog 95 3 = some ((3, 1)) := by kernel_rfl
@[simp] theorem fldT_95_4 : fldT prog 95 4 = some ((4, 5)) := by kernel_rfl
@[simp] theorem fldPl_95_4 : fldPl prog 95 4 = some ((4, 1)) := by kernel_rfl
@[simp] theorem fldT_95_5 : fldT prog 95 5 = some ((5, 5)) := by kernel_rfl
@[simp] theorem fldPl_95_5 : fldPl prog 95 5 = some ((5, 1)) := by kernel_rfl
@[simp] theorem fldT_95_6 : fldT prog 95 6 = some ((6, 91)) := by kernel_rfl
@[simp] theorem fldPl_95_6 : fldPl prog 95 6 = some ((6, 1)) := by kernel_rfl
@[simp] theorem fldT_95_7 : fldT prog 95 7 = some ((7, 92)) := by kernel_rfl
@[simp] theorem fldPl_95_7 : fldPl prog 95 7 = some ((7, 1)) := by kernel_rfl
@[simp] theorem fldT_95_8 : fldT prog 95 8 = some ((8, 70)) := by kernel_rfl
@[simp] theorem fldPl_95_8 : fldPl prog 95 8 = some ((8, 1)) := by kernel_rfl
@[simp] theorem fldT_95_9 : fldT prog 95 9 = some ((9, 93)) := by kernel_rfl
@[simp] theorem fldPl_95_9 : fldPl prog 95 9 = some ((9, 1)) := by kernel_rfl
@[simp] theorem fldT_95_10 : fldT prog 95 10 = some ((10, 94)) := by kernel_rfl
@[simp] theorem fldPl_95_10 : fldPl prog 95 10 = some ((10, 1)) := by kernel_rfl
@[simp] theorem szOf_96 : szOf prog 96 = some (11) := by kernel_rfl
@[simp] theorem elT_96 : elT prog 96 = none := by kernel_rfl
@[simp] theorem aggT_96 : aggT prog 96 = some (true) := by kernel_rfl
@[simp] theorem intT_96 : intT prog 96 = none := by kernel_rfl
@[simp] theorem strT_96 : strT prog 96 = false := by kernel_rfl
@[simp] theorem boolT_96 : boolT prog 96 = false := by kernel_rfl
@[simp] theorem isStruct_96 : isStruct prog 96 = true := by kernel_rfl
@[simp] theorem infoT_96 : infoT prog 96 = some ((11, 48)) := by kernel_rfl
@[simp] theorem zeroT_96 : zeroT prog 96 = some (.agg ([.int (.u64) (0), .int (.u64) (0), .int (.u32) (0), .int (.u8) (0), .int (.u8) (0), .int (.u8) (0), .int (.u8) (0), .nilf, .nilp, .int (.i32) (0), .int (.i32) (0)])) := by kernel_rfl
@[simp] theorem flatT_96 : flatT prog 96 = none := by kernel_rfl
@[simp] theorem kdT_96 : kdT prog 96 = none := by kernel_rfl
@[simp] theorem mapT_96 : mapT prog 96 = none := by kernel_rfl
@[simp] theorem bt_96 : bt prog 96 = none := by kernel_rfl
@[simp] theorem elU8_96 : elU8 prog 96 = false := by kernel_rfl
@[simp] theorem arT_96 : arT prog 96 = none := by kernel_rfl
@[simp] theorem concT_96 : concT prog 96 = true := by kernel_rfl
@[simp] theorem selfT_96 : selfT prog 96 = false := by kernel_rfl
@[simp] theorem fldT_96_0 : fldT prog 96 0 = some ((0, 12)) := by kernel_rfl
@[simp] theorem fldPl_96_0 : fldPl prog 96 0 = some ((0, 1)) := by kernel_rfl
@[simp] theorem fldT_96_1 : fldT prog 96 1 = some ((1, 12)) := by kernel_rfl
@[simp] theorem fldPl_96_1 : fldPl prog 96 1 = some ((1, 1)) := by kernel_rfl
@[simp] theorem fldT_96_2 : fldT prog 96 2 = some ((2, 80)) := by kernel_rfl
@[simp] theorem fldPl_96_2 : fldPl prog 96 2 = some ((2, 1)) := by kernel_rfl
@[simp] theorem fldT_96_3 : fldT prog 96 3 = some ((3, 90)) := by kernel_rfl
@[simp] theorem fldPl_96_3 : fldPl prog 96 3 = some ((3, 1)) := by kernel_rfl
@[simp] theorem fldT_96_4 : fldT prog 96 4 = some ((4, 5)) := by kernel_rfl
@[simp] theorem fldPl_96_4 : fldPl prog 96 4 = some ((4, 1)) := by kernel_rfl
@[simp] theorem fldT_96_5 : fldT prog 96 5 = some ((5, 5)) := by kernel_rfl
@[simp] theorem fldPl_96_5 : fldPl prog 96 5 = some ((5, 1)) := by kernel_rfl
@[simp] theorem fldT_96_6 : fldT prog 96 6 = some ((6, 91)) := by kernel_rfl
@[simp] theorem fldPl_96_6 : fldPl prog 96 6 = some ((6, 1)) := by kernel_rfl
@[simp] theorem fldT_96_7 : fldT prog 96 7 = some ((7, 92)) := by kernel_rfl
@[simp] theorem fldPl_96_7 : fldPl prog 96 7 = some ((7, 1)) := by kernel_rfl
@[simp] theorem fldT_96_8 : fldT prog 96 8 = some ((8, 70)) := by kernel_rfl
@[simp] theorem fldPl_96_8 : fldPl prog 96 8 = some ((8, 1)) := by kernel_rfl
@[simp] theorem fldT_96_9 : fldT prog 96 9 = some ((9, 93)) := by kernel_rfl
@[simp] theorem fldPl_96_9 : fldPl prog 96 9 = some ((9, 1)) := by kernel_rfl
@[simp] theorem fldT_96_10 : fldT prog 96 10 = some ((10, 94)) := by kernel_rfl
@[simp] theorem fldPl_96_10 : fldPl prog 96 10 = some ((10, 1)) := by kernel_rfl
@[simp] theorem szOf_97 : szOf prog 97 = some (1) := by kernel_rfl
@[simp] theorem elT_97 : elT prog 97 = none := by kernel_rfl
@[simp] theorem aggT_97 : aggT prog 97 = some (false) := by kernel_rfl
@[simp] theorem intT_97 : intT prog 97 = none := by kernel_rfl
@[simp] theorem strT_97 : strT prog 97 = false := by kernel_rfl
@[simp] theorem boolT_97 : boolT prog 97 = false := by kernel_rfl
@[simp] theorem isStruct_97 : isStruct prog 97 = false := by kernel_rfl
@[simp] theorem infoT_97 : infoT prog 97 = some ((1, 8)) := by kernel_rfl
@[simp] theorem zeroT_97 : zeroT prog 97 = some (.nilf) := by kernel_rfl
@[simp] theorem flatT_97 : flatT prog 97 = none := by kernel_rfl
@[simp] theorem kdT_97 : kdT prog 97 = some (.fn) := by kernel_rfl
@[simp] theorem mapT_97 : mapT prog 97 = none := by kernel_rfl
@[simp] theorem bt_97 : bt prog 97 = none := by kernel_rfl
@[simp] theorem elU8_97 : elU8 prog 97 = false := by kernel_rfl
@[simp] theorem arT_97 : arT prog 97 = none := by kernel_rfl
@[simp] theorem concT_97 : concT prog 97 = true := by kernel_rfl
@[simp] theorem selfT_97 : selfT prog 97 = false := by kernel_rfl
@[simp] theorem szOf_98 : szOf prog 98 = some (1) := by kernel_rfl
@[simp] theorem elT_98 : elT prog 98 = none := by kernel_rfl
@[simp] theorem aggT_98 : aggT prog 98 = some (false) := by kernel_rfl
@[simp] theorem intT_98 : intT prog 98 = none := by kernel_rfl
@[simp] theorem strT_98 : strT prog 98 = false := by kernel_rfl
@[simp] theorem boolT_98 : boolT prog 98 = false := by kernel_rfl
@[simp] theorem isStruct_98 : isStruct prog 98 = false := by kernel_rfl
@[simp] theorem infoT_98 : infoT prog 98 = some ((1, 8)) := by kernel_rfl
@[simp] theorem zeroT_98 : zeroT prog 98 = some (.nilf) := by kernel_rfl
@[simp] theorem flatT_98 : flatT prog 98 = none := by kernel_rfl
@[simp] theorem kdT_98 : kdT prog 98 = some (.fn) := by kernel_rfl
@[simp] theorem mapT_98 : mapT prog 98 = none := by kernel_rfl
@[simp] theorem bt_98 : bt prog 98 = none := by kernel_rfl
@[simp] theorem elU8_98 : elU8 prog 98 = false := by kernel_rfl
@[simp] theorem arT_98 : arT prog 98 = none := by kernel_rfl
@[simp] theorem concT_98 : concT prog 98 = true := by kernel_rfl
@[simp] theorem selfT_98 : selfT prog 98 = false := by kernel_rfl
@[simp] theorem szOf_99 : szOf prog 99 = some (1) := by kernel_rfl
@[simp] theorem elT_99 : elT prog 99 = none := by kernel_rfl
@[simp] theorem aggT_99 : aggT prog 99 = some (false) := by kernel_rfl
@[simp] theorem intT_99 : intT prog 99 = none := by kernel_rfl
@[simp] theorem strT_99 : strT prog 99 = false := by kernel_rfl
@[simp] theorem boolT_99 : boolT prog 99 = false := by kernel_rfl
@[simp] theorem isStruct_99 : isStruct prog 99 = false := by kernel_rfl
@[simp] theorem infoT_99 : infoT prog 99 = some ((1, 8)) := by kernel_rfl
@[simp] theorem zeroT_99 : zeroT prog 99 = some (.nilf) := by kernel_rfl
@[simp] theorem flatT_99 : flatT prog 99 = none := by kernel_rfl
@[simp] theorem kdT_99 : kdT prog 99 = some (.fn) := by kernel_rfl
@[simp] theorem mapT_99 : mapT prog 99 = none := by kernel_rfl
@[simp] theorem bt_99 : bt prog 99 = none := by kernel_rfl
@[simp] theorem elU8_99 : elU8 prog 99 = false := by kernel_rfl
@[simp] theorem arT_99 : arT prog 99 = none := by kernel_rfl
@[simp] theorem concT_99 : concT prog 99 = true := by kernel_rfl
@[simp] theorem selfT_99 : selfT prog 99 = false := by kernel_rfl
@[simp] theorem szOf_100 : szOf prog 100 = some (1) := by kernel_rfl
@[simp] theorem elT_100 : elT prog 100 = some (103) := by kernel_rfl
@[simp] theorem aggT_100 : aggT prog 100 = some (false) := by kernel_rfl
@[simp] theorem intT_100 : intT prog 100 = none := by kernel_rfl
@[simp] theorem strT_100 : strT prog 100 = false := by kernel_rfl
@[simp] theorem boolT_100 : boolT prog 100 = false := by kernel_rfl
@[simp] theorem isStruct_100 : isStruct prog 100 = false := by kernel_rfl
@[simp] theorem infoT_100 : infoT prog 100 = some ((1, 24)) := by kernel_rfl
@[simp] theorem zeroT_100 : zeroT prog 100 = some (.sl (1) ([])) := by kernel_rfl
@[simp] theorem flatT_100 : flatT prog 100 = none := by kernel_rfl
@[simp] theorem kdT_100 : kdT prog 100 = some (.sl) := by kernel_rfl
@[simp] theorem mapT_100 : mapT prog 100 = none := by kernel_rfl
@[simp] theorem bt_100 : bt prog 100 = none := by kernel_rfl
@[simp] theorem elU8_100 : elU8 prog 100 = false := by kernel_rfl
@[simp] theorem arT_100 : arT prog 100 = none := by kernel_rfl
@[simp] theorem concT_100 : concT prog 100 = true := by kernel_rfl
@[simp] theorem selfT_100 : selfT prog 100 = false := by kernel_rfl
@[simp] theorem szOf_101 : szOf prog 101 = some (1) := by kernel_rfl
@[simp] theorem elT_101 : elT prog 101 = none := by kernel_rfl
@[simp] theorem aggT_101 : aggT prog 101 = some (false) := by kernel_rfl
@[simp] theorem intT_101 : intT prog 101 = some (.i64) := by kernel_rfl
@[simp] theorem strT_101 : strT prog 101 = false := by kernel_rfl
@[simp] theorem boolT_101 : boolT prog 101 = false := by kernel_rfl
@[simp] theorem isStruct_101 : isStruct prog 101 = false := by kernel_rfl
@[simp] theorem infoT_101 : infoT prog 101 = some ((1, 8)) := by kernel_rfl
@[simp] theorem zeroT_101 : zeroT prog 101 = some (.int (.i64) (0)) := by kernel_rfl
@[simp] theorem flatT_101 : flatT prog 101 = none := by kernel_rfl
@[simp] theorem kdT_101 : kdT prog 101 = none := by kernel_rfl
@[simp] theorem mapT_101 : mapT prog 101 = none := by kernel_rfl
@[simp] theorem bt_101 : bt prog 101 = some (.int) := by kernel_rfl
@[simp] theorem elU8_101 : elU8 prog 101 = false := by kernel_rfl
@[simp] theorem arT_101 : arT prog 101 = none := by kernel_rfl
@[simp] theorem concT_101 : concT prog 101 = true := by kernel_rfl
@[simp] theorem selfT_101 : selfT prog 101 = false := by kernel_rfl
@[simp] theorem szOf_102 : szOf prog 102 = some (2) := by kernel_rfl
@[simp] theorem elT_102 : elT prog 102 = none := by kernel_rfl
@[simp] theorem aggT_102 : aggT prog 102 = some (true) := by kernel_rfl
@[simp] theorem intT_102 : intT prog 102 = none := by kernel_rfl
@[simp] theorem strT_102 : strT prog 102 = false := by kernel_rfl
@[simp] theorem boolT_102 : boolT prog 102 = false := by kernel_rfl
@[simp] theorem isStruct_102 : isStruct prog 102 = true := by kernel_rfl
@[simp] theorem infoT_102 : infoT prog 102 = some ((2, 32)) := by kernel_rfl
@[simp] theorem zeroT_102 : zeroT prog 102 = some (.agg ([.str (ByteArray.empty), .str (ByteArray.empty)])) := by kernel_rfl
@[simp] theorem flatT_102 : flatT prog 102 = some ([.str, .str]) := by kernel_rfl
@[simp] theorem kdT_102 : kdT prog 102 = none := by kernel_rfl
@[simp] theorem mapT_102 : mapT prog 102 = none := by kernel_rfl
@[simp] theorem bt_102 : bt prog 102 = none := by kernel_rfl
@[simp] theorem elU8_102 : elU8 prog 102 = false := by kernel_rfl
@[simp] theorem arT_102 : arT prog 102 = none := by kernel_rfl
@[simp] theorem concT_102 : concT prog 102 = true := by kernel_rfl
@[simp] theorem selfT_102 : selfT prog 102 = false := by kernel_rfl
@[simp] theorem fldT_102_0 : fldT prog 102 0 = some ((0, 9)) := by kernel_rfl
@[simp] theorem fldPl_102_0 : fldPl prog 102 0 = some ((0, 1)) := by kernel_rfl
@[simp] theorem fldT_102_1 : fldT prog 102 1 = some ((1, 9)) := by kernel_rfl
@[simp] theorem fldPl_102_1 : fldPl prog 102 1 = some ((1, 1)) := by kernel_rfl
@[simp] theorem szOf_103 : szOf prog 103 = some (2) := by kernel_rfl
@[simp] theorem elT_103 : elT prog 103 = none := by kernel_rfl
@[simp] theorem aggT_103 : aggT prog 103 = some (true) := by kernel_rfl
@[simp] theorem intT_103 : intT prog 103 = none := by kernel_rfl
@[simp] theorem strT_103 : strT prog 103 = false := by kernel_rfl
@[simp] theorem boolT_103 : boolT prog 103 = false := by kernel_rfl
@[simp] theorem isStruct_103 : isStruct prog 103 = true := by kernel_rfl
@[simp] theorem infoT_103 : infoT prog 103 = some ((2, 32)) := by kernel_rfl
@[simp] theorem zeroT_103 : zeroT prog 103 = some (.agg ([.str (ByteArray.empty), .str (ByteArray.empty)])) := by kernel_rfl
@[simp] theorem flatT_103 : flatT prog 103 = some ([.str, .str]) := by kernel_rfl
@[simp] theorem kdT_103 : kdT prog 103 = none := by kernel_rfl
@[simp] theorem mapT_103 : mapT prog 103 = none := by kernel_rfl
@[simp] theorem bt_103 : bt prog 103 = none := by kernel_rfl
@[simp] theorem elU8_103 : elU8 prog 103 = false := by kernel_rfl
@[simp] theorem arT_103 : arT prog 103 = none := by kernel_rfl
@[simp] theorem concT_103 : concT prog 103 = true := by kernel_rfl
@[simp] theorem selfT_103 : selfT prog 103 = false := by kernel_rfl
@[simp] theorem fldT_103_0 : fldT prog 103 0 = some ((0, 9)) := by kernel_rfl
@[simp] theorem fldPl_103_0 : fldPl prog 103 0 = some ((0, 1)) := by kernel_rfl
@[simp] theorem fldT_103_1 : fldT prog 103 1 = some ((1, 9)) := by kernel_rfl
@[simp] theorem fldPl_103_1 : fldPl prog 103 1 = some ((1, 1)) := by kernel_rfl
@[simp] theorem func_0 : prog.funcs[0]? = some f0 := by kernel_rfl
@[simp] theorem func_1 : prog.funcs[1]? = some f1 := by kernel_rfl
@[simp] theorem func_2 : prog.funcs[2]? = some f2 := by kernel_rfl
@[simp] theorem func_3 : prog.funcs[3]? = some f3 := by kernel_rfl
@[simp] theorem func_4 : prog.funcs[4]? = some f4 := by kernel_rfl
@[simp] theorem func_5 : prog.funcs[5]? = some f5 := by kernel_rfl
@[simp] theorem func_6 : prog.funcs[6]? = some f6 := by kernel_rfl
@[simp] theorem func_7 : prog.funcs[7]? = some f7 := by kernel_rfl
@[simp] theorem func_8 : prog.funcs[8]? = some f8 := by kernel_rfl
@[simp] theorem func_9 : prog.funcs[9]? = some f9 := by kernel_rfl
@[simp] theorem func_10 : prog.funcs[10]? = some f10 := by kernel_rfl
@[simp] theorem func_11 : prog.funcs[11]? = some f11 := by kernel_rfl
@[simp] theorem func_12 : prog.funcs[12]? = some f12 := by kernel_rfl
@[simp] theorem func_13 : prog.funcs[13]? = some f13 := by kernel_rfl
@[simp] theorem func_14 : prog.funcs[14]? = some f14 := by kernel_rfl
@[simp] theorem func_15 : prog.funcs[15]? = some f15 := by kernel_rfl
@[simp] theorem func_16 : prog.funcs[16]? = some f16 := by kernel_rfl
@[simp] theorem func_17 : prog.funcs[17]? = some f17 := by kernel_rfl
@[simp] theorem func_18 : prog.funcs[18]? = some f18 := by kernel_rfl
@[simp] theorem func_19 : prog.funcs[19]? = some f19 := by kernel_rfl
@[simp] theorem func_20 : prog.funcs[20]? = some f20 := by kernel_rfl
@[simp] theorem func_21 : prog.funcs[21]? = some f21 := by kernel_rfl
@[simp] theorem func_22 : prog.funcs[22]? = some f22 := by kernel_rfl
@[simp] theorem func_23 : prog.funcs[23]? = some f23 := by kernel_rfl
@[simp] theorem func_24 : prog.funcs[24]? = some f24 := by kernel_rfl
@[simp] theorem func_25 : prog.funcs[25]? = some f25 := by kernel_rfl
@[simp] theorem func_26 : prog.funcs[26]? = some f26 := by kernel_rfl
@[simp] theorem func_27 : prog.funcs[27]? = some f27 := by kernel_rfl
@[simp] theorem func_28 : prog.funcs[28]? = some f28 := by kernel_rfl
@[simp] theorem func_29 : prog.funcs[29]? = some f29 := by kernel_rfl
@[simp] theorem func_30 : prog.funcs[30]? = some f30 := by kernel_rfl
@[simp] theorem func_31 : prog.funcs[31]? = some f31 := by kernel_rfl
@[simp] theorem func_32 : prog.funcs[32]? = some f32 := by kernel_rfl
@[simp] theorem func_33 : prog.funcs[33]? = some f33 := by kernel_rfl
@[simp] theorem func_34 : prog.funcs[34]? = some f34 := by kernel_rfl
@[simp] theorem func_35 : prog.funcs[35]? = some f35 := by kernel_rfl
@[simp] theorem func_36 : prog.funcs[36]? = some f36 := by kernel_rfl
@[simp] theorem func_37 : prog.funcs[37]? = some f37 := by kernel_rfl
@[simp] theorem func_38 : prog.funcs[38]? = some f38 := by kernel_rfl
@[simp] theorem func_39 : prog.funcs[39]? = some f39 := by kernel_rfl
@[simp] theorem func_40 : prog.funcs[40]? = some f40 := by kernel_rfl
@[simp] theorem func_41 : prog.funcs[41]? = some f41 := by kernel_rfl
@[simp] theorem func_42 : prog.funcs[42]? = some f42 := by kernel_rfl
@[simp] theorem func_43 : prog.funcs[43]? = some f43 := by kernel_rfl
@[simp] theorem func_44 : prog.funcs[44]? = some f44 := by kernel_rfl
@[simp] theorem func_45 : prog.funcs[45]? = some f45 := by kernel_rfl
@[simp] theorem func_46 : prog.funcs[46]? = some f46 := by kernel_rfl
@[simp] theorem func_47 : prog.funcs[47]? = some f47 := by kernel_rfl
@[simp] theorem func_48 : prog.funcs[48]? = some f48 := by kernel_rfl
@[simp] theorem func_49 : prog.funcs[49]? = some f49 := by kernel_rfl
@[simp] theorem func_50 : prog.funcs[50]? = some f50 := by kernel_rfl
@[simp] theorem func_51 : prog.funcs[51]? = some f51 := by kernel_rfl
@[simp] theorem func_52 : prog.funcs[52]? = some f52 := by kernel_rfl
@[simp] theorem func_53 : prog.funcs[53]? = some f53 := by kernel_rfl
@[simp] theorem func_54 : prog.funcs[54]? = some f54 := by kernel_rfl
@[simp] theorem func_55 : prog.funcs[55]? = some f55 := by kernel_rfl
@[simp] theorem func_56 : prog.funcs[56]? = some f56 := by kernel_rfl
@[simp] theorem func_57 : prog.funcs[57]? = some f57 := by kernel_rfl
@[simp] theorem func_58 : prog.funcs[58]? = some f58 := by kernel_rfl
@[simp] theorem func_59 : prog.funcs[59]? = some f59 := by kernel_rfl
@[simp] theorem func_60 : prog.funcs[60]? = some f60 := by kernel_rfl
@[simp] theorem func_61 : prog.funcs[61]? = some f61 := by kernel_rfl
@[simp] theorem func_62 : prog.funcs[62]? = some f62 := by kernel_rfl
@[simp] theorem func_63 : prog.funcs[63]? = some f63 := by kernel_rfl
@[simp] theorem func_64 : prog.funcs[64]? = some f64 := by kernel_rfl
@[simp] theorem func_65 : prog.funcs[65]? = some f65 := by kernel_rfl
@[simp] theorem func_66 : prog.funcs[66]? = some f66 := by kernel_rfl
@[simp] theorem func_67 : prog.funcs[67]? = some f67 := by kernel_rfl
@[simp] theorem func_68 : prog.funcs[68]? = some f68 := by kernel_rfl
@[simp] theorem func_69 : prog.funcs[69]? = some f69 := by kernel_rfl
@[simp] theorem func_70 : prog.funcs[70]? = some f70 := by kernel_rfl
@[simp] theorem func_71 : prog.funcs[71]? = some f71 := by kernel_rfl
@[simp] theorem func_72 : prog.funcs[72]? = some f72 := by kernel_rfl
@[simp] theorem func_73 : prog.funcs[73]? = some f73 := by kernel_rfl
@[simp] theorem func_74 : prog.funcs[74]? = some f74 := by kernel_rfl
@[simp] theorem func_75 : prog.funcs[75]? = some f75 := by kernel_rfl
@[simp] theorem func_76 : prog.funcs[76]? = some f76 := by kernel_rfl
@[simp] theorem func_77 : prog.funcs[77]? = some f77 := by kernel_rfl
@[simp] theorem func_78 : prog.funcs[78]? = some f78 := by kernel_rfl
@[simp] theorem func_79 : prog.funcs[79]? = some f79 := by kernel_rfl
@[simp] theorem func_80 : prog.funcs[80]? = some f80 := by kernel_rfl
@[simp] theorem func_81 : prog.funcs[81]? = some f81 := by kernel_rfl
/-- The facts of the types. -/
theorem none_ : True := trivial
end Go.Proofs.AL.T
