/- Closed facts on the types of this seat's program. Conditions: as each theorem says. -/
import Derived.Test.YtkhdnlojgoonkaaProg
import Derived.KernelRfl
import Derived.Test.YtkhdnlojgoonkaaAmc
namespace Go.AM
open Go.Proofs
@[go_sem] theorem lay1 : lay Try.prog 1 = some (1, false) := by kernel_rfl
@[go_sem] theorem szOf1 : szOf Try.prog 1 = some 1 := by kernel_rfl
@[go_sem] theorem byOf1 : byOf Try.prog 1 = some 8 := by kernel_rfl
@[go_sem] theorem zerOf1 : zerOf Try.prog 1 = some (.c .nilFunc) := by kernel_rfl
@[go_sem] theorem kdOf1 : kdOf Try.prog 1 = .fn := by kernel_rfl
@[go_sem] theorem lay2 : lay Try.prog 2 = some (1, false) := by kernel_rfl
@[go_sem] theorem szOf2 : szOf Try.prog 2 = some 1 := by kernel_rfl
@[go_sem] theorem byOf2 : byOf Try.prog 2 = some 8 := by kernel_rfl
@[go_sem] theorem zerOf2 : zerOf Try.prog 2 = some (iv .i64 0) := by kernel_rfl
@[go_sem] theorem lay3 : lay Try.prog 3 = some (1, false) := by kernel_rfl
@[go_sem] theorem szOf3 : szOf Try.prog 3 = some 1 := by kernel_rfl
@[go_sem] theorem byOf3 : byOf Try.prog 3 = some 8 := by kernel_rfl
@[go_sem] theorem zerOf3 : zerOf Try.prog 3 = some (iv .i64 0) := by kernel_rfl
@[go_sem] theorem lay4 : lay Try.prog 4 = some (1, false) := by kernel_rfl
@[go_sem] theorem szOf4 : szOf Try.prog 4 = some 1 := by kernel_rfl
@[go_sem] theorem byOf4 : byOf Try.prog 4 = some 1 := by kernel_rfl
@[go_sem] theorem zerOf4 : zerOf Try.prog 4 = some (bv false) := by kernel_rfl
@[go_sem] theorem kdOf4 : kdOf Try.prog 4 = .bool := by kernel_rfl
@[go_sem] theorem lay5 : lay Try.prog 5 = some (1, false) := by kernel_rfl
@[go_sem] theorem szOf5 : szOf Try.prog 5 = some 1 := by kernel_rfl
@[go_sem] theorem byOf5 : byOf Try.prog 5 = some 1 := by kernel_rfl
@[go_sem] theorem zerOf5 : zerOf Try.prog 5 = some (iv .u8 0) := by kernel_rfl
@[go_sem] theorem lay6 : lay Try.prog 6 = some (1, false) := by kernel_rfl
@[go_sem] theorem szOf6 : szOf Try.prog 6 = some 1 := by kernel_rfl
@[go_sem] theorem byOf6 : byOf Try.prog 6 = some 1 := by kernel_rfl
@[go_sem] theorem zerOf6 : zerOf Try.prog 6 = some (iv .u8 0) := by kernel_rfl
@[go_sem] theorem lay7 : lay Try.prog 7 = some (4, true) := by kernel_rfl
@[go_sem] theorem szOf7 : szOf Try.prog 7 = some 4 := by kernel_rfl
@[go_sem] theorem byOf7 : byOf Try.prog 7 = some 24 := by kernel_rfl
@[go_sem] theorem zerOf7 : zerOf Try.prog 7 = some (.agg [iv .i64 0, iv .i64 0, bv false, iv .u8 0]) := by kernel_rfl
@[go_sem] theorem fldOf7_0 : fldOf Try.prog 7 0 = some (0, 1) := by kernel_rfl
@[go_sem] theorem fldOf7_1 : fldOf Try.prog 7 1 = some (1, 1) := by kernel_rfl
@[go_sem] theorem fldOf7_2 : fldOf Try.prog 7 2 = some (2, 1) := by kernel_rfl
@[go_sem] theorem fldOf7_3 : fldOf Try.prog 7 3 = some (3, 1) := by kernel_rfl
@[go_sem] theorem sizesOk7 : sizesOk Try.prog 7 = true := by kernel_rfl
@[go_sem] theorem lay8 : lay Try.prog 8 = some (4, true) := by kernel_rfl
@[go_sem] theorem szOf8 : szOf Try.prog 8 = some 4 := by kernel_rfl
@[go_sem] theorem byOf8 : byOf Try.prog 8 = some 24 := by kernel_rfl
@[go_sem] theorem zerOf8 : zerOf Try.prog 8 = some (.agg [iv .i64 0, iv .i64 0, bv false, iv .u8 0]) := by kernel_rfl
@[go_sem] theorem fldOf8_0 : fldOf Try.prog 8 0 = some (0, 1) := by kernel_rfl
@[go_sem] theorem fldOf8_1 : fldOf Try.prog 8 1 = some (1, 1) := by kernel_rfl
@[go_sem] theorem fldOf8_2 : fldOf Try.prog 8 2 = some (2, 1) := by kernel_rfl
@[go_sem] theorem fldOf8_3 : fldOf Try.prog 8 3 = some (3, 1) := by kernel_rfl
@[go_sem] theorem sizesOk8 : sizesOk Try.prog 8 = true := by kernel_rfl
@[go_sem] theorem lay9 : lay Try.prog 9 = some (1, false) := by kernel_rfl
@[go_sem] theorem szOf9 : szOf Try.prog 9 = some 1 := by kernel_rfl
@[go_sem] theorem byOf9 : byOf Try.prog 9 = some 16 := by kernel_rfl
@[go_sem] theorem zerOf9 : zerOf Try.prog 9 = some (sv ByteArray.empty) := by kernel_rfl
@[go_sem] theorem kdOf9 : kdOf Try.prog 9 = .string := by kernel_rfl
@[go_sem] theorem lenK9 : lenK Try.prog 9 = .string := by kernel_rfl
@[go_sem] theorem lay10 : lay Try.prog 10 = some (1, false) := by kernel_rfl
@[go_sem] theorem szOf10 : szOf Try.prog 10 = some 1 := by kernel_rfl
@[go_sem] theorem byOf10 : byOf Try.prog 10 = some 16 := by kernel_rfl
@[go_sem] theorem zerOf10 : zerOf Try.prog 10 = some (sv ByteArray.empty) := by kernel_rfl
@[go_sem] theorem kdOf10 : kdOf Try.prog 10 = .string := by kernel_rfl
@[go_sem] theorem lenK10 : lenK Try.prog 10 = .string := by kernel_rfl
@[go_sem] theorem lay11 : lay Try.prog 11 = some (1, false) := by kernel_rfl
@[go_sem] theorem szOf11 : szOf Try.prog 11 = some 1 := by kernel_rfl
@[go_sem] theorem byOf11 : byOf Try.prog 11 = some 16 := by kernel_rfl
@[go_sem] theorem zerOf11 : zerOf Try.prog 11 = some (sv ByteArray.empty) := by kernel_rfl
@[go_sem] theorem kdOf11 : kdOf Try.prog 11 = .string := by kernel_rfl
@[go_sem] theorem lenK11 : lenK Try.prog 11 = .string := by kernel_rfl
@[go_sem] theorem lay12 : lay Try.prog 12 = some (1, false) := by kernel_rfl
@[go_sem] theorem szOf12 : szOf Try.prog 12 = some 1 := by kernel_rfl
@[go_sem] theorem byOf12 : byOf Try.prog 12 = some 8 := by kernel_rfl
@[go_sem] theorem zerOf12 : zerOf Try.prog 12 = some (iv .u64 0) := by kernel_rfl
@[go_sem] theorem lay13 : lay Try.prog 13 = some (2, true) := by kernel_rfl
@[go_sem] theorem szOf13 : szOf Try.prog 13 = some 2 := by kernel_rfl
@[go_sem] theorem byOf13 : byOf Try.prog 13 = some 24 := by kernel_rfl
@[go_sem] theorem zerOf13 : zerOf Try.prog 13 = some (.agg [sv ByteArray.empty, iv .u64 0]) := by kernel_rfl
@[go_sem] theorem fldOf13_0 : fldOf Try.prog 13 0 = some (0, 1) := by kernel_rfl
@[go_sem] theorem fldOf13_1 : fldOf Try.prog 13 1 = some (1, 1) := by kernel_rfl
@[go_sem] theorem sizesOk13 : sizesOk Try.prog 13 = true := by kernel_rfl
@[go_sem] theorem lay14 : lay Try.prog 14 = some (2, true) := by kernel_rfl
@[go_sem] theorem szOf14 : szOf Try.prog 14 = some 2 := by kernel_rfl
@[go_sem] theorem byOf14 : byOf Try.prog 14 = some 24 := by kernel_rfl
@[go_sem] theorem zerOf14 : zerOf Try.prog 14 = some (.agg [sv ByteArray.empty, iv .u64 0]) := by kernel_rfl
@[go_sem] theorem fldOf14_0 : fldOf Try.prog 14 0 = some (0, 1) := by kernel_rfl
@[go_sem] theorem fldOf14_1 : fldOf Try.prog 14 1 = some (1, 1) := by kernel_rfl
@[go_sem] theorem sizesOk14 : sizesOk Try.prog 14 = true := by kernel_rfl
@[go_sem] theorem lay15 : lay Try.prog 15 = some (1, false) := by kernel_rfl
@[go_sem] theorem szOf15 : szOf Try.prog 15 = some 1 := by kernel_rfl
@[go_sem] theorem byOf15 : byOf Try.prog 15 = some 8 := by kernel_rfl
@[go_sem] theorem zerOf15 : zerOf Try.prog 15 = some (.c (.pointer none)) := by kernel_rfl
@[go_sem] theorem kdOf15 : kdOf Try.prog 15 = .ptr 97 := by kernel_rfl
@[go_sem] theorem lay16 : lay Try.prog 16 = some (1, false) := by kernel_rfl
@[go_sem] theorem szOf16 : szOf Try.prog 16 = some 1 := by kernel_rfl
@[go_sem] theorem byOf16 : byOf Try.prog 16 = some 8 := by kernel_rfl
@[go_sem] theorem zerOf16 : zerOf Try.prog 16 = some (.c (.pointer none)) := by kernel_rfl
@[go_sem] theorem kdOf16 : kdOf Try.prog 16 = .ptr 100 := by kernel_rfl
@[go_sem] theorem lay17 : lay Try.prog 17 = some (1, false) := by kernel_rfl
@[go_sem] theorem szOf17 : szOf Try.prog 17 = some 1 := by kernel_rfl
@[go_sem] theorem byOf17 : byOf Try.prog 17 = some 8 := by kernel_rfl
@[go_sem] theorem zerOf17 : zerOf Try.prog 17 = some (.c (.pointer none)) := by kernel_rfl
@[go_sem] theorem kdOf17 : kdOf Try.prog 17 = .ptr 110 := by kernel_rfl
@[go_sem] theorem lay18 : lay Try.prog 18 = some (1, true) := by kernel_rfl
@[go_sem] theorem szOf18 : szOf Try.prog 18 = some 1 := by kernel_rfl
@[go_sem] theorem byOf18 : byOf Try.prog 18 = some 8 := by kernel_rfl
@[go_sem] theorem zerOf18 : zerOf Try.prog 18 = some (.agg [.c (.pointer none)]) := by kernel_rfl
@[go_sem] theorem fldOf18_0 : fldOf Try.prog 18 0 = some (0, 1) := by kernel_rfl
@[go_sem] theorem sizesOk18 : sizesOk Try.prog 18 = true := by kernel_rfl
@[go_sem] theorem lay19 : lay Try.prog 19 = some (1, true) := by kernel_rfl
@[go_sem] theorem szOf19 : szOf Try.prog 19 = some 1 := by kernel_rfl
@[go_sem] theorem byOf19 : byOf Try.prog 19 = some 8 := by kernel_rfl
@[go_sem] theorem zerOf19 : zerOf Try.prog 19 = some (.agg [.c (.pointer none)]) := by kernel_rfl
@[go_sem] theorem fldOf19_0 : fldOf Try.prog 19 0 = some (0, 1) := by kernel_rfl
@[go_sem] theorem sizesOk19 : sizesOk Try.prog 19 = true := by kernel_rfl
@[go_sem] theorem lay20 : lay Try.prog 20 = some (1, false) := by kernel_rfl
@[go_sem] theorem szOf20 : szOf Try.prog 20 = some 1 := by kernel_rfl
@[go_sem] theorem byOf20 : byOf Try.prog 20 = some 16 := by kernel_rfl
@[go_sem] theorem zerOf20 : zerOf Try.prog 20 = some (.c .nilIface) := by kernel_rfl
@[go_sem] theorem lay21 : lay Try.prog 21 = some (1, false) := by kernel_rfl
@[go_sem] theorem szOf21 : szOf Try.prog 21 = some 1 := by kernel_rfl
@[go_sem] theorem byOf21 : byOf Try.prog 21 = some 4 := by kernel_rfl
@[go_sem] theorem zerOf21 : zerOf Try.prog 21 = some (iv .i32 0) := by kernel_rfl
@[go_sem] theorem lay22 : lay Try.prog 22 = some (1, false) := by kernel_rfl
@[go_sem] theorem szOf22 : szOf Try.prog 22 = some 1 := by kernel_rfl
@[go_sem] theorem byOf22 : byOf Try.prog 22 = some 24 := by kernel_rfl
@[go_sem] theorem zerOf22 : zerOf Try.prog 22 = some (.fslc true true 0 []) := by kernel_rfl
@[go_sem] theorem eltOf22 : eltOf Try.prog 22 = some 27 := by kernel_rfl
@[go_sem] theorem kdOf22 : kdOf Try.prog 22 = .slice 27 := by kernel_rfl
@[go_sem] theorem lenK22 : lenK Try.prog 22 = .slice := by kernel_rfl
@[go_sem] theorem lay23 : lay Try.prog 23 = some (2, true) := by kernel_rfl
@[go_sem] theorem szOf23 : szOf Try.prog 23 = some 2 := by kernel_rfl
@[go_sem] theorem byOf23 : byOf Try.prog 23 = some 32 := by kernel_rfl
@[go_sem] theorem zerOf23 : zerOf Try.prog 23 = some (.agg [iv .i64 0, .fslc true true 0 []]) := by kernel_rfl
@[go_sem] theorem fldOf23_0 : fldOf Try.prog 23 0 = some (0, 1) := by kernel_rfl
@[go_sem] theorem fldOf23_1 : fldOf Try.prog 23 1 = some (1, 1) := by kernel_rfl
@[go_sem] theorem sizesOk23 : sizesOk Try.prog 23 = true := by kernel_rfl
@[go_sem] theorem lay24 : lay Try.prog 24 = some (2, true) := by kernel_rfl
@[go_sem] theorem szOf24 : szOf Try.prog 24 = some 2 := by kernel_rfl
@[go_sem] theorem byOf24 : byOf Try.prog 24 = some 32 := by kernel_rfl
@[go_sem] theorem zerOf24 : zerOf Try.prog 24 = some (.agg [iv .i64 0, .fslc true true 0 []]) := by kernel_rfl
@[go_sem] theorem fldOf24_0 : fldOf Try.prog 24 0 = some (0, 1) := by kernel_rfl
@[go_sem] theorem fldOf24_1 : fldOf Try.prog 24 1 = some (1, 1) := by kernel_rfl
@[go_sem] theorem sizesOk24 : sizesOk Try.prog 24 = true := by kernel_rfl
@[go_sem] theorem lay25 : lay Try.prog 25 = some (1, false) := by kernel_rfl
@[go_sem] theorem szOf25 : szOf Try.prog 25 = some 1 := by kernel_rfl
@[go_sem] theorem byOf25 : byOf Try.prog 25 = some 24 := by kernel_rfl
@[go_sem] theorem zerOf25 : zerOf Try.prog 25 = some (.fslc true true 0 []) := by kernel_rfl
@[go_sem] theorem eltOf25 : eltOf Try.prog 25 = some 54 := by kernel_rfl
@[go_sem] theorem kdOf25 : kdOf Try.prog 25 = .slice 54 := by kernel_rfl
@[go_sem] theorem lenK25 : lenK Try.prog 25 = .slice := by kernel_rfl
@[go_sem] theorem lay26 : lay Try.prog 26 = some (4, true) := by kernel_rfl
@[go_sem] theorem szOf26 : szOf Try.prog 26 = some 4 := by kernel_rfl
@[go_sem] theorem byOf26 : byOf Try.prog 26 = some 48 := by kernel_rfl
@[go_sem] theorem zerOf26 : zerOf Try.prog 26 = some (.agg [iv .i64 0, iv .i64 0, iv .i64 0, .fslc true true 0 []]) := by kernel_rfl
@[go_sem] theorem fldOf26_0 : fldOf Try.prog 26 0 = some (0, 1) := by kernel_rfl
@[go_sem] theorem fldOf26_1 : fldOf Try.prog 26 1 = some (1, 1) := by kernel_rfl
@[go_sem] theorem fldOf26_2 : fldOf Try.prog 26 2 = some (2, 1) := by kernel_rfl
@[go_sem] theorem fldOf26_3 : fldOf Try.prog 26 3 = some (3, 1) := by kernel_rfl
@[go_sem] theorem sizesOk26 : sizesOk Try.prog 26 = true := by kernel_rfl
@[go_sem] theorem lay27 : lay Try.prog 27 = some (4, true) := by kernel_rfl
@[go_sem] theorem szOf27 : szOf Try.prog 27 = some 4 := by kernel_rfl
@[go_sem] theorem byOf27 : byOf Try.prog 27 = some 48 := by kernel_rfl
@[go_sem] theorem zerOf27 : zerOf Try.prog 27 = some (.agg [iv .i64 0, iv .i64 0, iv .i64 0, .fslc true true 0 []]) := by kernel_rfl
@[go_sem] theorem fldOf27_0 : fldOf Try.prog 27 0 = some (0, 1) := by kernel_rfl
@[go_sem] theorem fldOf27_1 : fldOf Try.prog 27 1 = some (1, 1) := by kernel_rfl
@[go_sem] theorem fldOf27_2 : fldOf Try.prog 27 2 = some (2, 1) := by kernel_rfl
@[go_sem] theorem fldOf27_3 : fldOf Try.prog 27 3 = some (3, 1) := by kernel_rfl
@[go_sem] theorem sizesOk27 : sizesOk Try.prog 27 = true := by kernel_rfl
@[go_sem] theorem lay28 : lay Try.prog 28 = some (1, false) := by kernel_rfl
@[go_sem] theorem szOf28 : szOf Try.prog 28 = some 1 := by kernel_rfl
@[go_sem] theorem byOf28 : byOf Try.prog 28 = some 8 := by kernel_rfl
@[go_sem] theorem zerOf28 : zerOf Try.prog 28 = some (.c .nilFunc) := by kernel_rfl
@[go_sem] theorem kdOf28 : kdOf Try.prog 28 = .fn := by kernel_rfl
@[go_sem] theorem lay29 : lay Try.prog 29 = some (1, false) := by kernel_rfl
@[go_sem] theorem szOf29 : szOf Try.prog 29 = some 1 := by kernel_rfl
@[go_sem] theorem byOf29 : byOf Try.prog 29 = some 8 := by kernel_rfl
@[go_sem] theorem zerOf29 : zerOf Try.prog 29 = some (.c .nilFunc) := by kernel_rfl
@[go_sem] theorem kdOf29 : kdOf Try.prog 29 = .fn := by kernel_rfl
@[go_sem] theorem lay31 : lay Try.prog 31 = some (1, false) := by kernel_rfl
@[go_sem] theorem szOf31 : szOf Try.prog 31 = some 1 := by kernel_rfl
@[go_sem] theorem byOf31 : byOf Try.prog 31 = some 8 := by kernel_rfl
@[go_sem] theorem zerOf31 : zerOf Try.prog 31 = some (.c .nilFunc) := by kernel_rfl
@[go_sem] theorem kdOf31 : kdOf Try.prog 31 = .fn := by kernel_rfl
@[go_sem] theorem lay32 : lay Try.prog 32 = some (1, false) := by kernel_rfl
@[go_sem] theorem szOf32 : szOf Try.prog 32 = some 1 := by kernel_rfl
@[go_sem] theorem byOf32 : byOf Try.prog 32 = some 8 := by kernel_rfl
@[go_sem] theorem zerOf32 : zerOf Try.prog 32 = some (iv .i64 0) := by kernel_rfl
@[go_sem] theorem lay33 : lay Try.prog 33 = some (1, false) := by kernel_rfl
@[go_sem] theorem szOf33 : szOf Try.prog 33 = some 1 := by kernel_rfl
@[go_sem] theorem byOf33 : byOf Try.prog 33 = some 8 := by kernel_rfl
@[go_sem] theorem zerOf33 : zerOf Try.prog 33 = some (.c .nilFunc) := by kernel_rfl
@[go_sem] theorem kdOf33 : kdOf Try.prog 33 = .fn := by kernel_rfl
@[go_sem] theorem lay34 : lay Try.prog 34 = some (1, false) := by kernel_rfl
@[go_sem] theorem szOf34 : szOf Try.prog 34 = some 1 := by kernel_rfl
@[go_sem] theorem byOf34 : byOf Try.prog 34 = some 8 := by kernel_rfl
@[go_sem] theorem zerOf34 : zerOf Try.prog 34 = some (.c .nilFunc) := by kernel_rfl
@[go_sem] theorem kdOf34 : kdOf Try.prog 34 = .fn := by kernel_rfl
@[go_sem] theorem lay35 : lay Try.prog 35 = some (1, false) := by kernel_rfl
@[go_sem] theorem szOf35 : szOf Try.prog 35 = some 1 := by kernel_rfl
@[go_sem] theorem byOf35 : byOf Try.prog 35 = some 24 := by kernel_rfl
@[go_sem] theorem zerOf35 : zerOf Try.prog 35 = some (.fslc true true 0 []) := by kernel_rfl
@[go_sem] theorem eltOf35 : eltOf Try.prog 35 = some 3 := by kernel_rfl
@[go_sem] theorem kdOf35 : kdOf Try.prog 35 = .slice 3 := by kernel_rfl
@[go_sem] theorem lenK35 : lenK Try.prog 35 = .slice := by kernel_rfl
@[go_sem] theorem lay37 : lay Try.prog 37 = some (1, false) := by kernel_rfl
@[go_sem] theorem szOf37 : szOf Try.prog 37 = some 1 := by kernel_rfl
@[go_sem] theorem byOf37 : byOf Try.prog 37 = some 8 := by kernel_rfl
@[go_sem] theorem zerOf37 : zerOf Try.prog 37 = some (.c .nilFunc) := by kernel_rfl
@[go_sem] theorem kdOf37 : kdOf Try.prog 37 = .fn := by kernel_rfl
@[go_sem] theorem lay38 : lay Try.prog 38 = some (2, true) := by kernel_rfl
@[go_sem] theorem szOf38 : szOf Try.prog 38 = some 2 := by kernel_rfl
@[go_sem] theorem byOf38 : byOf Try.prog 38 = some 32 := by kernel_rfl
@[go_sem] theorem zerOf38 : zerOf Try.prog 38 = some (.agg [.fslc true true 0 [], iv .i64 0]) := by kernel_rfl
@[go_sem] theorem fldOf38_0 : fldOf Try.prog 38 0 = some (0, 1) := by kernel_rfl
@[go_sem] theorem fldOf38_1 : fldOf Try.prog 38 1 = some (1, 1) := by kernel_rfl
@[go_sem] theorem sizesOk38 : sizesOk Try.prog 38 = true := by kernel_rfl
@[go_sem] theorem lay39 : lay Try.prog 39 = some (2, true) := by kernel_rfl
@[go_sem] theorem szOf39 : szOf Try.prog 39 = some 2 := by kernel_rfl
@[go_sem] theorem byOf39 : byOf Try.prog 39 = some 32 := by kernel_rfl
@[go_sem] theorem zerOf39 : zerOf Try.prog 39 = some (.agg [.fslc true true 0 [], iv .i64 0]) := by kernel_rfl
@[go_sem] theorem fldOf39_0 : fldOf Try.prog 39 0 = some (0, 1) := by kernel_rfl
@[go_sem] theorem fldOf39_1 : fldOf Try.prog 39 1 = some (1, 1) := by kernel_rfl
@[go_sem] theorem sizesOk39 : sizesOk Try.prog 39 = true := by kernel_rfl
@[go_sem] theorem lay40 : lay Try.prog 40 = some (1, false) := by kernel_rfl
@[go_sem] theorem szOf40 : szOf Try.prog 40 = some 1 := by kernel_rfl
@[go_sem] theorem byOf40 : byOf Try.prog 40 = some 8 := by kernel_rfl
@[go_sem] theorem zerOf40 : zerOf Try.prog 40 = some (.c .nilFunc) := by kernel_rfl
@[go_sem] theorem kdOf40 : kdOf Try.prog 40 = .fn := by kernel_rfl
@[go_sem] theorem lay41 : lay Try.prog 41 = some (1, false) := by kernel_rfl
@[go_sem] theorem szOf41 : szOf Try.prog 41 = some 1 := by kernel_rfl
@[go_sem] theorem byOf41 : byOf Try.prog 41 = some 8 := by kernel_rfl
@[go_sem] theorem zerOf41 : zerOf Try.prog 41 = some (.c .nilFunc) := by kernel_rfl
@[go_sem] theorem kdOf41 : kdOf Try.prog 41 = .fn := by kernel_rfl
@[go_sem] theorem lay42 : lay Try.prog 42 = some (1, false) := by kernel_rfl
@[go_sem] theorem szOf42 : szOf Try.prog 42 = some 1 := by kernel_rfl
@[go_sem] theorem byOf42 : byOf Try.prog 42 = some 8 := by kernel_rfl
@[go_sem] theorem zerOf42 : zerOf Try.prog 42 = some (.c .nilFunc) := by kernel_rfl
@[go_sem] theorem kdOf42 : kdOf Try.prog 42 = .fn := by kernel_rfl
@[go_sem] theorem lay43 : lay Try.prog 43 = some (1, false) := by kernel_rfl
@[go_sem] theorem szOf43 : szOf Try.prog 43 = some 1 := by kernel_rfl
@[go_sem] theorem byOf43 : byOf Try.prog 43 = some 24 := by kernel_rfl
@[go_sem] theorem zerOf43 : zerOf Try.prog 43 = some (.fslc true true 0 []) := by kernel_rfl
@[go_sem] theorem eltOf43 : eltOf Try.prog 43 = some 80 := by kernel_rfl
@[go_sem] theorem kdOf43 : kdOf Try.prog 43 = .slice 80 := by kernel_rfl
@[go_sem] theorem lenK43 : lenK Try.prog 43 = .slice := by kernel_rfl
@[go_sem] theorem lay45 : lay Try.prog 45 = some (1, false) := by kernel_rfl
@[go_sem] theorem szOf45 : szOf Try.prog 45 = some 1 := by kernel_rfl
@[go_sem] theorem byOf45 : byOf Try.prog 45 = some 8 := by kernel_rfl
@[go_sem] theorem zerOf45 : zerOf Try.prog 45 = some (.c .nilFunc) := by kernel_rfl
@[go_sem] theorem kdOf45 : kdOf Try.prog 45 = .fn := by kernel_rfl
@[go_sem] theorem lay47 : lay Try.prog 47 = some (1, false) := by kernel_rfl
@[go_sem] theorem szOf47 : szOf Try.prog 47 = some 1 := by kernel_rfl
@[go_sem] theorem byOf47 : byOf Try.prog 47 = some 8 := by kernel_rfl
@[go_sem] theorem zerOf47 : zerOf Try.prog 47 = some (.c .nilFunc) := by kernel_rfl
@[go_sem] theorem kdOf47 : kdOf Try.prog 47 = .fn := by kernel_rfl
@[go_sem] theorem lay48 : lay Try.prog 48 = some (1, false) := by kernel_rfl
@[go_sem] theorem szOf48 : szOf Try.prog 48 = some 1 := by kernel_rfl
@[go_sem] theorem byOf48 : byOf Try.prog 48 = some 8 := by kernel_rfl
@[go_sem] theorem zerOf48 : zerOf Try.prog 48 = some (.c .nilFunc) := by kernel_rfl
@[go_sem] theorem kdOf48 : kdOf Try.prog 48 = .fn := by kernel_rfl
@[go_sem] theorem lay49 : lay Try.prog 49 = some (1, false) := by kernel_rfl
@[go_sem] theorem szOf49 : szOf Try.prog 49 = some 1 := by kernel_rfl
@[go_sem] theorem byOf49 : byOf Try.prog 49 = some 8 := by kernel_rfl
@[go_sem] theorem zerOf49 : zerOf Try.prog 49 = some (.c .nilFunc) := by kernel_rfl
@[go_sem] theorem kdOf49 : kdOf Try.prog 49 = .fn := by kernel_rfl
@[go_sem] theorem lay50 : lay Try.prog 50 = some (1, false) := by kernel_rfl
@[go_sem] theorem szOf50 : szOf Try.prog 50 = some 1 := by kernel_rfl
@[go_sem] theorem byOf50 : byOf Try.prog 50 = some 8 := by kernel_rfl
@[go_sem] theorem zerOf50 : zerOf Try.prog 50 = some (.c .nilFunc) := by kernel_rfl
@[go_sem] theorem kdOf50 : kdOf Try.prog 50 = .fn := by kernel_rfl
@[go_sem] theorem lay51 : lay Try.prog 51 = some (1, false) := by kernel_rfl
@[go_sem] theorem szOf51 : szOf Try.prog 51 = some 1 := by kernel_rfl
@[go_sem] theorem byOf51 : byOf Try.prog 51 = some 2 := by kernel_rfl
@[go_sem] theorem zerOf51 : zerOf Try.prog 51 = some (iv .u16 0) := by kernel_rfl
@[go_sem] theorem lay52 : lay Try.prog 52 = some (1, false) := by kernel_rfl
@[go_sem] theorem szOf52 : szOf Try.prog 52 = some 1 := by kernel_rfl
@[go_sem] theorem byOf52 : byOf Try.prog 52 = some 8 := by kernel_rfl
@[go_sem] theorem zerOf52 : zerOf Try.prog 52 = some (.c .nilFunc) := by kernel_rfl
@[go_sem] theorem kdOf52 : kdOf Try.prog 52 = .fn := by kernel_rfl
@[go_sem] theorem lay53 : lay Try.prog 53 = some (2, true) := by kernel_rfl
@[go_sem] theorem szOf53 : szOf Try.prog 53 = some 2 := by kernel_rfl
@[go_sem] theorem byOf53 : byOf Try.prog 53 = some 16 := by kernel_rfl
@[go_sem] theorem zerOf53 : zerOf Try.prog 53 = some (.agg [iv .i64 0, iv .i64 0]) := by kernel_rfl
@[go_sem] theorem fldOf53_0 : fldOf Try.prog 53 0 = some (0, 1) := by kernel_rfl
@[go_sem] theorem fldOf53_1 : fldOf Try.prog 53 1 = some (1, 1) := by kernel_rfl
@[go_sem] theorem sizesOk53 : sizesOk Try.prog 53 = true := by kernel_rfl
@[go_sem] theorem lay54 : lay Try.prog 54 = some (2, true) := by kernel_rfl
@[go_sem] theorem szOf54 : szOf Try.prog 54 = some 2 := by kernel_rfl
@[go_sem] theorem byOf54 : byOf Try.prog 54 = some 16 := by kernel_rfl
@[go_sem] theorem zerOf54 : zerOf Try.prog 54 = some (.agg [iv .i64 0, iv .i64 0]) := by kernel_rfl
@[go_sem] theorem fldOf54_0 : fldOf Try.prog 54 0 = some (0, 1) := by kernel_rfl
@[go_sem] theorem fldOf54_1 : fldOf Try.prog 54 1 = some (1, 1) := by kernel_rfl
@[go_sem] theorem sizesOk54 : sizesOk Try.prog 54 = true := by kernel_rfl
@[go_sem] theorem lay55 : lay Try.prog 55 = some (1, false) := by kernel_rfl
@[go_sem] theorem szOf55 : szOf Try.prog 55 = some 1 := by kernel_rfl
@[go_sem] theorem byOf55 : byOf Try.prog 55 = some 8 := by kernel_rfl
@[go_sem] theorem zerOf55 : zerOf Try.prog 55 = some (.c .nilFunc) := by kernel_rfl
@[go_sem] theorem kdOf55 : kdOf Try.prog 55 = .fn := by kernel_rfl
@[go_sem] theorem lay56 : lay Try.prog 56 = some (1, false) := by kernel_rfl
@[go_sem] theorem szOf56 : szOf Try.prog 56 = some 1 := by kernel_rfl
@[go_sem] theorem byOf56 : byOf Try.prog 56 = some 8 := by kernel_rfl
@[go_sem] theorem zerOf56 : zerOf Try.prog 56 = some (.c .nilFunc) := by kernel_rfl
@[go_sem] theorem kdOf56 : kdOf Try.prog 56 = .fn := by kernel_rfl
@[go_sem] theorem lay58 : lay Try.prog 58 = some (1, false) := by kernel_rfl
@[go_sem] theorem szOf58 : szOf Try.prog 58 = some 1 := by kernel_rfl
@[go_sem] theorem byOf58 : byOf Try.prog 58 = some 8 := by kernel_rfl
@[go_sem] theorem zerOf58 : zerOf Try.prog 58 = some (.c .nilFunc) := by kernel_rfl
@[go_sem] theorem kdOf58 : kdOf Try.prog 58 = .fn := by kernel_rfl
@[go_sem] theorem lay59 : lay Try.prog 59 = some (1, false) := by kernel_rfl
@[go_sem] theorem szOf59 : szOf Try.prog 59 = some 1 := by kernel_rfl
@[go_sem] theorem byOf59 : byOf Try.prog 59 = some 8 := by kernel_rfl
@[go_sem] theorem zerOf59 : zerOf Try.prog 59 = some (.c .nilFunc) := by kernel_rfl
@[go_sem] theorem kdOf59 : kdOf Try.prog 59 = .fn := by kernel_rfl
@[go_sem] theorem lay60 : lay Try.prog 60 = some (1, false) := by kernel_rfl
@[go_sem] theorem szOf60 : szOf Try.prog 60 = some 1 := by kernel_rfl
@[go_sem] theorem byOf60 : byOf Try.prog 60 = some 8 := by kernel_rfl
@[go_sem] theorem zerOf60 : zerOf Try.prog 60 = some (.c .nilFunc) := by kernel_rfl
@[go_sem] theorem kdOf60 : kdOf Try.prog 60 = .fn := by kernel_rfl
@[go_sem] theorem lay61 : lay Try.prog 61 = some (1, false) := by kernel_rfl
@[go_sem] theorem szOf61 : szOf Try.prog 61 = some 1 := by kernel_rfl
@[go_sem] theorem byOf61 : byOf Try.prog 61 = some 8 := by kernel_rfl
@[go_sem] theorem zerOf61 : zerOf Try.prog 61 = some (.c .nilFunc) := by kernel_rfl
@[go_sem] theorem kdOf61 : kdOf Try.prog 61 = .fn := by kernel_rfl
@[go_sem] theorem lay62 : lay Try.prog 62 = some (1, false) := by kernel_rfl
@[go_sem] theorem szOf62 : szOf Try.prog 62 = some 1 := by kernel_rfl
@[go_sem] theorem byOf62 : byOf Try.prog 62 = some 8 := by kernel_rfl
@[go_sem] theorem zerOf62 : zerOf Try.prog 62 = some (.c .nilFunc) := by kernel_rfl
@[go_sem] theorem kdOf62 : kdOf Try.prog 62 = .fn := by kernel_rfl
@[go_sem] theorem lay63 : lay Try.prog 63 = some (1, false) := by kernel_rfl
@[go_sem] theorem szOf63 : szOf Try.prog 63 = some 1 := by kernel_rfl
@[go_sem] theorem byOf63 : byOf Try.prog 63 = some 8 := by kernel_rfl
@[go_sem] theorem zerOf63 : zerOf Try.prog 63 = some (.c .nilFunc) := by kernel_rfl
@[go_sem] theorem kdOf63 : kdOf Try.prog 63 = .fn := by kernel_rfl
@[go_sem] theorem lay64 : lay Try.prog 64 = some (1, false) := by kernel_rfl
@[go_sem] theorem szOf64 : szOf Try.prog 64 = some 1 := by kernel_rfl
@[go_sem] theorem byOf64 : byOf Try.prog 64 = some 8 := by kernel_rfl
@[go_sem] theorem zerOf64 : zerOf Try.prog 64 = some (.c .nilFunc) := by kernel_rfl
@[go_sem] theorem kdOf64 : kdOf Try.prog 64 = .fn := by kernel_rfl
@[go_sem] theorem lay65 : lay Try.prog 65 = some (1, false) := by kernel_rfl
@[go_sem] theorem szOf65 : szOf Try.prog 65 = some 1 := by kernel_rfl
@[go_sem] theorem byOf65 : byOf Try.prog 65 = some 8 := by kernel_rfl
@[go_sem] theorem zerOf65 : zerOf Try.prog 65 = some (.c .nilFunc) := by kernel_rfl
@[go_sem] theorem kdOf65 : kdOf Try.prog 65 = .fn := by kernel_rfl
@[go_sem] theorem lay66 : lay Try.prog 66 = some (1, false) := by kernel_rfl
@[go_sem] theorem szOf66 : szOf Try.prog 66 = some 1 := by kernel_rfl
@[go_sem] theorem byOf66 : byOf Try.prog 66 = some 8 := by kernel_rfl
@[go_sem] theorem zerOf66 : zerOf Try.prog 66 = some (.c .nilFunc) := by kernel_rfl
@[go_sem] theorem kdOf66 : kdOf Try.prog 66 = .fn := by kernel_rfl
@[go_sem] theorem lay67 : lay Try.prog 67 = some (1, false) := by kernel_rfl
@[go_sem] theorem szOf67 : szOf Try.prog 67 = some 1 := by kernel_rfl
@[go_sem] theorem byOf67 : byOf Try.prog 67 = some 8 := by kernel_rfl
@[go_sem] theorem zerOf67 : zerOf Try.prog 67 = some (.c .nilFunc) := by kernel_rfl
@[go_sem] theorem kdOf67 : kdOf Try.prog 67 = .fn := by kernel_rfl
@[go_sem] theorem lay68 : lay Try.prog 68 = some (1, false) := by kernel_rfl
@[go_sem] theorem szOf68 : szOf Try.prog 68 = some 1 := by kernel_rfl
@[go_sem] theorem byOf68 : byOf Try.prog 68 = some 8 := by kernel_rfl
@[go_sem] theorem zerOf68 : zerOf Try.prog 68 = some (.c .nilFunc) := by kernel_rfl
@[go_sem] theorem kdOf68 : kdOf Try.prog 68 = .fn := by kernel_rfl
@[go_sem] theorem lay69 : lay Try.prog 69 = some (1, false) := by kernel_rfl
@[go_sem] theorem szOf69 : szOf Try.prog 69 = some 1 := by kernel_rfl
@[go_sem] theorem byOf69 : byOf Try.prog 69 = some 8 := by kernel_rfl
@[go_sem] theorem zerOf69 : zerOf Try.prog 69 = some (.c .nilFunc) := by kernel_rfl
@[go_sem] theorem kdOf69 : kdOf Try.prog 69 = .fn := by kernel_rfl
@[go_sem] theorem lay70 : lay Try.prog 70 = some (1, false) := by kernel_rfl
@[go_sem] theorem szOf70 : szOf Try.prog 70 = some 1 := by kernel_rfl
@[go_sem] theorem byOf70 : byOf Try.prog 70 = some 8 := by kernel_rfl
@[go_sem] theorem zerOf70 : zerOf Try.prog 70 = some (.c .nilFunc) := by kernel_rfl
@[go_sem] theorem kdOf70 : kdOf Try.prog 70 = .fn := by kernel_rfl
@[go_sem] theorem lay71 : lay Try.prog 71 = some (1, false) := by kernel_rfl
@[go_sem] theorem szOf71 : szOf Try.prog 71 = some 1 := by kernel_rfl
@[go_sem] theorem byOf71 : byOf Try.prog 71 = some 8 := by kernel_rfl
@[go_sem] theorem zerOf71 : zerOf Try.prog 71 = some (.c .nilFunc) := by kernel_rfl
@[go_sem] theorem kdOf71 : kdOf Try.prog 71 = .fn := by kernel_rfl
@[go_sem] theorem lay73 : lay Try.prog 73 = some (1, false) := by kernel_rfl
@[go_sem] theorem szOf73 : szOf Try.prog 73 = some 1 := by kernel_rfl
@[go_sem] theorem byOf73 : byOf Try.prog 73 = some 8 := by kernel_rfl
@[go_sem] theorem zerOf73 : zerOf Try.prog 73 = some (.c .nilFunc) := by kernel_rfl
@[go_sem] theorem kdOf73 : kdOf Try.prog 73 = .fn := by kernel_rfl
@[go_sem] theorem lay74 : lay Try.prog 74 = some (1, false) := by kernel_rfl
@[go_sem] theorem szOf74 : szOf Try.prog 74 = some 1 := by kernel_rfl
@[go_sem] theorem byOf74 : byOf Try.prog 74 = some 8 := by kernel_rfl
@[go_sem] theorem zerOf74 : zerOf Try.prog 74 = some (.c .nilFunc) := by kernel_rfl
@[go_sem] theorem kdOf74 : kdOf Try.prog 74 = .fn := by kernel_rfl
@[go_sem] theorem lay75 : lay Try.prog 75 = some (1, false) := by kernel_rfl
@[go_sem] theorem szOf75 : szOf Try.prog 75 = some 1 := by kernel_rfl
@[go_sem] theorem byOf75 : byOf Try.prog 75 = some 8 := by kernel_rfl
@[go_sem] theorem zerOf75 : zerOf Try.prog 75 = some (.c .nilFunc) := by kernel_rfl
@[go_sem] theorem kdOf75 : kdOf Try.prog 75 = .fn := by kernel_rfl
@[go_sem] theorem lay76 : lay Try.prog 76 = some (1, false) := by kernel_rfl
@[go_sem] theorem szOf76 : szOf Try.prog 76 = some 1 := by kernel_rfl
@[go_sem] theorem byOf76 : byOf Try.prog 76 = some 8 := by kernel_rfl
@[go_sem] theorem zerOf76 : zerOf Try.prog 76 = some (.c .nilFunc) := by kernel_rfl
@[go_sem] theorem kdOf76 : kdOf Try.prog 76 = .fn := by kernel_rfl
@[go_sem] theorem lay77 : lay Try.prog 77 = some (1, false) := by kernel_rfl
@[go_sem] theorem szOf77 : szOf Try.prog 77 = some 1 := by kernel_rfl
@[go_sem] theorem byOf77 : byOf Try.prog 77 = some 8 := by kernel_rfl
@[go_sem] theorem zerOf77 : zerOf Try.prog 77 = some (.c .nilFunc) := by kernel_rfl
@[go_sem] theorem kdOf77 : kdOf Try.prog 77 = .fn := by kernel_rfl
@[go_sem] theorem lay78 : lay Try.prog 78 = some (1, false) := by kernel_rfl
@[go_sem] theorem szOf78 : szOf Try.prog 78 = some 1 := by kernel_rfl
@[go_sem] theorem byOf78 : byOf Try.prog 78 = some 8 := by kernel_rfl
@[go_sem] theorem zerOf78 : zerOf Try.prog 78 = some (.c (.pointer none)) := by kernel_rfl
@[go_sem] theorem kdOf78 : kdOf Try.prog 78 = .ptr 3 := by kernel_rfl
@[go_sem] theorem lay79 : lay Try.prog 79 = some (2, true) := by kernel_rfl
@[go_sem] theorem szOf79 : szOf Try.prog 79 = some 2 := by kernel_rfl
@[go_sem] theorem byOf79 : byOf Try.prog 79 = some 16 := by kernel_rfl
@[go_sem] theorem zerOf79 : zerOf Try.prog 79 = some (.agg [iv .i64 0, iv .i64 0]) := by kernel_rfl
@[go_sem] theorem fldOf79_0 : fldOf Try.prog 79 0 = some (0, 1) := by kernel_rfl
@[go_sem] theorem fldOf79_1 : fldOf Try.prog 79 1 = some (1, 1) := by kernel_rfl
@[go_sem] theorem sizesOk79 : sizesOk Try.prog 79 = true := by kernel_rfl
@[go_sem] theorem lay80 : lay Try.prog 80 = some (2, true) := by kernel_rfl
@[go_sem] theorem szOf80 : szOf Try.prog 80 = some 2 := by kernel_rfl
@[go_sem] theorem byOf80 : byOf Try.prog 80 = some 16 := by kernel_rfl
@[go_sem] theorem zerOf80 : zerOf Try.prog 80 = some (.agg [iv .i64 0, iv .i64 0]) := by kernel_rfl
@[go_sem] theorem fldOf80_0 : fldOf Try.prog 80 0 = some (0, 1) := by kernel_rfl
@[go_sem] theorem fldOf80_1 : fldOf Try.prog 80 1 = some (1, 1) := by kernel_rfl
@[go_sem] theorem sizesOk80 : sizesOk Try.prog 80 = true := by kernel_rfl
@[go_sem] theorem lay81 : lay Try.prog 81 = some (1, false) := by kernel_rfl
@[go_sem] theorem szOf81 : szOf Try.prog 81 = some 1 := by kernel_rfl
@[go_sem] theorem byOf81 : byOf Try.prog 81 = some 8 := by kernel_rfl
@[go_sem] theorem zerOf81 : zerOf Try.prog 81 = some (.c .nilFunc) := by kernel_rfl
@[go_sem] theorem kdOf81 : kdOf Try.prog 81 = .fn := by kernel_rfl
@[go_sem] theorem lay82 : lay Try.prog 82 = some (1, false) := by kernel_rfl
@[go_sem] theorem szOf82 : szOf Try.prog 82 = some 1 := by kernel_rfl
@[go_sem] theorem byOf82 : byOf Try.prog 82 = some 8 := by kernel_rfl
@[go_sem] theorem zerOf82 : zerOf Try.prog 82 = some (.c .nilFunc) := by kernel_rfl
@[go_sem] theorem kdOf82 : kdOf Try.prog 82 = .fn := by kernel_rfl
@[go_sem] theorem lay83 : lay Try.prog 83 = some (1, false) := by kernel_rfl
@[go_sem] theorem szOf83 : szOf Try.prog 83 = some 1 := by kernel_rfl
@[go_sem] theorem byOf83 : byOf Try.prog 83 = some 8 := by kernel_rfl
@[go_sem] theorem zerOf83 : zerOf Try.prog 83 = some (.c .nilFunc) := by kernel_rfl
@[go_sem] theorem kdOf83 : kdOf Try.prog 83 = .fn := by kernel_rfl
@[go_sem] theorem lay84 : lay Try.prog 84 = some (1, false) := by kernel_rfl
@[go_sem] theorem szOf84 : szOf Try.prog 84 = some 1 := by kernel_rfl
@[go_sem] theorem byOf84 : byOf Try.prog 84 = some 8 := by kernel_rfl
@[go_sem] theorem zerOf84 : zerOf Try.prog 84 = some (.c .nilFunc) := by kernel_rfl
@[go_sem] theorem kdOf84 : kdOf Try.prog 84 = .fn := by kernel_rfl
@[go_sem] theorem lay85 : lay Try.prog 85 = some (1, false) := by kernel_rfl
@[go_sem] theorem szOf85 : szOf Try.prog 85 = some 1 := by kernel_rfl
@[go_sem] theorem byOf85 : byOf Try.prog 85 = some 8 := by kernel_rfl
@[go_sem] theorem zerOf85 : zerOf Try.prog 85 = some (.c .nilFunc) := by kernel_rfl
@[go_sem] theorem kdOf85 : kdOf Try.prog 85 = .fn := by kernel_rfl
@[go_sem] theorem lay86 : lay Try.prog 86 = some (1, false) := by kernel_rfl
@[go_sem] theorem szOf86 : szOf Try.prog 86 = some 1 := by kernel_rfl
@[go_sem] theorem byOf86 : byOf Try.prog 86 = some 8 := by kernel_rfl
@[go_sem] theorem zerOf86 : zerOf Try.prog 86 = some (.c .nilFunc) := by kernel_rfl
@[go_sem] theorem kdOf86 : kdOf Try.prog 86 = .fn := by kernel_rfl
@[go_sem] theorem lay87 : lay Try.prog 87 = some (1, false) := by kernel_rfl
@[go_sem] theorem szOf87 : szOf Try.prog 87 = some 1 := by kernel_rfl
@[go_sem] theorem byOf87 : byOf Try.prog 87 = some 8 := by kernel_rfl
@[go_sem] theorem zerOf87 : zerOf Try.prog 87 = some (.c .nilFunc) := by kernel_rfl
@[go_sem] theorem kdOf87 : kdOf Try.prog 87 = .fn := by kernel_rfl
@[go_sem] theorem lay88 : lay Try.prog 88 = some (1, false) := by kernel_rfl
@[go_sem] theorem szOf88 : szOf Try.prog 88 = some 1 := by kernel_rfl
@[go_sem] theorem byOf88 : byOf Try.prog 88 = some 8 := by kernel_rfl
@[go_sem] theorem zerOf88 : zerOf Try.prog 88 = some (.c .nilFunc) := by kernel_rfl
@[go_sem] theorem kdOf88 : kdOf Try.prog 88 = .fn := by kernel_rfl
@[go_sem] theorem lay89 : lay Try.prog 89 = some (1, false) := by kernel_rfl
@[go_sem] theorem szOf89 : szOf Try.prog 89 = some 1 := by kernel_rfl
@[go_sem] theorem byOf89 : byOf Try.prog 89 = some 8 := by kernel_rfl
@[go_sem] theorem zerOf89 : zerOf Try.prog 89 = some (.c .nilFunc) := by kernel_rfl
@[go_sem] theorem kdOf89 : kdOf Try.prog 89 = .fn := by kernel_rfl
@[go_sem] theorem lay90 : lay Try.prog 90 = some (1, false) := by kernel_rfl
@[go_sem] theorem szOf90 : szOf Try.prog 90 = some 1 := by kernel_rfl
@[go_sem] theorem byOf90 : byOf Try.prog 90 = some 8 := by kernel_rfl
@[go_sem] theorem zerOf90 : zerOf Try.prog 90 = some (.c .nilFunc) := by kernel_rfl
@[go_sem] theorem kdOf90 : kdOf Try.prog 90 = .fn := by kernel_rfl
@[go_sem] theorem lay91 : lay Try.prog 91 = some (1, false) := by kernel_rfl
@[go_sem] theorem szOf91 : szOf Try.prog 91 = some 1 := by kernel_rfl
@[go_sem] theorem byOf91 : byOf Try.prog 91 = some 8 := by kernel_rfl
@[go_sem] theorem zerOf91 : zerOf Try.prog 91 = some (.c .nilFunc) := by kernel_rfl
@[go_sem] theorem kdOf91 : kdOf Try.prog 91 = .fn := by kernel_rfl
@[go_sem] theorem lay92 : lay Try.prog 92 = some (1, false) := by kernel_rfl
@[go_sem] theorem szOf92 : szOf Try.prog 92 = some 1 := by kernel_rfl
@[go_sem] theorem byOf92 : byOf Try.prog 92 = some 8 := by kernel_rfl
@[go_sem] theorem zerOf92 : zerOf Try.prog 92 = some (.c .nilFunc) := by kernel_rfl
@[go_sem] theorem kdOf92 : kdOf Try.prog 92 = .fn := by kernel_rfl
@[go_sem] theorem lay93 : lay Try.prog 93 = some (1, false) := by kernel_rfl
@[go_sem] theorem szOf93 : szOf Try.prog 93 = some 1 := by kernel_rfl
@[go_sem] theorem byOf93 : byOf Try.prog 93 = some 8 := by kernel_rfl
@[go_sem] theorem zerOf93 : zerOf Try.prog 93 = some (.c .nilFunc) := by kernel_rfl
@[go_sem] theorem kdOf93 : kdOf Try.prog 93 = .fn := by kernel_rfl
@[go_sem] theorem lay94 : lay Try.prog 94 = some (1, false) := by kernel_rfl
@[go_sem] theorem szOf94 : szOf Try.prog 94 = some 1 := by kernel_rfl
@[go_sem] theorem byOf94 : byOf Try.prog 94 = some 8 := by kernel_rfl
@[go_sem] theorem zerOf94 : zerOf Try.prog 94 = some (.c .nilFunc) := by kernel_rfl
@[go_sem] theorem kdOf94 : kdOf Try.prog 94 = .fn := by kernel_rfl
@[go_sem] theorem lay95 : lay Try.prog 95 = some (1, false) := by kernel_rfl
@[go_sem] theorem szOf95 : szOf Try.prog 95 = some 1 := by kernel_rfl
@[go_sem] theorem byOf95 : byOf Try.prog 95 = some 8 := by kernel_rfl
@[go_sem] theorem zerOf95 : zerOf Try.prog 95 = some (.c .nilFunc) := by kernel_rfl
@[go_sem] theorem kdOf95 : kdOf Try.prog 95 = .fn := by kernel_rfl
@[go_sem] theorem lay96 : lay Try.prog 96 = some (4, true) := by kernel_rfl
@[go_sem] theorem szOf96 : szOf Try.prog 96 = some 4 := by kernel_rfl
@[go_sem] theorem byOf96 : byOf Try.prog 96 = some 40 := by kernel_rfl
@[go_sem] theorem zerOf96 : zerOf Try.prog 96 = some (.agg [.c (.pointer none), .c (.pointer none), .c (.pointer none), sv ByteArray.empty]) := by kernel_rfl
@[go_sem] theorem fldOf96_0 : fldOf Try.prog 96 0 = some (0, 1) := by kernel_rfl
@[go_sem] theorem fldOf96_1 : fldOf Try.prog 96 1 = some (1, 1) := by kernel_rfl
@[go_sem] theorem fldOf96_2 : fldOf Try.prog 96 2 = some (2, 1) := by kernel_rfl
@[go_sem] theorem fldOf96_3 : fldOf Try.prog 96 3 = some (3, 1) := by kernel_rfl
@[go_sem] theorem sizesOk96 : sizesOk Try.prog 96 = true := by kernel_rfl
@[go_sem] theorem lay97 : lay Try.prog 97 = some (4, true) := by kernel_rfl
@[go_sem] theorem szOf97 : szOf Try.prog 97 = some 4 := by kernel_rfl
@[go_sem] theorem byOf97 : byOf Try.prog 97 = some 40 := by kernel_rfl
@[go_sem] theorem zerOf97 : zerOf Try.prog 97 = some (.agg [.c (.pointer none), .c (.pointer none), .c (.pointer none), sv ByteArray.empty]) := by kernel_rfl
@[go_sem] theorem fldOf97_0 : fldOf Try.prog 97 0 = some (0, 1) := by kernel_rfl
@[go_sem] theorem fldOf97_1 : fldOf Try.prog 97 1 = some (1, 1) := by kernel_rfl
@[go_sem] theorem fldOf97_2 : fldOf Try.prog 97 2 = some (2, 1) := by kernel_rfl
@[go_sem] theorem fldOf97_3 : fldOf Try.prog 97 3 = some (3, 1) := by kernel_rfl
@[go_sem] theorem sizesOk97 : sizesOk Try.prog 97 = true := by kernel_rfl
@[go_sem] theorem lay98 : lay Try.prog 98 = some (0, true) := by kernel_rfl
@[go_sem] theorem szOf98 : szOf Try.prog 98 = some 0 := by kernel_rfl
@[go_sem] theorem byOf98 : byOf Try.prog 98 = some 0 := by kernel_rfl
@[go_sem] theorem zerOf98 : zerOf Try.prog 98 = some (.agg []) := by kernel_rfl
@[go_sem] theorem lay99 : lay Try.prog 99 = some (0, true) := by kernel_rfl
@[go_sem] theorem szOf99 : szOf Try.prog 99 = some 0 := by kernel_rfl
@[go_sem] theorem byOf99 : byOf Try.prog 99 = some 0 := by kernel_rfl
@[go_sem] theorem zerOf99 : zerOf Try.prog 99 = some (.agg []) := by kernel_rfl
@[go_sem] theorem fldOf99_0 : fldOf Try.prog 99 0 = some (0, 0) := by kernel_rfl
@[go_sem] theorem sizesOk99 : sizesOk Try.prog 99 = true := by kernel_rfl
@[go_sem] theorem lay100 : lay Try.prog 100 = some (0, true) := by kernel_rfl
@[go_sem] theorem szOf100 : szOf Try.prog 100 = some 0 := by kernel_rfl
@[go_sem] theorem byOf100 : byOf Try.prog 100 = some 0 := by kernel_rfl
@[go_sem] theorem zerOf100 : zerOf Try.prog 100 = some (.agg []) := by kernel_rfl
@[go_sem] theorem fldOf100_0 : fldOf Try.prog 100 0 = some (0, 0) := by kernel_rfl
@[go_sem] theorem sizesOk100 : sizesOk Try.prog 100 = true := by kernel_rfl
@[go_sem] theorem lay101 : lay Try.prog 101 = some (1, false) := by kernel_rfl
@[go_sem] theorem szOf101 : szOf Try.prog 101 = some 1 := by kernel_rfl
@[go_sem] theorem byOf101 : byOf Try.prog 101 = some 8 := by kernel_rfl
@[go_sem] theorem zerOf101 : zerOf Try.prog 101 = some (.c .nilFunc) := by kernel_rfl
@[go_sem] theorem kdOf101 : kdOf Try.prog 101 = .fn := by kernel_rfl
@[go_sem] theorem lay102 : lay Try.prog 102 = some (1, false) := by kernel_rfl
@[go_sem] theorem szOf102 : szOf Try.prog 102 = some 1 := by kernel_rfl
@[go_sem] theorem byOf102 : byOf Try.prog 102 = some 4 := by kernel_rfl
@[go_sem] theorem zerOf102 : zerOf Try.prog 102 = some (iv .u32 0) := by kernel_rfl
@[go_sem] theorem lay103 : lay Try.prog 103 = some (1, false) := by kernel_rfl
@[go_sem] theorem szOf103 : szOf Try.prog 103 = some 1 := by kernel_rfl
@[go_sem] theorem byOf103 : byOf Try.prog 103 = some 1 := by kernel_rfl
@[go_sem] theorem zerOf103 : zerOf Try.prog 103 = some (iv .u8 0) := by kernel_rfl
@[go_sem] theorem lay104 : lay Try.prog 104 = some (1, false) := by kernel_rfl
@[go_sem] theorem szOf104 : szOf Try.prog 104 = some 1 := by kernel_rfl
@[go_sem] theorem byOf104 : byOf Try.prog 104 = some 1 := by kernel_rfl
@[go_sem] theorem zerOf104 : zerOf Try.prog 104 = some (iv .u8 0) := by kernel_rfl
@[go_sem] theorem lay105 : lay Try.prog 105 = some (1, false) := by kernel_rfl
@[go_sem] theorem szOf105 : szOf Try.prog 105 = some 1 := by kernel_rfl
@[go_sem] theorem byOf105 : byOf Try.prog 105 = some 8 := by kernel_rfl
@[go_sem] theorem zerOf105 : zerOf Try.prog 105 = some (.c .nilFunc) := by kernel_rfl
@[go_sem] theorem kdOf105 : kdOf Try.prog 105 = .fn := by kernel_rfl
@[go_sem] theorem lay106 : lay Try.prog 106 = some (1, false) := by kernel_rfl
@[go_sem] theorem szOf106 : szOf Try.prog 106 = some 1 := by kernel_rfl
@[go_sem] theorem byOf106 : byOf Try.prog 106 = some 8 := by kernel_rfl
@[go_sem] theorem zerOf106 : zerOf Try.prog 106 = some (.c (.pointer none)) := by kernel_rfl
@[go_sem] theorem kdOf106 : kdOf Try.prog 106 = .ptr 5 := by kernel_rfl
@[go_sem] theorem lay107 : lay Try.prog 107 = some (1, false) := by kernel_rfl
@[go_sem] theorem szOf107 : szOf Try.prog 107 = some 1 := by kernel_rfl
@[go_sem] theorem byOf107 : byOf Try.prog 107 = some 4 := by kernel_rfl
@[go_sem] theorem zerOf107 : zerOf Try.prog 107 = some (iv .i32 0) := by kernel_rfl
@[go_sem] theorem lay108 : lay Try.prog 108 = some (1, false) := by kernel_rfl
@[go_sem] theorem szOf108 : szOf Try.prog 108 = some 1 := by kernel_rfl
@[go_sem] theorem byOf108 : byOf Try.prog 108 = some 4 := by kernel_rfl
@[go_sem] theorem zerOf108 : zerOf Try.prog 108 = some (iv .i32 0) := by kernel_rfl
@[go_sem] theorem lay109 : lay Try.prog 109 = some (11, true) := by kernel_rfl
@[go_sem] theorem szOf109 : szOf Try.prog 109 = some 11 := by kernel_rfl
@[go_sem] theorem byOf109 : byOf Try.prog 109 = some 48 := by kernel_rfl
@[go_sem] theorem zerOf109 : zerOf Try.prog 109 = some (.agg [iv .u64 0, iv .u64 0, iv .u32 0, iv .u8 0, iv .u8 0, iv .u8 0, iv .u8 0, .c .nilFunc, .c (.pointer none), iv .i32 0, iv .i32 0]) := by kernel_rfl
@[go_sem] theorem fldOf109_0 : fldOf Try.prog 109 0 = some (0, 1) := by kernel_rfl
@[go_sem] theorem fldOf109_1 : fldOf Try.prog 109 1 = some (1, 1) := by kernel_rfl
@[go_sem] theorem fldOf109_2 : fldOf Try.prog 109 2 = some (2, 1) := by kernel_rfl
@[go_sem] theorem fldOf109_3 : fldOf Try.prog 109 3 = some (3, 1) := by kernel_rfl
@[go_sem] theorem fldOf109_4 : fldOf Try.prog 109 4 = some (4, 1) := by kernel_rfl
@[go_sem] theorem fldOf109_5 : fldOf Try.prog 109 5 = some (5, 1) := by kernel_rfl
@[go_sem] theorem fldOf109_6 : fldOf Try.prog 109 6 = some (6, 1) := by kernel_rfl
@[go_sem] theorem fldOf109_7 : fldOf Try.prog 109 7 = some (7, 1) := by kernel_rfl
@[go_sem] theorem fldOf109_8 : fldOf Try.prog 109 8 = some (8, 1) := by kernel_rfl
@[go_sem] theorem fldOf109_9 : fldOf Try.prog 109 9 = some (9, 1) := by kernel_rfl
@[go_sem] theorem fldOf109_10 : fldOf Try.prog 109 10 = some (10, 1) := by kernel_rfl
@[go_sem] theorem sizesOk109 : sizesOk Try.prog 109 = true := by kernel_rfl
@[go_sem] theorem lay110 : lay Try.prog 110 = some (11, true) := by kernel_rfl
@[go_sem] theorem szOf110 : szOf Try.prog 110 = some 11 := by kernel_rfl
@[go_sem] theorem byOf110 : byOf Try.prog 110 = some 48 := by kernel_rfl
@[go_sem] theorem zerOf110 : zerOf Try.prog 110 = some (.agg [iv .u64 0, iv .u64 0, iv .u32 0, iv .u8 0, iv .u8 0, iv .u8 0, iv .u8 0, .c .nilFunc, .c (.pointer none), iv .i32 0, iv .i32 0]) := by kernel_rfl
@[go_sem] theorem fldOf110_0 : fldOf Try.prog 110 0 = some (0, 1) := by kernel_rfl
@[go_sem] theorem fldOf110_1 : fldOf Try.prog 110 1 = some (1, 1) := by kernel_rfl
@[go_sem] theorem fldOf110_2 : fldOf Try.prog 110 2 = some (2, 1) := by kernel_rfl
@[go_sem] theorem fldOf110_3 : fldOf Try.prog 110 3 = some (3, 1) := by kernel_rfl
@[go_sem] theorem fldOf110_4 : fldOf Try.prog 110 4 = some (4, 1) := by kernel_rfl
@[go_sem] theorem fldOf110_5 : fldOf Try.prog 110 5 = some (5, 1) := by kernel_rfl
@[go_sem] theorem fldOf110_6 : fldOf Try.prog 110 6 = some (6, 1) := by kernel_rfl
@[go_sem] theorem fldOf110_7 : fldOf Try.prog 110 7 = some (7, 1) := by kernel_rfl
@[go_sem] theorem fldOf110_8 : fldOf Try.prog 110 8 = some (8, 1) := by kernel_rfl
@[go_sem] theorem fldOf110_9 : fldOf Try.prog 110 9 = some (9, 1) := by kernel_rfl
@[go_sem] theorem fldOf110_10 : fldOf Try.prog 110 10 = some (10, 1) := by kernel_rfl
@[go_sem] theorem sizesOk110 : sizesOk Try.prog 110 = true := by kernel_rfl
end Go.AM
