/- Closed facts on the types of this seat's program. Conditions: as each theorem says. -/
import Derived.Test.YtjbphojecieloaaProg
import Derived.KernelRfl
import Derived.Test.YtjbphojecieloaaAme
namespace Go.AM
open Go.Proofs
@[go_sem] theorem lay1 : lay Try.prog 1 = some (1, false) := by kernel_rfl
@[go_sem] theorem szOf1 : szOf Try.prog 1 = some 1 := by kernel_rfl
@[go_sem] theorem byOf1 : byOf Try.prog 1 = some 8 := by kernel_rfl
@[go_sem] theorem zerOf1 : zerOf Try.prog 1 = some (.c .nilFunc) := by kernel_rfl
@[go_sem] theorem kdOf1 : kdOf Try.prog 1 = .fn := by kernel_rfl
@[go_sem] theorem lay2 : lay Try.prog 2 = some (1, false) := by kernel_rfl
@[go_sem] theorem szOf2 : szOf Try.prog 2 = some 1 := by kernel_rfl
@[go_sem] theorem byOf2 : byOf Try.prog 2 = some 8 := by kernel_rfl
@[go_sem] theorem zerOf2 : zerOf Try.prog 2 = some (iv .i64 0) := by kernel_rfl
@[go_sem] theorem lay3 : lay Try.prog 3 = some (1, false) := by kernel_rfl
@[go_sem] theorem szOf3 : szOf Try.prog 3 = some 1 := by kernel_rfl
@[go_sem] theorem byOf3 : byOf Try.prog 3 = some 8 := by kernel_rfl
@[go_sem] theorem zerOf3 : zerOf Try.prog 3 = some (iv .i64 0) := by kernel_rfl
@[go_sem] theorem lay4 : lay Try.prog 4 = some (1, false) := by kernel_rfl
@[go_sem] theorem szOf4 : szOf Try.prog 4 = some 1 := by kernel_rfl
@[go_sem] theorem byOf4 : byOf Try.prog 4 = some 1 := by kernel_rfl
@[go_sem] theorem zerOf4 : zerOf Try.prog 4 = some (bv false) := by kernel_rfl
@[go_sem] theorem kdOf4 : kdOf Try.prog 4 = .bool := by kernel_rfl
@[go_sem] theorem lay5 : lay Try.prog 5 = some (1, false) := by kernel_rfl
@[go_sem] theorem szOf5 : szOf Try.prog 5 = some 1 := by kernel_rfl
@[go_sem] theorem byOf5 : byOf Try.prog 5 = some 1 := by kernel_rfl
@[go_sem] theorem zerOf5 : zerOf Try.prog 5 = some (iv .u8 0) := by kernel_rfl
@[go_sem] theorem lay6 : lay Try.prog 6 = some (1, false) := by kernel_rfl
@[go_sem] theorem szOf6 : szOf Try.prog 6 = some 1 := by kernel_rfl
@[go_sem] theorem byOf6 : byOf Try.prog 6 = some 1 := by kernel_rfl
@[go_sem] theorem zerOf6 : zerOf Try.prog 6 = some (iv .u8 0) := by kernel_rfl
@[go_sem] theorem lay7 : lay Try.prog 7 = some (4, true) := by kernel_rfl
@[go_sem] theorem szOf7 : szOf Try.prog 7 = some 4 := by kernel_rfl
@[go_sem] theorem byOf7 : byOf Try.prog 7 = some 24 := by kernel_rfl
@[go_sem] theorem zerOf7 : zerOf Try.prog 7 = some (.agg [iv .i64 0, iv .i64 0, bv false, iv .u8 0]) := by kernel_rfl
@[go_sem] theorem fldOf7_0 : fldOf Try.prog 7 0 = some (0, 1) := by kernel_rfl
@[go_sem] theorem fldOf7_1 : fldOf Try.prog 7 1 = some (1, 1) := by kernel_rfl
@[go_sem] theorem fldOf7_2 : fldOf Try.prog 7 2 = some (2, 1) := by kernel_rfl
@[go_sem] theorem fldOf7_3 : fldOf Try.prog 7 3 = some (3, 1) := by kernel_rfl
@[go_sem] theorem sizesOk7 : sizesOk Try.prog 7 = true := by kernel_rfl
@[go_sem] theorem lay8 : lay Try.prog 8 = some (4, true) := by kernel_rfl
@[go_sem] theorem szOf8 : szOf Try.prog 8 = some 4 := by kernel_rfl
@[go_sem] theorem byOf8 : byOf Try.prog 8 = some 24 := by kernel_rfl
@[go_sem] theorem zerOf8 : zerOf Try.prog 8 = some (.agg [iv .i64 0, iv .i64 0, bv false, iv .u8 0]) := by kernel_rfl
@[go_sem] theorem fldOf8_0 : fldOf Try.prog 8 0 = some (0, 1) := by kernel_rfl
@[go_sem] theorem fldOf8_1 : fldOf Try.prog 8 1 = some (1, 1) := by kernel_rfl
@[go_sem] theorem fldOf8_2 : fldOf Try.prog 8 2 = some (2, 1) := by kernel_rfl
@[go_sem] theorem fldOf8_3 : fldOf Try.prog 8 3 = some (3, 1) := by kernel_rfl
@[go_sem] theorem sizesOk8 : sizesOk Try.prog 8 = true := by kernel_rfl
@[go_sem] theorem lay9 : lay Try.prog 9 = some (1, false) := by kernel_rfl
@[go_sem] theorem szOf9 : szOf Try.prog 9 = some 1 := by kernel_rfl
@[go_sem] theorem byOf9 : byOf Try.prog 9 = some 16 := by kernel_rfl
@[go_sem] theorem zerOf9 : zerOf Try.prog 9 = some (sv ByteArray.empty) := by kernel_rfl
@[go_sem] theorem kdOf9 : kdOf Try.prog 9 = .string := by kernel_rfl
@[go_sem] theorem lenK9 : lenK Try.prog 9 = .string := by kernel_rfl
@[go_sem] theorem lay10 : lay Try.prog 10 = some (1, false) := by kernel_rfl
@[go_sem] theorem szOf10 : szOf Try.prog 10 = some 1 := by kernel_rfl
@[go_sem] theorem byOf10 : byOf Try.prog 10 = some 16 := by kernel_rfl
@[go_sem] theorem zerOf10 : zerOf Try.prog 10 = some (sv ByteArray.empty) := by kernel_rfl
@[go_sem] theorem kdOf10 : kdOf Try.prog 10 = .string := by kernel_rfl
@[go_sem] theorem lenK10 : lenK Try.prog 10 = .string := by kernel_rfl
@[go_sem] theorem lay11 : lay Try.prog 11 = some (1, false) := by kernel_rfl
@[go_sem] theorem szOf11 : szOf Try.prog 11 = some 1 := by kernel_rfl
@[go_sem] theorem byOf11 : byOf Try.prog 11 = some 16 := by kernel_rfl
@[go_sem] theorem zerOf11 : zerOf Try.prog 11 = some (sv ByteArray.empty) := by kernel_rfl
@[go_sem] theorem kdOf11 : kdOf Try.prog 11 = .string := by kernel_rfl
@[go_sem] theorem lenK11 : lenK Try.prog 11 = .string := by kernel_rfl
@[go_sem] theorem lay12 : lay Try.prog 12 = some (1, false) := by kernel_rfl
@[go_sem] theorem szOf12 : szOf Try.prog 12 = some 1 := by kernel_rfl
@[go_sem] theorem byOf12 : byOf Try.prog 12 = some 8 := by kernel_rfl
@[go_sem] theorem zerOf12 : zerOf Try.prog 12 = some (iv .u64 0) := by kernel_rfl
@[go_sem] theorem lay13 : lay Try.prog 13 = some (2, true) := by kernel_rfl
@[go_sem] theorem szOf13 : szOf Try.prog 13 = some 2 := by kernel_rfl
@[go_sem] theorem byOf13 : byOf Try.prog 13 = some 24 := by kernel_rfl
@[go_sem] theorem zerOf13 : zerOf Try.prog 13 = some (.agg [sv ByteArray.empty, iv .u64 0]) := by kernel_rfl
@[go_sem] theorem fldOf13_0 : fldOf Try.prog 13 0 = some (0, 1) := by kernel_rfl
@[go_sem] theorem fldOf13_1 : fldOf Try.prog 13 1 = some (1, 1) := by kernel_rfl
@[go_sem] theorem sizesOk13 : sizesOk Try.prog 13 = true := by kernel_rfl
@[go_sem] theorem lay14 : lay Try.prog 14 = some (2, true) := by kernel_rfl
@[go_sem] theorem szOf14 : szOf Try.prog 14 = some 2 := by kernel_rfl
@[go_sem] theorem byOf14 : byOf Try.prog 14 = some 24 := by kernel_rfl
@[go_sem] theorem zerOf14 : zerOf Try.prog 14 = some (.agg [sv ByteArray.empty, iv .u64 0]) := by kernel_rfl
@[go_sem] theorem fldOf14_0 : fldOf Try.prog 14 0 = some (0, 1) := by kernel_rfl
@[go_sem] theorem fldOf14_1 : fldOf Try.prog 14 1 = some (1, 1) := by kernel_rfl
@[go_sem] theorem sizesOk14 : sizesOk Try.prog 14 = true := by kernel_rfl
@[go_sem] theorem lay15 : lay Try.prog 15 = some (1, false) := by kernel_rfl
@[go_sem] theorem szOf15 : szOf Try.prog 15 = some 1 := by kernel_rfl
@[go_sem] theorem byOf15 : byOf Try.prog 15 = some 8 := by kernel_rfl
@[go_sem] theorem zerOf15 : zerOf Try.prog 15 = some (.c (.pointer none)) := by kernel_rfl
@[go_sem] theorem kdOf15 : kdOf Try.prog 15 = .ptr 98 := by kernel_rfl
@[go_sem] theorem lay16 : lay Try.prog 16 = some (1, false) := by kernel_rfl
@[go_sem] theorem szOf16 : szOf Try.prog 16 = some 1 := by kernel_rfl
@[go_sem] theorem byOf16 : byOf Try.prog 16 = some 8 := by kernel_rfl
@[go_sem] theorem zerOf16 : zerOf Try.prog 16 = some (.c (.pointer none)) := by kernel_rfl
@[go_sem] theorem kdOf16 : kdOf Try.prog 16 = .ptr 101 := by kernel_rfl
@[go_sem] theorem lay17 : lay Try.prog 17 = some (1, false) := by kernel_rfl
@[go_sem] theorem szOf17 : szOf Try.prog 17 = some 1 := by kernel_rfl
@[go_sem] theorem byOf17 : byOf Try.prog 17 = some 8 := by kernel_rfl
@[go_sem] theorem zerOf17 : zerOf Try.prog 17 = some (.c (.pointer none)) := by kernel_rfl
@[go_sem] theorem kdOf17 : kdOf Try.prog 17 = .ptr 110 := by kernel_rfl
@[go_sem] theorem lay18 : lay Try.prog 18 = some (1, true) := by kernel_rfl
@[go_sem] theorem szOf18 : szOf Try.prog 18 = some 1 := by kernel_rfl
@[go_sem] theorem byOf18 : byOf Try.prog 18 = some 8 := by kernel_rfl
@[go_sem] theorem zerOf18 : zerOf Try.prog 18 = some (.agg [.c (.pointer none)]) := by kernel_rfl
@[go_sem] theorem fldOf18_0 : fldOf Try.prog 18 0 = some (0, 1) := by kernel_rfl
@[go_sem] theorem sizesOk18 : sizesOk Try.prog 18 = true := by kernel_rfl
@[go_sem] theorem lay19 : lay Try.prog 19 = some (1, true) := by kernel_rfl
@[go_sem] theorem szOf19 : szOf Try.prog 19 = some 1 := by kernel_rfl
@[go_sem] theorem byOf19 : byOf Try.prog 19 = some 8 := by kernel_rfl
@[go_sem] theorem zerOf19 : zerOf Try.prog 19 = some (.agg [.c (.pointer none)]) := by kernel_rfl
@[go_sem] theorem fldOf19_0 : fldOf Try.prog 19 0 = some (0, 1) := by kernel_rfl
@[go_sem] theorem sizesOk19 : sizesOk Try.prog 19 = true := by kernel_rfl
@[go_sem] theorem lay20 : lay Try.prog 20 = some (1, false) := by kernel_rfl
@[go_sem] theorem szOf20 : szOf Try.prog 20 = some 1 := by kernel_rfl
@[go_sem] theorem byOf20 : byOf Try.prog 20 = some 16 := by kernel_rfl
@[go_sem] theorem zerOf20 : zerOf Try.prog 20 = some (.c .nilIface) := by kernel_rfl
@[go_sem] theorem lay21 : lay Try.prog 21 = some (1, false) := by kernel_rfl
@[go_sem] theorem szOf21 : szOf Try.prog 21 = some 1 := by kernel_rfl
@[go_sem] theorem byOf21 : byOf Try.prog 21 = some 4 := by kernel_rfl
@[go_sem] theorem zerOf21 : zerOf Try.prog 21 = some (iv .i32 0) := by kernel_rfl
@[go_sem] theorem lay22 : lay Try.prog 22 = some (1, false) := by kernel_rfl
@[go_sem] theorem szOf22 : szOf Try.prog 22 = some 1 := by kernel_rfl
@[go_sem] theorem byOf22 : byOf Try.prog 22 = some 24 := by kernel_rfl
@[go_sem] theorem zerOf22 : zerOf Try.prog 22 = some (.fslc true true 0 []) := by kernel_rfl
@[go_sem] theorem eltOf22 : eltOf Try.prog 22 = some 30 := by kernel_rfl
@[go_sem] theorem kdOf22 : kdOf Try.prog 22 = .slice 30 := by kernel_rfl
@[go_sem] theorem lenK22 : lenK Try.prog 22 = .slice := by kernel_rfl
@[go_sem] theorem lay23 : lay Try.prog 23 = some (1, false) := by kernel_rfl
@[go_sem] theorem szOf23 : szOf Try.prog 23 = some 1 := by kernel_rfl
@[go_sem] theorem byOf23 : byOf Try.prog 23 = some 8 := by kernel_rfl
@[go_sem] theorem zerOf23 : zerOf Try.prog 23 = some (.c .nilFunc) := by kernel_rfl
@[go_sem] theorem kdOf23 : kdOf Try.prog 23 = .fn := by kernel_rfl
@[go_sem] theorem lay24 : lay Try.prog 24 = some (1, false) := by kernel_rfl
@[go_sem] theorem szOf24 : szOf Try.prog 24 = some 1 := by kernel_rfl
@[go_sem] theorem byOf24 : byOf Try.prog 24 = some 8 := by kernel_rfl
@[go_sem] theorem zerOf24 : zerOf Try.prog 24 = some (.c .nilFunc) := by kernel_rfl
@[go_sem] theorem kdOf24 : kdOf Try.prog 24 = .fn := by kernel_rfl
@[go_sem] theorem lay25 : lay Try.prog 25 = some (1, false) := by kernel_rfl
@[go_sem] theorem szOf25 : szOf Try.prog 25 = some 1 := by kernel_rfl
@[go_sem] theorem byOf25 : byOf Try.prog 25 = some 8 := by kernel_rfl
@[go_sem] theorem zerOf25 : zerOf Try.prog 25 = some (.c (.pointer none)) := by kernel_rfl
@[go_sem] theorem kdOf25 : kdOf Try.prog 25 = .ptr 58 := by kernel_rfl
@[go_sem] theorem lay26 : lay Try.prog 26 = some (1, false) := by kernel_rfl
@[go_sem] theorem szOf26 : szOf Try.prog 26 = some 1 := by kernel_rfl
@[go_sem] theorem byOf26 : byOf Try.prog 26 = some 8 := by kernel_rfl
@[go_sem] theorem zerOf26 : zerOf Try.prog 26 = some (iv .i64 0) := by kernel_rfl
@[go_sem] theorem lay28 : lay Try.prog 28 = some (1, false) := by kernel_rfl
@[go_sem] theorem szOf28 : szOf Try.prog 28 = some 1 := by kernel_rfl
@[go_sem] theorem byOf28 : byOf Try.prog 28 = some 8 := by kernel_rfl
@[go_sem] theorem zerOf28 : zerOf Try.prog 28 = some (.c .nilFunc) := by kernel_rfl
@[go_sem] theorem kdOf28 : kdOf Try.prog 28 = .fn := by kernel_rfl
@[go_sem] theorem lay29 : lay Try.prog 29 = some (5, true) := by kernel_rfl
@[go_sem] theorem szOf29 : szOf Try.prog 29 = some 5 := by kernel_rfl
@[go_sem] theorem byOf29 : byOf Try.prog 29 = some 48 := by kernel_rfl
@[go_sem] theorem zerOf29 : zerOf Try.prog 29 = some (.agg [iv .i64 0, iv .i64 0, iv .i64 0, iv .i64 0, sv ByteArray.empty]) := by kernel_rfl
@[go_sem] theorem fldOf29_0 : fldOf Try.prog 29 0 = some (0, 1) := by kernel_rfl
@[go_sem] theorem fldOf29_1 : fldOf Try.prog 29 1 = some (1, 1) := by kernel_rfl
@[go_sem] theorem fldOf29_2 : fldOf Try.prog 29 2 = some (2, 1) := by kernel_rfl
@[go_sem] theorem fldOf29_3 : fldOf Try.prog 29 3 = some (3, 1) := by kernel_rfl
@[go_sem] theorem fldOf29_4 : fldOf Try.prog 29 4 = some (4, 1) := by kernel_rfl
@[go_sem] theorem sizesOk29 : sizesOk Try.prog 29 = true := by kernel_rfl
@[go_sem] theorem lay30 : lay Try.prog 30 = some (5, true) := by kernel_rfl
@[go_sem] theorem szOf30 : szOf Try.prog 30 = some 5 := by kernel_rfl
@[go_sem] theorem byOf30 : byOf Try.prog 30 = some 48 := by kernel_rfl
@[go_sem] theorem zerOf30 : zerOf Try.prog 30 = some (.agg [iv .i64 0, iv .i64 0, iv .i64 0, iv .i64 0, sv ByteArray.empty]) := by kernel_rfl
@[go_sem] theorem fldOf30_0 : fldOf Try.prog 30 0 = some (0, 1) := by kernel_rfl
@[go_sem] theorem fldOf30_1 : fldOf Try.prog 30 1 = some (1, 1) := by kernel_rfl
@[go_sem] theorem fldOf30_2 : fldOf Try.prog 30 2 = some (2, 1) := by kernel_rfl
@[go_sem] theorem fldOf30_3 : fldOf Try.prog 30 3 = some (3, 1) := by kernel_rfl
@[go_sem] theorem fldOf30_4 : fldOf Try.prog 30 4 = some (4, 1) := by kernel_rfl
@[go_sem] theorem sizesOk30 : sizesOk Try.prog 30 = true := by kernel_rfl
@[go_sem] theorem lay31 : lay Try.prog 31 = some (1, false) := by kernel_rfl
@[go_sem] theorem szOf31 : szOf Try.prog 31 = some 1 := by kernel_rfl
@[go_sem] theorem byOf31 : byOf Try.prog 31 = some 8 := by kernel_rfl
@[go_sem] theorem zerOf31 : zerOf Try.prog 31 = some (.c .nilFunc) := by kernel_rfl
@[go_sem] theorem kdOf31 : kdOf Try.prog 31 = .fn := by kernel_rfl
@[go_sem] theorem lay32 : lay Try.prog 32 = some (1, false) := by kernel_rfl
@[go_sem] theorem szOf32 : szOf Try.prog 32 = some 1 := by kernel_rfl
@[go_sem] theorem byOf32 : byOf Try.prog 32 = some 24 := by kernel_rfl
@[go_sem] theorem zerOf32 : zerOf Try.prog 32 = some (.fslc true true 0 []) := by kernel_rfl
@[go_sem] theorem eltOf32 : eltOf Try.prog 32 = some 36 := by kernel_rfl
@[go_sem] theorem kdOf32 : kdOf Try.prog 32 = .slice 36 := by kernel_rfl
@[go_sem] theorem lenK32 : lenK Try.prog 32 = .slice := by kernel_rfl
@[go_sem] theorem lay33 : lay Try.prog 33 = some (1, false) := by kernel_rfl
@[go_sem] theorem szOf33 : szOf Try.prog 33 = some 1 := by kernel_rfl
@[go_sem] theorem byOf33 : byOf Try.prog 33 = some 8 := by kernel_rfl
@[go_sem] theorem zerOf33 : zerOf Try.prog 33 = some (.c .nilFunc) := by kernel_rfl
@[go_sem] theorem kdOf33 : kdOf Try.prog 33 = .fn := by kernel_rfl
@[go_sem] theorem lay34 : lay Try.prog 34 = some (1, false) := by kernel_rfl
@[go_sem] theorem szOf34 : szOf Try.prog 34 = some 1 := by kernel_rfl
@[go_sem] theorem byOf34 : byOf Try.prog 34 = some 8 := by kernel_rfl
@[go_sem] theorem zerOf34 : zerOf Try.prog 34 = some (.c .nilFunc) := by kernel_rfl
@[go_sem] theorem kdOf34 : kdOf Try.prog 34 = .fn := by kernel_rfl
@[go_sem] theorem lay35 : lay Try.prog 35 = some (6, true) := by kernel_rfl
@[go_sem] theorem szOf35 : szOf Try.prog 35 = some 6 := by kernel_rfl
@[go_sem] theorem byOf35 : byOf Try.prog 35 = some 56 := by kernel_rfl
@[go_sem] theorem zerOf35 : zerOf Try.prog 35 = some (.agg [iv .i64 0, iv .i64 0, iv .i64 0, iv .i64 0, iv .i64 0, sv ByteArray.empty]) := by kernel_rfl
@[go_sem] theorem fldOf35_0 : fldOf Try.prog 35 0 = some (0, 1) := by kernel_rfl
@[go_sem] theorem fldOf35_1 : fldOf Try.prog 35 1 = some (1, 1) := by kernel_rfl
@[go_sem] theorem fldOf35_2 : fldOf Try.prog 35 2 = some (2, 1) := by kernel_rfl
@[go_sem] theorem fldOf35_3 : fldOf Try.prog 35 3 = some (3, 1) := by kernel_rfl
@[go_sem] theorem fldOf35_4 : fldOf Try.prog 35 4 = some (4, 1) := by kernel_rfl
@[go_sem] theorem fldOf35_5 : fldOf Try.prog 35 5 = some (5, 1) := by kernel_rfl
@[go_sem] theorem sizesOk35 : sizesOk Try.prog 35 = true := by kernel_rfl
@[go_sem] theorem lay36 : lay Try.prog 36 = some (6, true) := by kernel_rfl
@[go_sem] theorem szOf36 : szOf Try.prog 36 = some 6 := by kernel_rfl
@[go_sem] theorem byOf36 : byOf Try.prog 36 = some 56 := by kernel_rfl
@[go_sem] theorem zerOf36 : zerOf Try.prog 36 = some (.agg [iv .i64 0, iv .i64 0, iv .i64 0, iv .i64 0, iv .i64 0, sv ByteArray.empty]) := by kernel_rfl
@[go_sem] theorem fldOf36_0 : fldOf Try.prog 36 0 = some (0, 1) := by kernel_rfl
@[go_sem] theorem fldOf36_1 : fldOf Try.prog 36 1 = some (1, 1) := by kernel_rfl
@[go_sem] theorem fldOf36_2 : fldOf Try.prog 36 2 = some (2, 1) := by kernel_rfl
@[go_sem] theorem fldOf36_3 : fldOf Try.prog 36 3 = some (3, 1) := by kernel_rfl
@[go_sem] theorem fldOf36_4 : fldOf Try.prog 36 4 = some (4, 1) := by kernel_rfl
@[go_sem] theorem fldOf36_5 : fldOf Try.prog 36 5 = some (5, 1) := by kernel_rfl
@[go_sem] theorem sizesOk36 : sizesOk Try.prog 36 = true := by kernel_rfl
@[go_sem] theorem lay38 : lay Try.prog 38 = some (1, false) := by kernel_rfl
@[go_sem] theorem szOf38 : szOf Try.prog 38 = some 1 := by kernel_rfl
@[go_sem] theorem byOf38 : byOf Try.prog 38 = some 8 := by kernel_rfl
@[go_sem] theorem zerOf38 : zerOf Try.prog 38 = some (.c .nilFunc) := by kernel_rfl
@[go_sem] theorem kdOf38 : kdOf Try.prog 38 = .fn := by kernel_rfl
@[go_sem] theorem lay39 : lay Try.prog 39 = some (1, false) := by kernel_rfl
@[go_sem] theorem szOf39 : szOf Try.prog 39 = some 1 := by kernel_rfl
@[go_sem] theorem byOf39 : byOf Try.prog 39 = some 8 := by kernel_rfl
@[go_sem] theorem zerOf39 : zerOf Try.prog 39 = some (.c .nilFunc) := by kernel_rfl
@[go_sem] theorem kdOf39 : kdOf Try.prog 39 = .fn := by kernel_rfl
@[go_sem] theorem lay40 : lay Try.prog 40 = some (1, false) := by kernel_rfl
@[go_sem] theorem szOf40 : szOf Try.prog 40 = some 1 := by kernel_rfl
@[go_sem] theorem byOf40 : byOf Try.prog 40 = some 24 := by kernel_rfl
@[go_sem] theorem zerOf40 : zerOf Try.prog 40 = some (.fslc true true 0 []) := by kernel_rfl
@[go_sem] theorem eltOf40 : eltOf Try.prog 40 = some 9 := by kernel_rfl
@[go_sem] theorem kdOf40 : kdOf Try.prog 40 = .slice 9 := by kernel_rfl
@[go_sem] theorem lenK40 : lenK Try.prog 40 = .slice := by kernel_rfl
@[go_sem] theorem lay41 : lay Try.prog 41 = some (1, false) := by kernel_rfl
@[go_sem] theorem szOf41 : szOf Try.prog 41 = some 1 := by kernel_rfl
@[go_sem] theorem byOf41 : byOf Try.prog 41 = some 8 := by kernel_rfl
@[go_sem] theorem zerOf41 : zerOf Try.prog 41 = some (.c .nilFunc) := by kernel_rfl
@[go_sem] theorem kdOf41 : kdOf Try.prog 41 = .fn := by kernel_rfl
@[go_sem] theorem lay42 : lay Try.prog 42 = some (1, false) := by kernel_rfl
@[go_sem] theorem szOf42 : szOf Try.prog 42 = some 1 := by kernel_rfl
@[go_sem] theorem byOf42 : byOf Try.prog 42 = some 8 := by kernel_rfl
@[go_sem] theorem zerOf42 : zerOf Try.prog 42 = some (.c .nilFunc) := by kernel_rfl
@[go_sem] theorem kdOf42 : kdOf Try.prog 42 = .fn := by kernel_rfl
@[go_sem] theorem lay43 : lay Try.prog 43 = some (1, false) := by kernel_rfl
@[go_sem] theorem szOf43 : szOf Try.prog 43 = some 1 := by kernel_rfl
@[go_sem] theorem byOf43 : byOf Try.prog 43 = some 8 := by kernel_rfl
@[go_sem] theorem zerOf43 : zerOf Try.prog 43 = some (.c .nilFunc) := by kernel_rfl
@[go_sem] theorem kdOf43 : kdOf Try.prog 43 = .fn := by kernel_rfl
@[go_sem] theorem lay44 : lay Try.prog 44 = some (1, false) := by kernel_rfl
@[go_sem] theorem szOf44 : szOf Try.prog 44 = some 1 := by kernel_rfl
@[go_sem] theorem byOf44 : byOf Try.prog 44 = some 8 := by kernel_rfl
@[go_sem] theorem zerOf44 : zerOf Try.prog 44 = some (.c .nilFunc) := by kernel_rfl
@[go_sem] theorem kdOf44 : kdOf Try.prog 44 = .fn := by kernel_rfl
@[go_sem] theorem lay45 : lay Try.prog 45 = some (1, false) := by kernel_rfl
@[go_sem] theorem szOf45 : szOf Try.prog 45 = some 1 := by kernel_rfl
@[go_sem] theorem byOf45 : byOf Try.prog 45 = some 8 := by kernel_rfl
@[go_sem] theorem zerOf45 : zerOf Try.prog 45 = some (.c (.pointer none)) := by kernel_rfl
@[go_sem] theorem kdOf45 : kdOf Try.prog 45 = .ptr 77 := by kernel_rfl
@[go_sem] theorem lay46 : lay Try.prog 46 = some (2, true) := by kernel_rfl
@[go_sem] theorem szOf46 : szOf Try.prog 46 = some 2 := by kernel_rfl
@[go_sem] theorem byOf46 : byOf Try.prog 46 = some 16 := by kernel_rfl
@[go_sem] theorem zerOf46 : zerOf Try.prog 46 = some (.agg [.c (.pointer none), iv .i64 0]) := by kernel_rfl
@[go_sem] theorem fldOf46_0 : fldOf Try.prog 46 0 = some (0, 1) := by kernel_rfl
@[go_sem] theorem fldOf46_1 : fldOf Try.prog 46 1 = some (1, 1) := by kernel_rfl
@[go_sem] theorem sizesOk46 : sizesOk Try.prog 46 = true := by kernel_rfl
@[go_sem] theorem lay47 : lay Try.prog 47 = some (2, true) := by kernel_rfl
@[go_sem] theorem szOf47 : szOf Try.prog 47 = some 2 := by kernel_rfl
@[go_sem] theorem byOf47 : byOf Try.prog 47 = some 16 := by kernel_rfl
@[go_sem] theorem zerOf47 : zerOf Try.prog 47 = some (.agg [.c (.pointer none), iv .i64 0]) := by kernel_rfl
@[go_sem] theorem fldOf47_0 : fldOf Try.prog 47 0 = some (0, 1) := by kernel_rfl
@[go_sem] theorem fldOf47_1 : fldOf Try.prog 47 1 = some (1, 1) := by kernel_rfl
@[go_sem] theorem sizesOk47 : sizesOk Try.prog 47 = true := by kernel_rfl
@[go_sem] theorem lay48 : lay Try.prog 48 = some (1, false) := by kernel_rfl
@[go_sem] theorem szOf48 : szOf Try.prog 48 = some 1 := by kernel_rfl
@[go_sem] theorem byOf48 : byOf Try.prog 48 = some 8 := by kernel_rfl
@[go_sem] theorem zerOf48 : zerOf Try.prog 48 = some (.c .nilFunc) := by kernel_rfl
@[go_sem] theorem kdOf48 : kdOf Try.prog 48 = .fn := by kernel_rfl
@[go_sem] theorem lay49 : lay Try.prog 49 = some (1, false) := by kernel_rfl
@[go_sem] theorem szOf49 : szOf Try.prog 49 = some 1 := by kernel_rfl
@[go_sem] theorem byOf49 : byOf Try.prog 49 = some 8 := by kernel_rfl
@[go_sem] theorem zerOf49 : zerOf Try.prog 49 = some (.c .nilFunc) := by kernel_rfl
@[go_sem] theorem kdOf49 : kdOf Try.prog 49 = .fn := by kernel_rfl
@[go_sem] theorem lay50 : lay Try.prog 50 = some (1, false) := by kernel_rfl
@[go_sem] theorem szOf50 : szOf Try.prog 50 = some 1 := by kernel_rfl
@[go_sem] theorem byOf50 : byOf Try.prog 50 = some 8 := by kernel_rfl
@[go_sem] theorem zerOf50 : zerOf Try.prog 50 = some (.c .nilFunc) := by kernel_rfl
@[go_sem] theorem kdOf50 : kdOf Try.prog 50 = .fn := by kernel_rfl
@[go_sem] theorem lay51 : lay Try.prog 51 = some (1, false) := by kernel_rfl
@[go_sem] theorem szOf51 : szOf Try.prog 51 = some 1 := by kernel_rfl
@[go_sem] theorem byOf51 : byOf Try.prog 51 = some 24 := by kernel_rfl
@[go_sem] theorem zerOf51 : zerOf Try.prog 51 = some (.fslc true true 0 []) := by kernel_rfl
@[go_sem] theorem eltOf51 : eltOf Try.prog 51 = some 5 := by kernel_rfl
@[go_sem] theorem kdOf51 : kdOf Try.prog 51 = .slice 5 := by kernel_rfl
@[go_sem] theorem lenK51 : lenK Try.prog 51 = .slice := by kernel_rfl
@[go_sem] theorem lay52 : lay Try.prog 52 = some (1, false) := by kernel_rfl
@[go_sem] theorem szOf52 : szOf Try.prog 52 = some 1 := by kernel_rfl
@[go_sem] theorem byOf52 : byOf Try.prog 52 = some 8 := by kernel_rfl
@[go_sem] theorem zerOf52 : zerOf Try.prog 52 = some (.c .nilFunc) := by kernel_rfl
@[go_sem] theorem kdOf52 : kdOf Try.prog 52 = .fn := by kernel_rfl
@[go_sem] theorem lay53 : lay Try.prog 53 = some (1, false) := by kernel_rfl
@[go_sem] theorem szOf53 : szOf Try.prog 53 = some 1 := by kernel_rfl
@[go_sem] theorem byOf53 : byOf Try.prog 53 = some 8 := by kernel_rfl
@[go_sem] theorem zerOf53 : zerOf Try.prog 53 = some (.c .nilFunc) := by kernel_rfl
@[go_sem] theorem kdOf53 : kdOf Try.prog 53 = .fn := by kernel_rfl
@[go_sem] theorem lay54 : lay Try.prog 54 = some (1, false) := by kernel_rfl
@[go_sem] theorem szOf54 : szOf Try.prog 54 = some 1 := by kernel_rfl
@[go_sem] theorem byOf54 : byOf Try.prog 54 = some 8 := by kernel_rfl
@[go_sem] theorem zerOf54 : zerOf Try.prog 54 = some (.c .nilFunc) := by kernel_rfl
@[go_sem] theorem kdOf54 : kdOf Try.prog 54 = .fn := by kernel_rfl
@[go_sem] theorem lay55 : lay Try.prog 55 = some (1, false) := by kernel_rfl
@[go_sem] theorem szOf55 : szOf Try.prog 55 = some 1 := by kernel_rfl
@[go_sem] theorem byOf55 : byOf Try.prog 55 = some 8 := by kernel_rfl
@[go_sem] theorem zerOf55 : zerOf Try.prog 55 = some (.c .nilFunc) := by kernel_rfl
@[go_sem] theorem kdOf55 : kdOf Try.prog 55 = .fn := by kernel_rfl
@[go_sem] theorem lay56 : lay Try.prog 56 = some (1, false) := by kernel_rfl
@[go_sem] theorem szOf56 : szOf Try.prog 56 = some 1 := by kernel_rfl
@[go_sem] theorem byOf56 : byOf Try.prog 56 = some 8 := by kernel_rfl
@[go_sem] theorem zerOf56 : zerOf Try.prog 56 = some (.c (.map none)) := by kernel_rfl
@[go_sem] theorem kdOf56 : kdOf Try.prog 56 = .map := by kernel_rfl
@[go_sem] theorem lenK56 : lenK Try.prog 56 = .map := by kernel_rfl
@[go_sem] theorem lay57 : lay Try.prog 57 = some (6, true) := by kernel_rfl
@[go_sem] theorem szOf57 : szOf Try.prog 57 = some 6 := by kernel_rfl
@[go_sem] theorem byOf57 : byOf Try.prog 57 = some 64 := by kernel_rfl
@[go_sem] theorem zerOf57 : zerOf Try.prog 57 = some (.agg [iv .i64 0, iv .i64 0, iv .i64 0, iv .i64 0, .c (.map none), .fslc true true 0 []]) := by kernel_rfl
@[go_sem] theorem fldOf57_0 : fldOf Try.prog 57 0 = some (0, 1) := by kernel_rfl
@[go_sem] theorem fldOf57_1 : fldOf Try.prog 57 1 = some (1, 1) := by kernel_rfl
@[go_sem] theorem fldOf57_2 : fldOf Try.prog 57 2 = some (2, 1) := by kernel_rfl
@[go_sem] theorem fldOf57_3 : fldOf Try.prog 57 3 = some (3, 1) := by kernel_rfl
@[go_sem] theorem fldOf57_4 : fldOf Try.prog 57 4 = some (4, 1) := by kernel_rfl
@[go_sem] theorem fldOf57_5 : fldOf Try.prog 57 5 = some (5, 1) := by kernel_rfl
@[go_sem] theorem sizesOk57 : sizesOk Try.prog 57 = true := by kernel_rfl
@[go_sem] theorem lay58 : lay Try.prog 58 = some (6, true) := by kernel_rfl
@[go_sem] theorem szOf58 : szOf Try.prog 58 = some 6 := by kernel_rfl
@[go_sem] theorem byOf58 : byOf Try.prog 58 = some 64 := by kernel_rfl
@[go_sem] theorem zerOf58 : zerOf Try.prog 58 = some (.agg [iv .i64 0, iv .i64 0, iv .i64 0, iv .i64 0, .c (.map none), .fslc true true 0 []]) := by kernel_rfl
@[go_sem] theorem fldOf58_0 : fldOf Try.prog 58 0 = some (0, 1) := by kernel_rfl
@[go_sem] theorem fldOf58_1 : fldOf Try.prog 58 1 = some (1, 1) := by kernel_rfl
@[go_sem] theorem fldOf58_2 : fldOf Try.prog 58 2 = some (2, 1) := by kernel_rfl
@[go_sem] theorem fldOf58_3 : fldOf Try.prog 58 3 = some (3, 1) := by kernel_rfl
@[go_sem] theorem fldOf58_4 : fldOf Try.prog 58 4 = some (4, 1) := by kernel_rfl
@[go_sem] theorem fldOf58_5 : fldOf Try.prog 58 5 = some (5, 1) := by kernel_rfl
@[go_sem] theorem sizesOk58 : sizesOk Try.prog 58 = true := by kernel_rfl
@[go_sem] theorem lay59 : lay Try.prog 59 = some (1, false) := by kernel_rfl
@[go_sem] theorem szOf59 : szOf Try.prog 59 = some 1 := by kernel_rfl
@[go_sem] theorem byOf59 : byOf Try.prog 59 = some 8 := by kernel_rfl
@[go_sem] theorem zerOf59 : zerOf Try.prog 59 = some (.c (.pointer none)) := by kernel_rfl
@[go_sem] theorem kdOf59 : kdOf Try.prog 59 = .ptr 61 := by kernel_rfl
@[go_sem] theorem lay60 : lay Try.prog 60 = some (4, true) := by kernel_rfl
@[go_sem] theorem szOf60 : szOf Try.prog 60 = some 4 := by kernel_rfl
@[go_sem] theorem byOf60 : byOf Try.prog 60 = some 48 := by kernel_rfl
@[go_sem] theorem zerOf60 : zerOf Try.prog 60 = some (.agg [.fslc true true 0 [], iv .i64 0, iv .i64 0, iv .i64 0]) := by kernel_rfl
@[go_sem] theorem fldOf60_0 : fldOf Try.prog 60 0 = some (0, 1) := by kernel_rfl
@[go_sem] theorem fldOf60_1 : fldOf Try.prog 60 1 = some (1, 1) := by kernel_rfl
@[go_sem] theorem fldOf60_2 : fldOf Try.prog 60 2 = some (2, 1) := by kernel_rfl
@[go_sem] theorem fldOf60_3 : fldOf Try.prog 60 3 = some (3, 1) := by kernel_rfl
@[go_sem] theorem sizesOk60 : sizesOk Try.prog 60 = true := by kernel_rfl
@[go_sem] theorem lay61 : lay Try.prog 61 = some (4, true) := by kernel_rfl
@[go_sem] theorem szOf61 : szOf Try.prog 61 = some 4 := by kernel_rfl
@[go_sem] theorem byOf61 : byOf Try.prog 61 = some 48 := by kernel_rfl
@[go_sem] theorem zerOf61 : zerOf Try.prog 61 = some (.agg [.fslc true true 0 [], iv .i64 0, iv .i64 0, iv .i64 0]) := by kernel_rfl
@[go_sem] theorem fldOf61_0 : fldOf Try.prog 61 0 = some (0, 1) := by kernel_rfl
@[go_sem] theorem fldOf61_1 : fldOf Try.prog 61 1 = some (1, 1) := by kernel_rfl
@[go_sem] theorem fldOf61_2 : fldOf Try.prog 61 2 = some (2, 1) := by kernel_rfl
@[go_sem] theorem fldOf61_3 : fldOf Try.prog 61 3 = some (3, 1) := by kernel_rfl
@[go_sem] theorem sizesOk61 : sizesOk Try.prog 61 = true := by kernel_rfl
@[go_sem] theorem lay62 : lay Try.prog 62 = some (2, true) := by kernel_rfl
@[go_sem] theorem szOf62 : szOf Try.prog 62 = some 2 := by kernel_rfl
@[go_sem] theorem byOf62 : byOf Try.prog 62 = some 16 := by kernel_rfl
@[go_sem] theorem zerOf62 : zerOf Try.prog 62 = some (.agg [iv .i64 0, iv .i64 0]) := by kernel_rfl
@[go_sem] theorem fldOf62_0 : fldOf Try.prog 62 0 = some (0, 1) := by kernel_rfl
@[go_sem] theorem fldOf62_1 : fldOf Try.prog 62 1 = some (1, 1) := by kernel_rfl
@[go_sem] theorem sizesOk62 : sizesOk Try.prog 62 = true := by kernel_rfl
@[go_sem] theorem lay63 : lay Try.prog 63 = some (2, true) := by kernel_rfl
@[go_sem] theorem szOf63 : szOf Try.prog 63 = some 2 := by kernel_rfl
@[go_sem] theorem byOf63 : byOf Try.prog 63 = some 16 := by kernel_rfl
@[go_sem] theorem zerOf63 : zerOf Try.prog 63 = some (.agg [iv .i64 0, iv .i64 0]) := by kernel_rfl
@[go_sem] theorem fldOf63_0 : fldOf Try.prog 63 0 = some (0, 1) := by kernel_rfl
@[go_sem] theorem fldOf63_1 : fldOf Try.prog 63 1 = some (1, 1) := by kernel_rfl
@[go_sem] theorem sizesOk63 : sizesOk Try.prog 63 = true := by kernel_rfl
@[go_sem] theorem lay64 : lay Try.prog 64 = some (1, false) := by kernel_rfl
@[go_sem] theorem szOf64 : szOf Try.prog 64 = some 1 := by kernel_rfl
@[go_sem] theorem byOf64 : byOf Try.prog 64 = some 8 := by kernel_rfl
@[go_sem] theorem zerOf64 : zerOf Try.prog 64 = some (.c .nilFunc) := by kernel_rfl
@[go_sem] theorem kdOf64 : kdOf Try.prog 64 = .fn := by kernel_rfl
@[go_sem] theorem lay65 : lay Try.prog 65 = some (1, false) := by kernel_rfl
@[go_sem] theorem szOf65 : szOf Try.prog 65 = some 1 := by kernel_rfl
@[go_sem] theorem byOf65 : byOf Try.prog 65 = some 8 := by kernel_rfl
@[go_sem] theorem zerOf65 : zerOf Try.prog 65 = some (.c .nilFunc) := by kernel_rfl
@[go_sem] theorem kdOf65 : kdOf Try.prog 65 = .fn := by kernel_rfl
@[go_sem] theorem lay66 : lay Try.prog 66 = some (1, false) := by kernel_rfl
@[go_sem] theorem szOf66 : szOf Try.prog 66 = some 1 := by kernel_rfl
@[go_sem] theorem byOf66 : byOf Try.prog 66 = some 8 := by kernel_rfl
@[go_sem] theorem zerOf66 : zerOf Try.prog 66 = some (.c .nilFunc) := by kernel_rfl
@[go_sem] theorem kdOf66 : kdOf Try.prog 66 = .fn := by kernel_rfl
@[go_sem] theorem lay67 : lay Try.prog 67 = some (1, false) := by kernel_rfl
@[go_sem] theorem szOf67 : szOf Try.prog 67 = some 1 := by kernel_rfl
@[go_sem] theorem byOf67 : byOf Try.prog 67 = some 8 := by kernel_rfl
@[go_sem] theorem zerOf67 : zerOf Try.prog 67 = some (.c .nilFunc) := by kernel_rfl
@[go_sem] theorem kdOf67 : kdOf Try.prog 67 = .fn := by kernel_rfl
@[go_sem] theorem lay68 : lay Try.prog 68 = some (2, true) := by kernel_rfl
@[go_sem] theorem szOf68 : szOf Try.prog 68 = some 2 := by kernel_rfl
@[go_sem] theorem byOf68 : byOf Try.prog 68 = some 16 := by kernel_rfl
@[go_sem] theorem zerOf68 : zerOf Try.prog 68 = some (.agg [.c .nilFunc, .c .nilFunc]) := by kernel_rfl
@[go_sem] theorem fldOf68_0 : fldOf Try.prog 68 0 = some (0, 1) := by kernel_rfl
@[go_sem] theorem fldOf68_1 : fldOf Try.prog 68 1 = some (1, 1) := by kernel_rfl
@[go_sem] theorem sizesOk68 : sizesOk Try.prog 68 = true := by kernel_rfl
@[go_sem] theorem lay69 : lay Try.prog 69 = some (2, true) := by kernel_rfl
@[go_sem] theorem szOf69 : szOf Try.prog 69 = some 2 := by kernel_rfl
@[go_sem] theorem byOf69 : byOf Try.prog 69 = some 16 := by kernel_rfl
@[go_sem] theorem zerOf69 : zerOf Try.prog 69 = some (.agg [.c .nilFunc, .c .nilFunc]) := by kernel_rfl
@[go_sem] theorem fldOf69_0 : fldOf Try.prog 69 0 = some (0, 1) := by kernel_rfl
@[go_sem] theorem fldOf69_1 : fldOf Try.prog 69 1 = some (1, 1) := by kernel_rfl
@[go_sem] theorem sizesOk69 : sizesOk Try.prog 69 = true := by kernel_rfl
@[go_sem] theorem lay71 : lay Try.prog 71 = some (1, false) := by kernel_rfl
@[go_sem] theorem szOf71 : szOf Try.prog 71 = some 1 := by kernel_rfl
@[go_sem] theorem byOf71 : byOf Try.prog 71 = some 8 := by kernel_rfl
@[go_sem] theorem zerOf71 : zerOf Try.prog 71 = some (.c (.map none)) := by kernel_rfl
@[go_sem] theorem kdOf71 : kdOf Try.prog 71 = .map := by kernel_rfl
@[go_sem] theorem lenK71 : lenK Try.prog 71 = .map := by kernel_rfl
@[go_sem] theorem lay72 : lay Try.prog 72 = some (1, false) := by kernel_rfl
@[go_sem] theorem szOf72 : szOf Try.prog 72 = some 1 := by kernel_rfl
@[go_sem] theorem byOf72 : byOf Try.prog 72 = some 8 := by kernel_rfl
@[go_sem] theorem zerOf72 : zerOf Try.prog 72 = some (.c .nilFunc) := by kernel_rfl
@[go_sem] theorem kdOf72 : kdOf Try.prog 72 = .fn := by kernel_rfl
@[go_sem] theorem lay73 : lay Try.prog 73 = some (1, false) := by kernel_rfl
@[go_sem] theorem szOf73 : szOf Try.prog 73 = some 1 := by kernel_rfl
@[go_sem] theorem byOf73 : byOf Try.prog 73 = some 8 := by kernel_rfl
@[go_sem] theorem zerOf73 : zerOf Try.prog 73 = some (.c .nilFunc) := by kernel_rfl
@[go_sem] theorem kdOf73 : kdOf Try.prog 73 = .fn := by kernel_rfl
@[go_sem] theorem lay74 : lay Try.prog 74 = some (1, false) := by kernel_rfl
@[go_sem] theorem szOf74 : szOf Try.prog 74 = some 1 := by kernel_rfl
@[go_sem] theorem byOf74 : byOf Try.prog 74 = some 8 := by kernel_rfl
@[go_sem] theorem zerOf74 : zerOf Try.prog 74 = some (.c .nilFunc) := by kernel_rfl
@[go_sem] theorem kdOf74 : kdOf Try.prog 74 = .fn := by kernel_rfl
@[go_sem] theorem lay75 : lay Try.prog 75 = some (1, false) := by kernel_rfl
@[go_sem] theorem szOf75 : szOf Try.prog 75 = some 1 := by kernel_rfl
@[go_sem] theorem byOf75 : byOf Try.prog 75 = some 24 := by kernel_rfl
@[go_sem] theorem zerOf75 : zerOf Try.prog 75 = some (.fslc true true 0 []) := by kernel_rfl
@[go_sem] theorem eltOf75 : eltOf Try.prog 75 = some 88 := by kernel_rfl
@[go_sem] theorem kdOf75 : kdOf Try.prog 75 = .slice 88 := by kernel_rfl
@[go_sem] theorem lenK75 : lenK Try.prog 75 = .slice := by kernel_rfl
@[go_sem] theorem lay76 : lay Try.prog 76 = some (6, true) := by kernel_rfl
@[go_sem] theorem szOf76 : szOf Try.prog 76 = some 6 := by kernel_rfl
@[go_sem] theorem byOf76 : byOf Try.prog 76 = some 80 := by kernel_rfl
@[go_sem] theorem zerOf76 : zerOf Try.prog 76 = some (.agg [iv .i64 0, iv .i64 0, iv .i64 0, iv .i64 0, .fslc true true 0 [], .fslc true true 0 []]) := by kernel_rfl
@[go_sem] theorem fldOf76_0 : fldOf Try.prog 76 0 = some (0, 1) := by kernel_rfl
@[go_sem] theorem fldOf76_1 : fldOf Try.prog 76 1 = some (1, 1) := by kernel_rfl
@[go_sem] theorem fldOf76_2 : fldOf Try.prog 76 2 = some (2, 1) := by kernel_rfl
@[go_sem] theorem fldOf76_3 : fldOf Try.prog 76 3 = some (3, 1) := by kernel_rfl
@[go_sem] theorem fldOf76_4 : fldOf Try.prog 76 4 = some (4, 1) := by kernel_rfl
@[go_sem] theorem fldOf76_5 : fldOf Try.prog 76 5 = some (5, 1) := by kernel_rfl
@[go_sem] theorem sizesOk76 : sizesOk Try.prog 76 = true := by kernel_rfl
@[go_sem] theorem lay77 : lay Try.prog 77 = some (6, true) := by kernel_rfl
@[go_sem] theorem szOf77 : szOf Try.prog 77 = some 6 := by kernel_rfl
@[go_sem] theorem byOf77 : byOf Try.prog 77 = some 80 := by kernel_rfl
@[go_sem] theorem zerOf77 : zerOf Try.prog 77 = some (.agg [iv .i64 0, iv .i64 0, iv .i64 0, iv .i64 0, .fslc true true 0 [], .fslc true true 0 []]) := by kernel_rfl
@[go_sem] theorem fldOf77_0 : fldOf Try.prog 77 0 = some (0, 1) := by kernel_rfl
@[go_sem] theorem fldOf77_1 : fldOf Try.prog 77 1 = some (1, 1) := by kernel_rfl
@[go_sem] theorem fldOf77_2 : fldOf Try.prog 77 2 = some (2, 1) := by kernel_rfl
@[go_sem] theorem fldOf77_3 : fldOf Try.prog 77 3 = some (3, 1) := by kernel_rfl
@[go_sem] theorem fldOf77_4 : fldOf Try.prog 77 4 = some (4, 1) := by kernel_rfl
@[go_sem] theorem fldOf77_5 : fldOf Try.prog 77 5 = some (5, 1) := by kernel_rfl
@[go_sem] theorem sizesOk77 : sizesOk Try.prog 77 = true := by kernel_rfl
@[go_sem] theorem lay78 : lay Try.prog 78 = some (1, false) := by kernel_rfl
@[go_sem] theorem szOf78 : szOf Try.prog 78 = some 1 := by kernel_rfl
@[go_sem] theorem byOf78 : byOf Try.prog 78 = some 8 := by kernel_rfl
@[go_sem] theorem zerOf78 : zerOf Try.prog 78 = some (.c .nilFunc) := by kernel_rfl
@[go_sem] theorem kdOf78 : kdOf Try.prog 78 = .fn := by kernel_rfl
@[go_sem] theorem lay79 : lay Try.prog 79 = some (1, false) := by kernel_rfl
@[go_sem] theorem szOf79 : szOf Try.prog 79 = some 1 := by kernel_rfl
@[go_sem] theorem byOf79 : byOf Try.prog 79 = some 8 := by kernel_rfl
@[go_sem] theorem zerOf79 : zerOf Try.prog 79 = some (.c .nilFunc) := by kernel_rfl
@[go_sem] theorem kdOf79 : kdOf Try.prog 79 = .fn := by kernel_rfl
@[go_sem] theorem lay80 : lay Try.prog 80 = some (1, false) := by kernel_rfl
@[go_sem] theorem szOf80 : szOf Try.prog 80 = some 1 := by kernel_rfl
@[go_sem] theorem byOf80 : byOf Try.prog 80 = some 8 := by kernel_rfl
@[go_sem] theorem zerOf80 : zerOf Try.prog 80 = some (.c .nilFunc) := by kernel_rfl
@[go_sem] theorem kdOf80 : kdOf Try.prog 80 = .fn := by kernel_rfl
@[go_sem] theorem lay81 : lay Try.prog 81 = some (1, false) := by kernel_rfl
@[go_sem] theorem szOf81 : szOf Try.prog 81 = some 1 := by kernel_rfl
@[go_sem] theorem byOf81 : byOf Try.prog 81 = some 8 := by kernel_rfl
@[go_sem] theorem zerOf81 : zerOf Try.prog 81 = some (.c .nilFunc) := by kernel_rfl
@[go_sem] theorem kdOf81 : kdOf Try.prog 81 = .fn := by kernel_rfl
@[go_sem] theorem lay82 : lay Try.prog 82 = some (1, false) := by kernel_rfl
@[go_sem] theorem szOf82 : szOf Try.prog 82 = some 1 := by kernel_rfl
@[go_sem] theorem byOf82 : byOf Try.prog 82 = some 8 := by kernel_rfl
@[go_sem] theorem zerOf82 : zerOf Try.prog 82 = some (.c .nilFunc) := by kernel_rfl
@[go_sem] theorem kdOf82 : kdOf Try.prog 82 = .fn := by kernel_rfl
@[go_sem] theorem lay83 : lay Try.prog 83 = some (1, false) := by kernel_rfl
@[go_sem] theorem szOf83 : szOf Try.prog 83 = some 1 := by kernel_rfl
@[go_sem] theorem byOf83 : byOf Try.prog 83 = some 8 := by kernel_rfl
@[go_sem] theorem zerOf83 : zerOf Try.prog 83 = some (.c .nilFunc) := by kernel_rfl
@[go_sem] theorem kdOf83 : kdOf Try.prog 83 = .fn := by kernel_rfl
@[go_sem] theorem lay84 : lay Try.prog 84 = some (1, false) := by kernel_rfl
@[go_sem] theorem szOf84 : szOf Try.prog 84 = some 1 := by kernel_rfl
@[go_sem] theorem byOf84 : byOf Try.prog 84 = some 8 := by kernel_rfl
@[go_sem] theorem zerOf84 : zerOf Try.prog 84 = some (.c .nilFunc) := by kernel_rfl
@[go_sem] theorem kdOf84 : kdOf Try.prog 84 = .fn := by kernel_rfl
@[go_sem] theorem lay85 : lay Try.prog 85 = some (1, false) := by kernel_rfl
@[go_sem] theorem szOf85 : szOf Try.prog 85 = some 1 := by kernel_rfl
@[go_sem] theorem byOf85 : byOf Try.prog 85 = some 8 := by kernel_rfl
@[go_sem] theorem zerOf85 : zerOf Try.prog 85 = some (.c (.pointer none)) := by kernel_rfl
@[go_sem] theorem kdOf85 : kdOf Try.prog 85 = .ptr 88 := by kernel_rfl
@[go_sem] theorem lay86 : lay Try.prog 86 = some (1, false) := by kernel_rfl
@[go_sem] theorem szOf86 : szOf Try.prog 86 = some 1 := by kernel_rfl
@[go_sem] theorem byOf86 : byOf Try.prog 86 = some 8 := by kernel_rfl
@[go_sem] theorem zerOf86 : zerOf Try.prog 86 = some (.c .nilFunc) := by kernel_rfl
@[go_sem] theorem kdOf86 : kdOf Try.prog 86 = .fn := by kernel_rfl
@[go_sem] theorem lay87 : lay Try.prog 87 = some (4, true) := by kernel_rfl
@[go_sem] theorem szOf87 : szOf Try.prog 87 = some 4 := by kernel_rfl
@[go_sem] theorem byOf87 : byOf Try.prog 87 = some 48 := by kernel_rfl
@[go_sem] theorem zerOf87 : zerOf Try.prog 87 = some (.agg [.fslc true true 0 [], iv .i64 0, iv .i64 0, iv .i64 0]) := by kernel_rfl
@[go_sem] theorem fldOf87_0 : fldOf Try.prog 87 0 = some (0, 1) := by kernel_rfl
@[go_sem] theorem fldOf87_1 : fldOf Try.prog 87 1 = some (1, 1) := by kernel_rfl
@[go_sem] theorem fldOf87_2 : fldOf Try.prog 87 2 = some (2, 1) := by kernel_rfl
@[go_sem] theorem fldOf87_3 : fldOf Try.prog 87 3 = some (3, 1) := by kernel_rfl
@[go_sem] theorem sizesOk87 : sizesOk Try.prog 87 = true := by kernel_rfl
@[go_sem] theorem lay88 : lay Try.prog 88 = some (4, true) := by kernel_rfl
@[go_sem] theorem szOf88 : szOf Try.prog 88 = some 4 := by kernel_rfl
@[go_sem] theorem byOf88 : byOf Try.prog 88 = some 48 := by kernel_rfl
@[go_sem] theorem zerOf88 : zerOf Try.prog 88 = some (.agg [.fslc true true 0 [], iv .i64 0, iv .i64 0, iv .i64 0]) := by kernel_rfl
@[go_sem] theorem fldOf88_0 : fldOf Try.prog 88 0 = some (0, 1) := by kernel_rfl
@[go_sem] theorem fldOf88_1 : fldOf Try.prog 88 1 = some (1, 1) := by kernel_rfl
@[go_sem] theorem fldOf88_2 : fldOf Try.prog 88 2 = some (2, 1) := by kernel_rfl
@[go_sem] theorem fldOf88_3 : fldOf Try.prog 88 3 = some (3, 1) := by kernel_rfl
@[go_sem] theorem sizesOk88 : sizesOk Try.prog 88 = true := by kernel_rfl
@[go_sem] theorem lay89 : lay Try.prog 89 = some (1, false) := by kernel_rfl
@[go_sem] theorem szOf89 : szOf Try.prog 89 = some 1 := by kernel_rfl
@[go_sem] theorem byOf89 : byOf Try.prog 89 = some 8 := by kernel_rfl
@[go_sem] theorem zerOf89 : zerOf Try.prog 89 = some (.c .nilFunc) := by kernel_rfl
@[go_sem] theorem kdOf89 : kdOf Try.prog 89 = .fn := by kernel_rfl
@[go_sem] theorem lay91 : lay Try.prog 91 = some (1, false) := by kernel_rfl
@[go_sem] theorem szOf91 : szOf Try.prog 91 = some 1 := by kernel_rfl
@[go_sem] theorem byOf91 : byOf Try.prog 91 = some 8 := by kernel_rfl
@[go_sem] theorem zerOf91 : zerOf Try.prog 91 = some (.c .nilFunc) := by kernel_rfl
@[go_sem] theorem kdOf91 : kdOf Try.prog 91 = .fn := by kernel_rfl
@[go_sem] theorem lay92 : lay Try.prog 92 = some (1, false) := by kernel_rfl
@[go_sem] theorem szOf92 : szOf Try.prog 92 = some 1 := by kernel_rfl
@[go_sem] theorem byOf92 : byOf Try.prog 92 = some 8 := by kernel_rfl
@[go_sem] theorem zerOf92 : zerOf Try.prog 92 = some (.c .nilFunc) := by kernel_rfl
@[go_sem] theorem kdOf92 : kdOf Try.prog 92 = .fn := by kernel_rfl
@[go_sem] theorem lay93 : lay Try.prog 93 = some (1, false) := by kernel_rfl
@[go_sem] theorem szOf93 : szOf Try.prog 93 = some 1 := by kernel_rfl
@[go_sem] theorem byOf93 : byOf Try.prog 93 = some 8 := by kernel_rfl
@[go_sem] theorem zerOf93 : zerOf Try.prog 93 = some (.c .nilFunc) := by kernel_rfl
@[go_sem] theorem kdOf93 : kdOf Try.prog 93 = .fn := by kernel_rfl
@[go_sem] theorem lay94 : lay Try.prog 94 = some (1, false) := by kernel_rfl
@[go_sem] theorem szOf94 : szOf Try.prog 94 = some 1 := by kernel_rfl
@[go_sem] theorem byOf94 : byOf Try.prog 94 = some 8 := by kernel_rfl
@[go_sem] theorem zerOf94 : zerOf Try.prog 94 = some (.c (.chan none)) := by kernel_rfl
@[go_sem] theorem lay95 : lay Try.prog 95 = some (1, false) := by kernel_rfl
@[go_sem] theorem szOf95 : szOf Try.prog 95 = some 1 := by kernel_rfl
@[go_sem] theorem byOf95 : byOf Try.prog 95 = some 8 := by kernel_rfl
@[go_sem] theorem zerOf95 : zerOf Try.prog 95 = some (.c .nilFunc) := by kernel_rfl
@[go_sem] theorem kdOf95 : kdOf Try.prog 95 = .fn := by kernel_rfl
@[go_sem] theorem lay96 : lay Try.prog 96 = some (1, false) := by kernel_rfl
@[go_sem] theorem szOf96 : szOf Try.prog 96 = some 1 := by kernel_rfl
@[go_sem] theorem byOf96 : byOf Try.prog 96 = some 8 := by kernel_rfl
@[go_sem] theorem zerOf96 : zerOf Try.prog 96 = some (.c .nilFunc) := by kernel_rfl
@[go_sem] theorem kdOf96 : kdOf Try.prog 96 = .fn := by kernel_rfl
@[go_sem] theorem lay97 : lay Try.prog 97 = some (4, true) := by kernel_rfl
@[go_sem] theorem szOf97 : szOf Try.prog 97 = some 4 := by kernel_rfl
@[go_sem] theorem byOf97 : byOf Try.prog 97 = some 40 := by kernel_rfl
@[go_sem] theorem zerOf97 : zerOf Try.prog 97 = some (.agg [.c (.pointer none), .c (.pointer none), .c (.pointer none), sv ByteArray.empty]) := by kernel_rfl
@[go_sem] theorem fldOf97_0 : fldOf Try.prog 97 0 = some (0, 1) := by kernel_rfl
@[go_sem] theorem fldOf97_1 : fldOf Try.prog 97 1 = some (1, 1) := by kernel_rfl
@[go_sem] theorem fldOf97_2 : fldOf Try.prog 97 2 = some (2, 1) := by kernel_rfl
@[go_sem] theorem fldOf97_3 : fldOf Try.prog 97 3 = some (3, 1) := by kernel_rfl
@[go_sem] theorem sizesOk97 : sizesOk Try.prog 97 = true := by kernel_rfl
@[go_sem] theorem lay98 : lay Try.prog 98 = some (4, true) := by kernel_rfl
@[go_sem] theorem szOf98 : szOf Try.prog 98 = some 4 := by kernel_rfl
@[go_sem] theorem byOf98 : byOf Try.prog 98 = some 40 := by kernel_rfl
@[go_sem] theorem zerOf98 : zerOf Try.prog 98 = some (.agg [.c (.pointer none), .c (.pointer none), .c (.pointer none), sv ByteArray.empty]) := by kernel_rfl
@[go_sem] theorem fldOf98_0 : fldOf Try.prog 98 0 = some (0, 1) := by kernel_rfl
@[go_sem] theorem fldOf98_1 : fldOf Try.prog 98 1 = some (1, 1) := by kernel_rfl
@[go_sem] theorem fldOf98_2 : fldOf Try.prog 98 2 = some (2, 1) := by kernel_rfl
@[go_sem] theorem fldOf98_3 : fldOf Try.prog 98 3 = some (3, 1) := by kernel_rfl
@[go_sem] theorem sizesOk98 : sizesOk Try.prog 98 = true := by kernel_rfl
@[go_sem] theorem lay99 : lay Try.prog 99 = some (0, true) := by kernel_rfl
@[go_sem] theorem szOf99 : szOf Try.prog 99 = some 0 := by kernel_rfl
@[go_sem] theorem byOf99 : byOf Try.prog 99 = some 0 := by kernel_rfl
@[go_sem] theorem zerOf99 : zerOf Try.prog 99 = some (.agg []) := by kernel_rfl
@[go_sem] theorem lay100 : lay Try.prog 100 = some (0, true) := by kernel_rfl
@[go_sem] theorem szOf100 : szOf Try.prog 100 = some 0 := by kernel_rfl
@[go_sem] theorem byOf100 : byOf Try.prog 100 = some 0 := by kernel_rfl
@[go_sem] theorem zerOf100 : zerOf Try.prog 100 = some (.agg []) := by kernel_rfl
@[go_sem] theorem fldOf100_0 : fldOf Try.prog 100 0 = some (0, 0) := by kernel_rfl
@[go_sem] theorem sizesOk100 : sizesOk Try.prog 100 = true := by kernel_rfl
@[go_sem] theorem lay101 : lay Try.prog 101 = some (0, true) := by kernel_rfl
@[go_sem] theorem szOf101 : szOf Try.prog 101 = some 0 := by kernel_rfl
@[go_sem] theorem byOf101 : byOf Try.prog 101 = some 0 := by kernel_rfl
@[go_sem] theorem zerOf101 : zerOf Try.prog 101 = some (.agg []) := by kernel_rfl
@[go_sem] theorem fldOf101_0 : fldOf Try.prog 101 0 = some (0, 0) := by kernel_rfl
@[go_sem] theorem sizesOk101 : sizesOk Try.prog 101 = true := by kernel_rfl
@[go_sem] theorem lay102 : lay Try.prog 102 = some (1, false) := by kernel_rfl
@[go_sem] theorem szOf102 : szOf Try.prog 102 = some 1 := by kernel_rfl
@[go_sem] theorem byOf102 : byOf Try.prog 102 = some 4 := by kernel_rfl
@[go_sem] theorem zerOf102 : zerOf Try.prog 102 = some (iv .u32 0) := by kernel_rfl
@[go_sem] theorem lay103 : lay Try.prog 103 = some (1, false) := by kernel_rfl
@[go_sem] theorem szOf103 : szOf Try.prog 103 = some 1 := by kernel_rfl
@[go_sem] theorem byOf103 : byOf Try.prog 103 = some 1 := by kernel_rfl
@[go_sem] theorem zerOf103 : zerOf Try.prog 103 = some (iv .u8 0) := by kernel_rfl
@[go_sem] theorem lay104 : lay Try.prog 104 = some (1, false) := by kernel_rfl
@[go_sem] theorem szOf104 : szOf Try.prog 104 = some 1 := by kernel_rfl
@[go_sem] theorem byOf104 : byOf Try.prog 104 = some 1 := by kernel_rfl
@[go_sem] theorem zerOf104 : zerOf Try.prog 104 = some (iv .u8 0) := by kernel_rfl
@[go_sem] theorem lay105 : lay Try.prog 105 = some (1, false) := by kernel_rfl
@[go_sem] theorem szOf105 : szOf Try.prog 105 = some 1 := by kernel_rfl
@[go_sem] theorem byOf105 : byOf Try.prog 105 = some 8 := by kernel_rfl
@[go_sem] theorem zerOf105 : zerOf Try.prog 105 = some (.c .nilFunc) := by kernel_rfl
@[go_sem] theorem kdOf105 : kdOf Try.prog 105 = .fn := by kernel_rfl
@[go_sem] theorem lay106 : lay Try.prog 106 = some (1, false) := by kernel_rfl
@[go_sem] theorem szOf106 : szOf Try.prog 106 = some 1 := by kernel_rfl
@[go_sem] theorem byOf106 : byOf Try.prog 106 = some 8 := by kernel_rfl
@[go_sem] theorem zerOf106 : zerOf Try.prog 106 = some (.c (.pointer none)) := by kernel_rfl
@[go_sem] theorem kdOf106 : kdOf Try.prog 106 = .ptr 5 := by kernel_rfl
@[go_sem] theorem lay107 : lay Try.prog 107 = some (1, false) := by kernel_rfl
@[go_sem] theorem szOf107 : szOf Try.prog 107 = some 1 := by kernel_rfl
@[go_sem] theorem byOf107 : byOf Try.prog 107 = some 4 := by kernel_rfl
@[go_sem] theorem zerOf107 : zerOf Try.prog 107 = some (iv .i32 0) := by kernel_rfl
@[go_sem] theorem lay108 : lay Try.prog 108 = some (1, false) := by kernel_rfl
@[go_sem] theorem szOf108 : szOf Try.prog 108 = some 1 := by kernel_rfl
@[go_sem] theorem byOf108 : byOf Try.prog 108 = some 4 := by kernel_rfl
@[go_sem] theorem zerOf108 : zerOf Try.prog 108 = some (iv .i32 0) := by kernel_rfl
@[go_sem] theorem lay109 : lay Try.prog 109 = some (11, true) := by kernel_rfl
@[go_sem] theorem szOf109 : szOf Try.prog 109 = some 11 := by kernel_rfl
@[go_sem] theorem byOf109 : byOf Try.prog 109 = some 48 := by kernel_rfl
@[go_sem] theorem zerOf109 : zerOf Try.prog 109 = some (.agg [iv .u64 0, iv .u64 0, iv .u32 0, iv .u8 0, iv .u8 0, iv .u8 0, iv .u8 0, .c .nilFunc, .c (.pointer none), iv .i32 0, iv .i32 0]) := by kernel_rfl
@[go_sem] theorem fldOf109_0 : fldOf Try.prog 109 0 = some (0, 1) := by kernel_rfl
@[go_sem] theorem fldOf109_1 : fldOf Try.prog 109 1 = some (1, 1) := by kernel_rfl
@[go_sem] theorem fldOf109_2 : fldOf Try.prog 109 2 = some (2, 1) := by kernel_rfl
@[go_sem] theorem fldOf109_3 : fldOf Try.prog 109 3 = some (3, 1) := by kernel_rfl
@[go_sem] theorem fldOf109_4 : fldOf Try.prog 109 4 = some (4, 1) := by kernel_rfl
@[go_sem] theorem fldOf109_5 : fldOf Try.prog 109 5 = some (5, 1) := by kernel_rfl
@[go_sem] theorem fldOf109_6 : fldOf Try.prog 109 6 = some (6, 1) := by kernel_rfl
@[go_sem] theorem fldOf109_7 : fldOf Try.prog 109 7 = some (7, 1) := by kernel_rfl
@[go_sem] theorem fldOf109_8 : fldOf Try.prog 109 8 = some (8, 1) := by kernel_rfl
@[go_sem] theorem fldOf109_9 : fldOf Try.prog 109 9 = some (9, 1) := by kernel_rfl
@[go_sem] theorem fldOf109_10 : fldOf Try.prog 109 10 = some (10, 1) := by kernel_rfl
@[go_sem] theorem sizesOk109 : sizesOk Try.prog 109 = true := by kernel_rfl
@[go_sem] theorem lay110 : lay Try.prog 110 = some (11, true) := by kernel_rfl
@[go_sem] theorem szOf110 : szOf Try.prog 110 = some 11 := by kernel_rfl
@[go_sem] theorem byOf110 : byOf Try.prog 110 = some 48 := by kernel_rfl
@[go_sem] theorem zerOf110 : zerOf Try.prog 110 = some (.agg [iv .u64 0, iv .u64 0, iv .u32 0, iv .u8 0, iv .u8 0, iv .u8 0, iv .u8 0, .c .nilFunc, .c (.pointer none), iv .i32 0, iv .i32 0]) := by kernel_rfl
@[go_sem] theorem fldOf110_0 : fldOf Try.prog 110 0 = some (0, 1) := by kernel_rfl
@[go_sem] theorem fldOf110_1 : fldOf Try.prog 110 1 = some (1, 1) := by kernel_rfl
@[go_sem] theorem fldOf110_2 : fldOf Try.prog 110 2 = some (2, 1) := by kernel_rfl
@[go_sem] theorem fldOf110_3 : fldOf Try.prog 110 3 = some (3, 1) := by kernel_rfl
@[go_sem] theorem fldOf110_4 : fldOf Try.prog 110 4 = some (4, 1) := by kernel_rfl
@[go_sem] theorem fldOf110_5 : fldOf Try.prog 110 5 = some (5, 1) := by kernel_rfl
@[go_sem] theorem fldOf110_6 : fldOf Try.prog 110 6 = some (6, 1) := by kernel_rfl
@[go_sem] theorem fldOf110_7 : fldOf Try.prog 110 7 = some (7, 1) := by kernel_rfl
@[go_sem] theorem fldOf110_8 : fldOf Try.prog 110 8 = some (8, 1) := by kernel_rfl
@[go_sem] theorem fldOf110_9 : fldOf Try.prog 110 9 = some (9, 1) := by kernel_rfl
@[go_sem] theorem fldOf110_10 : fldOf Try.prog 110 10 = some (10, 1) := by kernel_rfl
@[go_sem] theorem sizesOk110 : sizesOk Try.prog 110 = true := by kernel_rfl
@[go_sem] theorem mapTys56 : mapTys Try.prog 56 = some (63, 59) := by kernel_rfl
@[go_sem] theorem mapTys71 : mapTys Try.prog 71 = some (3, 69) := by kernel_rfl
@[go_sem] theorem chanElt94 : chanElt Try.prog 94 = some 36 := by kernel_rfl
end Go.AM
