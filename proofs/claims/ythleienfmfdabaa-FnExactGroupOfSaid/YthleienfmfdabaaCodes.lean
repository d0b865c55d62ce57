/- The compiled statements of the functions that the law reaches. -/
import Derived.Test.YthleienfmfdabaaProg
import Derived.Test.YthleienfmfdabaaAmSet
namespace Go.Proofs.Wb
open Go Go.Am
-- 4 loop.example/g00850/laws.FnExactGoodPlaces
abbrev n_laws_FnExactGoodPlaces : Nat := 4
def c_laws_FnExactGoodPlaces : AS :=
  .seq (.ops [⟨(some 1), none, .box (.tmp 0)⟩,
    ⟨(some 2), none, .mv (.const (.bool false))⟩])
  (.seq (.ops [⟨(some 3), none, .mv (.const (.int .i64 1048576))⟩])
  (.seq (.ops [⟨(some 7), none, .load (some 3) (.tmp 1)⟩,
    ⟨(some 8), none, .mv (.tmp 3)⟩,
    ⟨(some 9), none, .call 21 [(.tmp 7), (.tmp 8)]⟩,
    ⟨(some 3), none, .mv (.tmp 9)⟩])
  (.seq (.seq (.ops [⟨(some 10), none, .mv (.tmp 3)⟩,
    ⟨(some 11), none, .bin .lss (.tmp 10) (.const (.int .i64 0))⟩])
  (.cond (.tmp 11) (.seq (.ops [⟨(some 2), none, .mv (.const (.bool true))⟩])
  (.ret)) (.skip)))
  (.seq (.ops [⟨(some 12), none, .load (some 3) (.tmp 1)⟩,
    ⟨(some 13), none, .call 23 [(.tmp 12)]⟩,
    ⟨(some 14), none, .call 22 [(.tmp 13)]⟩,
    ⟨(some 4), none, .mv (.tmp 14)⟩])
  (.seq (.ops [⟨(some 15), none, .load (some 3) (.tmp 1)⟩,
    ⟨(some 16), none, .call 23 [(.tmp 15)]⟩,
    ⟨(some 5), none, .alloc (.agg #[.int .i64 0, .slice none 0 0, .slice none 0 0])⟩,
    ⟨none, none, .store 3 (.tmp 5) (.tmp 16)⟩])
  (.seq (.ops [⟨(some 17), none, .load (some 3) (.tmp 5)⟩,
    ⟨(some 18), none, .call 24 [(.tmp 17)]⟩,
    ⟨(some 6), none, .mv (.tmp 18)⟩])
  (.seq (.seq (.ops [⟨(some 19), none, .mv (.tmp 6)⟩,
    ⟨(some 20), none, .mv (.tmp 4)⟩,
    ⟨(some 21), none, .eqb true (.tmp 19) (.tmp 20)⟩])
  (.cond (.tmp 21) (.seq (.ops [⟨(some 2), none, .mv (.const (.bool false))⟩])
  (.ret)) (.skip)))
  (.seq (.seq (.rops [(false, ⟨(some 22), none, .load (some 3) (.tmp 5)⟩),
    (false, ⟨(some 23), none, .load (some 3) (.tmp 1)⟩),
    (true, ⟨(some 24), none, .call 23 [(.tmp 23)]⟩),
    (true, ⟨(some 25), none, .call 25 [(.tmp 22), (.tmp 24)]⟩),
    (false, ⟨(some 26), none, .not (.tmp 25)⟩)])
  (.cond (.tmp 26) (.seq (.ops [⟨(some 2), none, .mv (.const (.bool false))⟩])
  (.ret)) (.skip)))
  (.kept [] (.seq (.ops [⟨(some 2), none, .mv (.const (.bool true))⟩])
  (.ret)))))))))))
theorem h_laws_FnExactGoodPlaces : (Try.prog.funcs[n_laws_FnExactGoodPlaces]?).bind (fun fn => fn.body.bind (comp Try.prog fn.ntmps)) = some (AS.strip c_laws_FnExactGoodPlaces) := by kernel_rfl
theorem r_laws_FnExactGoodPlaces : (Try.prog.funcs[n_laws_FnExactGoodPlaces]?).map (fun fn => (fn.results.toList, fn.ntmps)) = some ([.tmp 2], 27) := by kernel_rfl
-- 5 loop.example/g00850/laws.FnExactEndsOf
abbrev n_laws_FnExactEndsOf : Nat := 5
def c_laws_FnExactEndsOf : AS :=
  .seq (.ops [⟨(some 2), none, .box (.tmp 0)⟩,
    ⟨(some 4), none, .mv (.const (.bool false))⟩])
  (.seq (.ops [⟨(some 5), none, .mv (.const (.int .i64 1048576))⟩])
  (.seq (.ops [⟨(some 13), none, .load (some 3) (.tmp 2)⟩,
    ⟨(some 14), none, .mv (.tmp 5)⟩,
    ⟨(some 15), none, .call 21 [(.tmp 13), (.tmp 14)]⟩,
    ⟨(some 5), none, .mv (.tmp 15)⟩])
  (.seq (.seq (.ops [⟨(some 16), none, .mv (.tmp 5)⟩,
    ⟨(some 17), none, .bin .lss (.tmp 16) (.const (.int .i64 0))⟩])
  (.cond (.tmp 17) (.seq (.ops [⟨(some 4), none, .mv (.const (.bool true))⟩])
  (.ret)) (.skip)))
  (.seq (.ops [⟨(some 19), none, .load (some 3) (.tmp 2)⟩,
    ⟨(some 20), none, .call 23 [(.tmp 19)]⟩,
    ⟨(some 21), none, .mv (.tmp 1)⟩,
    ⟨(some 22), none, .call 26 [(.tmp 20), (.tmp 21)]⟩,
    ⟨(some 18), none, .mv (.tmp 22)⟩,
    ⟨(some 23), none, .ext 0 (.tmp 18)⟩,
    ⟨(some 24), none, .ext 1 (.tmp 18)⟩,
    ⟨(some 25), none, .ext 2 (.tmp 18)⟩,
    ⟨(some 6), none, .mv (.tmp 23)⟩,
    ⟨(some 7), none, .mv (.tmp 24)⟩,
    ⟨(some 8), none, .mv (.tmp 25)⟩])
  (.kept [1, 2, 6, 7, 8] (.seq (.ops [⟨(some 26), none, .load (some 3) (.tmp 2)⟩,
    ⟨(some 27), none, .call 23 [(.tmp 26)]⟩,
    ⟨(some 9), none, .alloc (.agg #[.int .i64 0, .slice none 0 0, .slice none 0 0])⟩,
    ⟨none, none, .store 3 (.tmp 9) (.tmp 27)⟩])
  (.seq (.ops [⟨(some 29), none, .load (some 3) (.tmp 9)⟩,
    ⟨(some 30), none, .mv (.tmp 1)⟩,
    ⟨(some 31), none, .call 27 [(.tmp 29), (.tmp 30)]⟩,
    ⟨(some 28), none, .mv (.tmp 31)⟩,
    ⟨(some 32), none, .ext 0 (.tmp 28)⟩,
    ⟨(some 33), none, .ext 1 (.tmp 28)⟩,
    ⟨(some 34), none, .ext 2 (.tmp 28)⟩,
    ⟨(some 10), none, .mv (.tmp 32)⟩,
    ⟨(some 11), none, .mv (.tmp 33)⟩,
    ⟨(some 12), none, .mv (.tmp 34)⟩])
  (.kept [2, 6, 7, 8, 9, 10, 11, 12] (.seq (.seq (.ops [⟨(some 35), none, .mv (.tmp 10)⟩,
    ⟨(some 36), none, .mv (.tmp 6)⟩,
    ⟨(some 37), none, .bin .neq (.tmp 35) (.tmp 36)⟩,
    ⟨(some 38), none, .mv (.tmp 37)⟩,
    ⟨(some 39), some (38, false), .mv (.tmp 11)⟩,
    ⟨(some 40), some (38, false), .mv (.tmp 7)⟩,
    ⟨(some 41), some (38, false), .bin .neq (.tmp 39) (.tmp 40)⟩,
    ⟨(some 42), none, .pick (.tmp 38) (.const (.bool true)) (.tmp 41)⟩,
    ⟨(some 43), none, .mv (.tmp 42)⟩,
    ⟨(some 44), some (43, false), .mv (.tmp 12)⟩,
    ⟨(some 45), some (43, false), .mv (.tmp 8)⟩,
    ⟨(some 46), some (43, false), .eqb true (.tmp 44) (.tmp 45)⟩,
    ⟨(some 47), none, .pick (.tmp 43) (.const (.bool true)) (.tmp 46)⟩])
  (.kept [2, 9, 47] (.cond (.tmp 47) (.seq (.ops [⟨(some 4), none, .mv (.const (.bool false))⟩])
  (.ret)) (.skip))))
  (.kept [2, 9] (.seq (.seq (.rops [(false, ⟨(some 48), none, .load (some 3) (.tmp 9)⟩),
    (false, ⟨(some 49), none, .load (some 3) (.tmp 2)⟩),
    (true, ⟨(some 50), none, .call 23 [(.tmp 49)]⟩),
    (true, ⟨(some 51), none, .call 25 [(.tmp 48), (.tmp 50)]⟩),
    (false, ⟨(some 52), none, .not (.tmp 51)⟩)])
  (.cond (.tmp 52) (.seq (.ops [⟨(some 4), none, .mv (.const (.bool false))⟩])
  (.ret)) (.skip)))
  (.kept [] (.seq (.ops [⟨(some 4), none, .mv (.const (.bool true))⟩])
  (.ret))))))))))))))
theorem h_laws_FnExactEndsOf : (Try.prog.funcs[n_laws_FnExactEndsOf]?).bind (fun fn => fn.body.bind (comp Try.prog fn.ntmps)) = some (AS.strip c_laws_FnExactEndsOf) := by kernel_rfl
theorem r_laws_FnExactEndsOf : (Try.prog.funcs[n_laws_FnExactEndsOf]?).map (fun fn => (fn.results.toList, fn.ntmps)) = some ([.tmp 4], 53) := by kernel_rfl
-- 6 loop.example/g00850/laws.FnExactRangeOf
abbrev n_laws_FnExactRangeOf : Nat := 6
def c_laws_FnExactRangeOf : AS :=
  .seq (.ops [⟨(some 2), none, .box (.tmp 0)⟩,
    ⟨(some 4), none, .mv (.const (.bool false))⟩])
  (.seq (.seq (.ops [⟨(some 11), none, .mv (.tmp 1)⟩,
    ⟨(some 12), none, .lent (.tmp 11)⟩,
    ⟨(some 13), none, .bin .gtr (.tmp 12) (.const (.int .i64 1048576))⟩])
  (.cond (.tmp 13) (.seq (.ops [⟨(some 4), none, .mv (.const (.bool true))⟩])
  (.ret)) (.skip)))
  (.seq (.ops [⟨(some 5), none, .mv (.const (.int .i64 1048576))⟩])
  (.seq (.ops [⟨(some 14), none, .load (some 3) (.tmp 2)⟩,
    ⟨(some 15), none, .mv (.tmp 5)⟩,
    ⟨(some 16), none, .call 21 [(.tmp 14), (.tmp 15)]⟩,
    ⟨(some 5), none, .mv (.tmp 16)⟩])
  (.seq (.seq (.ops [⟨(some 17), none, .mv (.tmp 5)⟩,
    ⟨(some 18), none, .bin .lss (.tmp 17) (.const (.int .i64 0))⟩])
  (.cond (.tmp 18) (.seq (.ops [⟨(some 4), none, .mv (.const (.bool true))⟩])
  (.ret)) (.skip)))
  (.seq (.ops [⟨(some 20), none, .load (some 3) (.tmp 2)⟩,
    ⟨(some 21), none, .call 23 [(.tmp 20)]⟩,
    ⟨(some 22), none, .mv (.tmp 1)⟩,
    ⟨(some 23), none, .call 28 [(.tmp 21), (.tmp 22)]⟩,
    ⟨(some 19), none, .mv (.tmp 23)⟩,
    ⟨(some 24), none, .ext 0 (.tmp 19)⟩,
    ⟨(some 25), none, .ext 1 (.tmp 19)⟩,
    ⟨(some 6), none, .mv (.tmp 24)⟩,
    ⟨(some 7), none, .mv (.tmp 25)⟩])
  (.kept [1, 2, 6, 7] (.seq (.ops [⟨(some 26), none, .load (some 3) (.tmp 2)⟩,
    ⟨(some 27), none, .call 23 [(.tmp 26)]⟩,
    ⟨(some 8), none, .alloc (.agg #[.int .i64 0, .slice none 0 0, .slice none 0 0])⟩,
    ⟨none, none, .store 3 (.tmp 8) (.tmp 27)⟩])
  (.seq (.ops [⟨(some 29), none, .load (some 3) (.tmp 8)⟩,
    ⟨(some 30), none, .mv (.tmp 1)⟩,
    ⟨(some 31), none, .call 29 [(.tmp 29), (.tmp 30)]⟩,
    ⟨(some 28), none, .mv (.tmp 31)⟩,
    ⟨(some 32), none, .ext 0 (.tmp 28)⟩,
    ⟨(some 33), none, .ext 1 (.tmp 28)⟩,
    ⟨(some 9), none, .mv (.tmp 32)⟩,
    ⟨(some 10), none, .mv (.tmp 33)⟩])
  (.kept [2, 6, 7, 8, 9, 10] (.seq (.seq (.ops [⟨(some 34), none, .mv (.tmp 9)⟩,
    ⟨(some 35), none, .mv (.tmp 6)⟩,
    ⟨(some 36), none, .bin .neq (.tmp 34) (.tmp 35)⟩,
    ⟨(some 37), none, .mv (.tmp 36)⟩,
    ⟨(some 38), some (37, false), .mv (.tmp 10)⟩,
    ⟨(some 39), some (37, false), .mv (.tmp 7)⟩,
    ⟨(some 40), some (37, false), .eqb true (.tmp 38) (.tmp 39)⟩,
    ⟨(some 41), none, .pick (.tmp 37) (.const (.bool true)) (.tmp 40)⟩])
  (.kept [2, 8, 41] (.cond (.tmp 41) (.seq (.ops [⟨(some 4), none, .mv (.const (.bool false))⟩])
  (.ret)) (.skip))))
  (.kept [2, 8] (.seq (.seq (.rops [(false, ⟨(some 42), none, .load (some 3) (.tmp 8)⟩),
    (false, ⟨(some 43), none, .load (some 3) (.tmp 2)⟩),
    (true, ⟨(some 44), none, .call 23 [(.tmp 43)]⟩),
    (true, ⟨(some 45), none, .call 25 [(.tmp 42), (.tmp 44)]⟩),
    (false, ⟨(some 46), none, .not (.tmp 45)⟩)])
  (.cond (.tmp 46) (.seq (.ops [⟨(some 4), none, .mv (.const (.bool false))⟩])
  (.ret)) (.skip)))
  (.kept [] (.seq (.ops [⟨(some 4), none, .mv (.const (.bool true))⟩])
  (.ret)))))))))))))))
theorem h_laws_FnExactRangeOf : (Try.prog.funcs[n_laws_FnExactRangeOf]?).bind (fun fn => fn.body.bind (comp Try.prog fn.ntmps)) = some (AS.strip c_laws_FnExactRangeOf) := by kernel_rfl
theorem r_laws_FnExactRangeOf : (Try.prog.funcs[n_laws_FnExactRangeOf]?).map (fun fn => (fn.results.toList, fn.ntmps)) = some ([.tmp 4], 47) := by kernel_rfl
-- 7 loop.example/g00850/laws.FnExactGroupOf
abbrev n_laws_FnExactGroupOf : Nat := 7
def c_laws_FnExactGroupOf : AS :=
  .seq (.ops [⟨(some 2), none, .box (.tmp 0)⟩,
    ⟨(some 4), none, .mv (.const (.bool false))⟩])
  (.seq (.seq (.ops [⟨(some 11), none, .mv (.tmp 1)⟩,
    ⟨(some 12), none, .lent (.tmp 11)⟩,
    ⟨(some 13), none, .bin .gtr (.tmp 12) (.const (.int .i64 1048576))⟩])
  (.cond (.tmp 13) (.seq (.ops [⟨(some 4), none, .mv (.const (.bool true))⟩])
  (.ret)) (.skip)))
  (.seq (.ops [⟨(some 5), none, .mv (.const (.int .i64 1048576))⟩])
  (.seq (.ops [⟨(some 14), none, .load (some 3) (.tmp 2)⟩,
    ⟨(some 15), none, .mv (.tmp 5)⟩,
    ⟨(some 16), none, .call 21 [(.tmp 14), (.tmp 15)]⟩,
    ⟨(some 5), none, .mv (.tmp 16)⟩])
  (.seq (.seq (.ops [⟨(some 17), none, .mv (.tmp 5)⟩,
    ⟨(some 18), none, .bin .lss (.tmp 17) (.const (.int .i64 0))⟩])
  (.cond (.tmp 18) (.seq (.ops [⟨(some 4), none, .mv (.const (.bool true))⟩])
  (.ret)) (.skip)))
  (.seq (.ops [⟨(some 20), none, .load (some 3) (.tmp 2)⟩,
    ⟨(some 21), none, .call 23 [(.tmp 20)]⟩,
    ⟨(some 22), none, .mv (.tmp 1)⟩,
    ⟨(some 23), none, .call 30 [(.tmp 21), (.tmp 22)]⟩,
    ⟨(some 19), none, .mv (.tmp 23)⟩,
    ⟨(some 24), none, .ext 0 (.tmp 19)⟩,
    ⟨(some 25), none, .ext 1 (.tmp 19)⟩,
    ⟨(some 6), none, .mv (.tmp 24)⟩,
    ⟨(some 7), none, .mv (.tmp 25)⟩])
  (.kept [1, 2, 6, 7] (.seq (.ops [⟨(some 26), none, .load (some 3) (.tmp 2)⟩,
    ⟨(some 27), none, .call 23 [(.tmp 26)]⟩,
    ⟨(some 8), none, .alloc (.agg #[.int .i64 0, .slice none 0 0, .slice none 0 0])⟩,
    ⟨none, none, .store 3 (.tmp 8) (.tmp 27)⟩])
  (.seq (.ops [⟨(some 29), none, .load (some 3) (.tmp 8)⟩,
    ⟨(some 30), none, .mv (.tmp 1)⟩,
    ⟨(some 31), none, .call 31 [(.tmp 29), (.tmp 30)]⟩,
    ⟨(some 28), none, .mv (.tmp 31)⟩,
    ⟨(some 32), none, .ext 0 (.tmp 28)⟩,
    ⟨(some 33), none, .ext 1 (.tmp 28)⟩,
    ⟨(some 9), none, .mv (.tmp 32)⟩,
    ⟨(some 10), none, .mv (.tmp 33)⟩])
  (.kept [2, 6, 7, 8, 9, 10] (.seq (.seq (.ops [⟨(some 34), none, .mv (.tmp 9)⟩,
    ⟨(some 35), none, .mv (.tmp 6)⟩,
    ⟨(some 36), none, .bin .neq (.tmp 34) (.tmp 35)⟩,
    ⟨(some 37), none, .mv (.tmp 36)⟩,
    ⟨(some 38), some (37, false), .mv (.tmp 10)⟩,
    ⟨(some 39), some (37, false), .mv (.tmp 7)⟩,
    ⟨(some 40), some (37, false), .eqb true (.tmp 38) (.tmp 39)⟩,
    ⟨(some 41), none, .pick (.tmp 37) (.const (.bool true)) (.tmp 40)⟩])
  (.kept [2, 8, 41] (.cond (.tmp 41) (.seq (.ops [⟨(some 4), none, .mv (.const (.bool false))⟩])
  (.ret)) (.skip))))
  (.kept [2, 8] (.seq (.seq (.rops [(false, ⟨(some 42), none, .load (some 3) (.tmp 8)⟩),
    (false, ⟨(some 43), none, .load (some 3) (.tmp 2)⟩),
    (true, ⟨(some 44), none, .call 23 [(.tmp 43)]⟩),
    (true, ⟨(some 45), none, .call 25 [(.tmp 42), (.tmp 44)]⟩),
    (false, ⟨(some 46), none, .not (.tmp 45)⟩)])
  (.cond (.tmp 46) (.seq (.ops [⟨(some 4), none, .mv (.const (.bool false))⟩])
  (.ret)) (.skip)))
  (.kept [] (.seq (.ops [⟨(some 4), none, .mv (.const (.bool true))⟩])
  (.ret)))))))))))))))
theorem h_laws_FnExactGroupOf : (Try.prog.funcs[n_laws_FnExactGroupOf]?).bind (fun fn => fn.body.bind (comp Try.prog fn.ntmps)) = some (AS.strip c_laws_FnExactGroupOf) := by kernel_rfl
theorem r_laws_FnExactGroupOf : (Try.prog.funcs[n_laws_FnExactGroupOf]?).map (fun fn => (fn.results.toList, fn.ntmps)) = some ([.tmp 4], 47) := by kernel_rfl
-- 21 loop.example/g00850/laws.szPlaces
abbrev n_laws_szPlaces : Nat := 21
def c_laws_szPlaces : AS :=
  .seq (.ops [⟨(some 2), none, .box (.tmp 0)⟩,
    ⟨(some 4), none, .mv (.const (.int .i64 0))⟩])
  (.seq (.ops [⟨(some 5), none, .fa 1 (.tmp 2)⟩,
    ⟨(some 6), none, .load none (.tmp 5)⟩,
    ⟨(some 7), none, .mv (.tmp 1)⟩,
    ⟨(some 8), none, .call 43 [(.tmp 6), (.tmp 7)]⟩,
    ⟨(some 1), none, .mv (.tmp 8)⟩])
  (.seq (.seq (.ops [⟨(some 9), none, .mv (.tmp 1)⟩,
    ⟨(some 10), none, .bin .lss (.tmp 9) (.const (.int .i64 0))⟩])
  (.cond (.tmp 10) (.seq (.ops [⟨(some 4), none, .mv (.const (.int .i64 (-1)))⟩])
  (.ret)) (.skip)))
  (.seq (.ops [⟨(some 11), none, .fa 2 (.tmp 2)⟩,
    ⟨(some 12), none, .load none (.tmp 11)⟩,
    ⟨(some 13), none, .mv (.tmp 1)⟩,
    ⟨(some 14), none, .call 44 [(.tmp 12), (.tmp 13)]⟩,
    ⟨(some 1), none, .mv (.tmp 14)⟩])
  (.seq (.seq (.ops [⟨(some 15), none, .mv (.tmp 1)⟩,
    ⟨(some 16), none, .bin .lss (.tmp 15) (.const (.int .i64 0))⟩])
  (.cond (.tmp 16) (.seq (.ops [⟨(some 4), none, .mv (.const (.int .i64 (-1)))⟩])
  (.ret)) (.skip)))
  (.seq (.ops [⟨(some 17), none, .mv (.tmp 1)⟩,
    ⟨(some 4), none, .mv (.tmp 17)⟩])
  (.ret))))))
theorem h_laws_szPlaces : (Try.prog.funcs[n_laws_szPlaces]?).bind (fun fn => fn.body.bind (comp Try.prog fn.ntmps)) = some (AS.strip c_laws_szPlaces) := by kernel_rfl
theorem r_laws_szPlaces : (Try.prog.funcs[n_laws_szPlaces]?).map (fun fn => (fn.results.toList, fn.ntmps)) = some ([.tmp 4], 18) := by kernel_rfl
-- 22 loop.example/g00850/spec.GoodPlaces
abbrev n_spec_GoodPlaces : Nat := 22
def c_spec_GoodPlaces_l1 : AS :=
  .seq (.ops [⟨(some 9), none, .bin .lss (.tmp 8) (.tmp 7)⟩])
  (.seq (.cond (.tmp 9) (.skip) (.exit 0))
  (.seq (.block 1 (.seq (.ops [⟨(some 10), none, .mv (.tmp 8)⟩,
    ⟨(some 11), none, .ia 1 (.tmp 6) (.tmp 8)⟩,
    ⟨(some 12), none, .load none (.tmp 11)⟩,
    ⟨(some 3), none, .mv (.tmp 10)⟩,
    ⟨(some 4), none, .mv (.tmp 12)⟩])
  (.seq (.ops [⟨(some 13), none, .mv (.tmp 4)⟩,
    ⟨(some 14), none, .call 45 [(.tmp 13)]⟩,
    ⟨(some 15), none, .not (.tmp 14)⟩,
    ⟨(some 16), none, .mv (.tmp 15)⟩,
    ⟨(some 17), some (16, false), .mv (.tmp 3)⟩,
    ⟨(some 18), some (16, false), .bin .gtr (.tmp 17) (.const (.int .i64 0))⟩,
    ⟨(some 19), some (16, false), .mv (.tmp 18)⟩,
    ⟨(some 20), some (19, true), .fa 1 (.tmp 1)⟩,
    ⟨(some 21), some (19, true), .load none (.tmp 20)⟩,
    ⟨(some 22), some (19, true), .mv (.tmp 3)⟩,
    ⟨(some 23), some (19, true), .bin .sub (.tmp 22) (.const (.int .i64 1))⟩,
    ⟨(some 24), some (19, true), .ia 1 (.tmp 21) (.tmp 23)⟩,
    ⟨(some 25), some (19, true), .load none (.tmp 24)⟩,
    ⟨(some 26), some (19, true), .mv (.tmp 4)⟩,
    ⟨(some 27), some (19, true), .bin .geq (.tmp 25) (.tmp 26)⟩,
    ⟨(some 28), some (16, false), .pick (.tmp 19) (.tmp 27) (.const (.bool false))⟩,
    ⟨(some 29), none, .pick (.tmp 16) (.const (.bool true)) (.tmp 28)⟩])
  (.kept [1, 6, 7, 8, 29] (.cond (.tmp 29) (.seq (.ops [⟨(some 2), none, .mv (.const (.bool false))⟩])
  (.ret)) (.skip))))))
  (.kept [1, 6, 7, 8] (.ops [⟨(some 30), none, .bin .add (.tmp 8) (.const (.int .i64 1))⟩,
    ⟨(some 8), none, .mv (.tmp 30)⟩]))))
def c_spec_GoodPlaces : AS :=
  .seq (.ops [⟨(some 1), none, .box (.tmp 0)⟩,
    ⟨(some 2), none, .mv (.const (.bool false))⟩])
  (.seq (.seq (.ops [⟨(some 5), none, .fa 1 (.tmp 1)⟩,
    ⟨(some 6), none, .load none (.tmp 5)⟩,
    ⟨(some 7), none, .lens (.tmp 6)⟩,
    ⟨(some 8), none, .mv (.const (.int .i64 0))⟩])
  (.block 0 (.loop 1 [(1, 0), (6, 0), (7, 0), (8, 0)] c_spec_GoodPlaces_l1)))
  (.kept [1] (.seq (.ops [⟨(some 31), none, .fa 0 (.tmp 1)⟩,
    ⟨(some 32), none, .load none (.tmp 31)⟩,
    ⟨(some 33), none, .call 46 [(.tmp 32), (.const (.int .i64 0)), (.const (.int .i64 50))]⟩,
    ⟨(some 34), none, .mv (.tmp 33)⟩,
    ⟨(some 35), some (34, true), .fa 1 (.tmp 1)⟩,
    ⟨(some 36), some (34, true), .load none (.tmp 35)⟩,
    ⟨(some 37), some (34, true), .lens (.tmp 36)⟩,
    ⟨(some 38), some (34, true), .bin .leq (.tmp 37) (.const (.int .i64 4))⟩,
    ⟨(some 39), none, .pick (.tmp 34) (.tmp 38) (.const (.bool false))⟩,
    ⟨(some 40), none, .mv (.tmp 39)⟩,
    ⟨(some 41), some (40, true), .fa 2 (.tmp 1)⟩,
    ⟨(some 42), some (40, true), .load none (.tmp 41)⟩,
    ⟨(some 43), some (40, true), .lens (.tmp 42)⟩,
    ⟨(some 44), some (40, true), .fa 1 (.tmp 1)⟩,
    ⟨(some 45), some (40, true), .load none (.tmp 44)⟩,
    ⟨(some 46), some (40, true), .lens (.tmp 45)⟩,
    ⟨(some 47), some (40, true), .bin .add (.tmp 46) (.const (.int .i64 1))⟩,
    ⟨(some 48), some (40, true), .bin .eql (.tmp 43) (.tmp 47)⟩,
    ⟨(some 49), none, .pick (.tmp 40) (.tmp 48) (.const (.bool false))⟩,
    ⟨(some 50), none, .mv (.tmp 49)⟩,
    ⟨(some 51), some (50, true), .fa 2 (.tmp 1)⟩,
    ⟨(some 52), some (50, true), .load none (.tmp 51)⟩,
    ⟨(some 53), some (50, true), .call 47 [(.tmp 52), (.const (.int .i64 0)), (.const (.int .i64 3))]⟩,
    ⟨(some 54), none, .pick (.tmp 50) (.tmp 53) (.const (.bool false))⟩,
    ⟨(some 2), none, .mv (.tmp 54)⟩])
  (.ret))))
theorem h_spec_GoodPlaces : (Try.prog.funcs[n_spec_GoodPlaces]?).bind (fun fn => fn.body.bind (comp Try.prog fn.ntmps)) = some (AS.strip c_spec_GoodPlaces) := by kernel_rfl
theorem r_spec_GoodPlaces : (Try.prog.funcs[n_spec_GoodPlaces]?).map (fun fn => (fn.results.toList, fn.ntmps)) = some ([.tmp 2], 55) := by kernel_rfl
-- 23 loop.example/g00850/laws.toPlaces
abbrev n_laws_toPlaces : Nat := 23
def c_laws_toPlaces : AS :=
  .seq (.ops [⟨(some 1), none, .box (.tmp 0)⟩,
    ⟨(some 2), none, .alloc (.agg #[.int .i64 0, .slice none 0 0, .slice none 0 0])⟩])
  (.seq (.ops [⟨(some 3), none, .alloc (.agg #[.int .i64 0, .slice none 0 0, .slice none 0 0])⟩])
  (.seq (.ops [⟨(some 4), none, .fa 0 (.tmp 1)⟩,
    ⟨(some 5), none, .load none (.tmp 4)⟩,
    ⟨(some 6), none, .fa 0 (.tmp 3)⟩,
    ⟨none, none, .store 1 (.tmp 6) (.tmp 5)⟩])
  (.seq (.ops [⟨(some 7), none, .fa 1 (.tmp 1)⟩,
    ⟨(some 8), none, .load none (.tmp 7)⟩,
    ⟨(some 9), none, .call 48 [(.tmp 8)]⟩,
    ⟨(some 10), none, .fa 1 (.tmp 3)⟩,
    ⟨none, none, .store 1 (.tmp 10) (.tmp 9)⟩])
  (.seq (.ops [⟨(some 11), none, .fa 2 (.tmp 1)⟩,
    ⟨(some 12), none, .load none (.tmp 11)⟩,
    ⟨(some 13), none, .call 49 [(.tmp 12)]⟩,
    ⟨(some 14), none, .fa 2 (.tmp 3)⟩,
    ⟨none, none, .store 1 (.tmp 14) (.tmp 13)⟩])
  (.seq (.ops [⟨(some 15), none, .load (some 3) (.tmp 3)⟩,
    ⟨none, none, .store 3 (.tmp 2) (.tmp 15)⟩])
  (.ret))))))
theorem h_laws_toPlaces : (Try.prog.funcs[n_laws_toPlaces]?).bind (fun fn => fn.body.bind (comp Try.prog fn.ntmps)) = some (AS.strip c_laws_toPlaces) := by kernel_rfl
theorem r_laws_toPlaces : (Try.prog.funcs[n_laws_toPlaces]?).map (fun fn => (fn.results.toList, fn.ntmps)) = some ([.cell 2 47], 16) := by kernel_rfl
-- 24 loop.example/g00850/impl.GoodPlaces
abbrev n_impl_GoodPlaces : Nat := 24
def c_impl_GoodPlaces : AS :=
  .seq (.ops [⟨(some 1), none, .box (.tmp 0)⟩,
    ⟨(some 2), none, .mv (.const (.bool false))⟩])
  (.seq (.ops [⟨(some 3), none, .fa 0 (.tmp 1)⟩,
    ⟨(some 4), none, .load none (.tmp 3)⟩,
    ⟨(some 5), none, .call 42 [(.tmp 4), (.const (.int .i64 0)), (.const (.int .i64 50))]⟩,
    ⟨(some 6), none, .mv (.tmp 5)⟩,
    ⟨(some 7), some (6, true), .fa 1 (.tmp 1)⟩,
    ⟨(some 8), some (6, true), .load none (.tmp 7)⟩,
    ⟨(some 9), some (6, true), .lens (.tmp 8)⟩,
    ⟨(some 10), some (6, true), .bin .leq (.tmp 9) (.const (.int .i64 4))⟩,
    ⟨(some 11), none, .pick (.tmp 6) (.tmp 10) (.const (.bool false))⟩,
    ⟨(some 12), none, .mv (.tmp 11)⟩,
    ⟨(some 13), some (12, true), .fa 1 (.tmp 1)⟩,
    ⟨(some 14), some (12, true), .load none (.tmp 13)⟩,
    ⟨(some 15), some (12, true), .call 50 [(.tmp 14)]⟩,
    ⟨(some 16), none, .pick (.tmp 12) (.tmp 15) (.const (.bool false))⟩,
    ⟨(some 17), none, .mv (.tmp 16)⟩,
    ⟨(some 18), some (17, true), .fa 2 (.tmp 1)⟩,
    ⟨(some 19), some (17, true), .load none (.tmp 18)⟩,
    ⟨(some 20), some (17, true), .lens (.tmp 19)⟩,
    ⟨(some 21), some (17, true), .fa 1 (.tmp 1)⟩,
    ⟨(some 22), some (17, true), .load none (.tmp 21)⟩,
    ⟨(some 23), some (17, true), .lens (.tmp 22)⟩,
    ⟨(some 24), some (17, true), .bin .add (.tmp 23) (.const (.int .i64 1))⟩,
    ⟨(some 25), some (17, true), .bin .eql (.tmp 20) (.tmp 24)⟩,
    ⟨(some 26), none, .pick (.tmp 17) (.tmp 25) (.const (.bool false))⟩,
    ⟨(some 27), none, .mv (.tmp 26)⟩,
    ⟨(some 28), some (27, true), .fa 2 (.tmp 1)⟩,
    ⟨(some 29), some (27, true), .load none (.tmp 28)⟩,
    ⟨(some 30), some (27, true), .call 51 [(.tmp 29), (.func 52)]⟩,
    ⟨(some 31), some (27, true), .not (.tmp 30)⟩,
    ⟨(some 32), none, .pick (.tmp 27) (.tmp 31) (.const (.bool false))⟩,
    ⟨(some 2), none, .mv (.tmp 32)⟩])
  (.ret))
theorem h_impl_GoodPlaces : (Try.prog.funcs[n_impl_GoodPlaces]?).bind (fun fn => fn.body.bind (comp Try.prog fn.ntmps)) = some (AS.strip c_impl_GoodPlaces) := by kernel_rfl
theorem r_impl_GoodPlaces : (Try.prog.funcs[n_impl_GoodPlaces]?).map (fun fn => (fn.results.toList, fn.ntmps)) = some ([.tmp 2], 33) := by kernel_rfl
-- 25 loop.example/g00850/laws.eqPlaces
abbrev n_laws_eqPlaces : Nat := 25
def c_laws_eqPlaces : AS :=
  .seq (.ops [⟨(some 2), none, .box (.tmp 0)⟩,
    ⟨(some 3), none, .box (.tmp 1)⟩,
    ⟨(some 4), none, .mv (.const (.bool false))⟩])
  (.seq (.seq (.ops [⟨(some 5), none, .fa 0 (.tmp 2)⟩,
    ⟨(some 6), none, .load none (.tmp 5)⟩,
    ⟨(some 7), none, .fa 0 (.tmp 3)⟩,
    ⟨(some 8), none, .load none (.tmp 7)⟩,
    ⟨(some 9), none, .bin .neq (.tmp 6) (.tmp 8)⟩])
  (.cond (.tmp 9) (.seq (.ops [⟨(some 4), none, .mv (.const (.bool false))⟩])
  (.ret)) (.skip)))
  (.kept [2, 3] (.seq (.seq (.ops [⟨(some 10), none, .fa 1 (.tmp 2)⟩,
    ⟨(some 11), none, .load none (.tmp 10)⟩,
    ⟨(some 12), none, .fa 1 (.tmp 3)⟩,
    ⟨(some 13), none, .load none (.tmp 12)⟩,
    ⟨(some 14), none, .call 54 [(.tmp 11), (.tmp 13)]⟩,
    ⟨(some 15), none, .not (.tmp 14)⟩])
  (.cond (.tmp 15) (.seq (.ops [⟨(some 4), none, .mv (.const (.bool false))⟩])
  (.ret)) (.skip)))
  (.kept [2, 3] (.seq (.seq (.ops [⟨(some 16), none, .fa 2 (.tmp 2)⟩,
    ⟨(some 17), none, .load none (.tmp 16)⟩,
    ⟨(some 18), none, .fa 2 (.tmp 3)⟩,
    ⟨(some 19), none, .load none (.tmp 18)⟩,
    ⟨(some 20), none, .call 55 [(.tmp 17), (.tmp 19)]⟩,
    ⟨(some 21), none, .not (.tmp 20)⟩])
  (.cond (.tmp 21) (.seq (.ops [⟨(some 4), none, .mv (.const (.bool false))⟩])
  (.ret)) (.skip)))
  (.kept [] (.seq (.ops [⟨(some 4), none, .mv (.const (.bool true))⟩])
  (.ret))))))))
theorem h_laws_eqPlaces : (Try.prog.funcs[n_laws_eqPlaces]?).bind (fun fn => fn.body.bind (comp Try.prog fn.ntmps)) = some (AS.strip c_laws_eqPlaces) := by kernel_rfl
theorem r_laws_eqPlaces : (Try.prog.funcs[n_laws_eqPlaces]?).map (fun fn => (fn.results.toList, fn.ntmps)) = some ([.tmp 4], 22) := by kernel_rfl
-- 26 loop.example/g00850/spec.EndsOf
abbrev n_spec_EndsOf : Nat := 26
def c_spec_EndsOf : AS :=
  .seq (.ops [⟨(some 2), none, .box (.tmp 0)⟩,
    ⟨(some 4), none, .mv (.const (.string ⟨⟨[]⟩⟩))⟩,
    ⟨(some 5), none, .mv (.const (.string ⟨⟨[]⟩⟩))⟩,
    ⟨(some 6), none, .mv (.const (.bool false))⟩])
  (.seq (.seq (.ops [⟨(some 9), none, .load (some 3) (.tmp 2)⟩,
    ⟨(some 10), none, .call 22 [(.tmp 9)]⟩,
    ⟨(some 11), none, .not (.tmp 10)⟩,
    ⟨(some 12), none, .mv (.tmp 11)⟩,
    ⟨(some 13), some (12, false), .mv (.tmp 1)⟩,
    ⟨(some 14), some (12, false), .fa 2 (.tmp 2)⟩,
    ⟨(some 15), some (12, false), .load none (.tmp 14)⟩,
    ⟨(some 16), some (12, false), .lens (.tmp 15)⟩,
    ⟨(some 17), some (12, false), .bin .sub (.tmp 16) (.const (.int .i64 1))⟩,
    ⟨(some 18), some (12, false), .call 46 [(.tmp 13), (.const (.int .i64 0)), (.tmp 17)]⟩,
    ⟨(some 19), some (12, false), .not (.tmp 18)⟩,
    ⟨(some 20), none, .pick (.tmp 12) (.const (.bool true)) (.tmp 19)⟩])
  (.kept [1, 2, 20] (.cond (.tmp 20) (.seq (.ops [⟨(some 4), none, .mv (.const (.string ⟨⟨[]⟩⟩))⟩,
    ⟨(some 5), none, .mv (.const (.string ⟨⟨[]⟩⟩))⟩,
    ⟨(some 6), none, .mv (.const (.bool false))⟩])
  (.ret)) (.skip))))
  (.kept [1, 2] (.seq (.ops [⟨(some 7), none, .mv (.const (.string ⟨⟨[]⟩⟩))⟩,
    ⟨(some 8), none, .mv (.const (.string ⟨⟨[]⟩⟩))⟩])
  (.seq (.seq (.ops [⟨(some 21), none, .mv (.tmp 1)⟩,
    ⟨(some 22), none, .bin .gtr (.tmp 21) (.const (.int .i64 0))⟩])
  (.cond (.tmp 22) (.ops [⟨(some 23), none, .fa 1 (.tmp 2)⟩,
    ⟨(some 24), none, .load none (.tmp 23)⟩,
    ⟨(some 25), none, .mv (.tmp 1)⟩,
    ⟨(some 26), none, .bin .sub (.tmp 25) (.const (.int .i64 1))⟩,
    ⟨(some 27), none, .ia 1 (.tmp 24) (.tmp 26)⟩,
    ⟨(some 28), none, .load none (.tmp 27)⟩,
    ⟨(some 7), none, .mv (.tmp 28)⟩]) (.skip)))
  (.kept [1, 2, 7, 8] (.seq (.seq (.ops [⟨(some 29), none, .mv (.tmp 1)⟩,
    ⟨(some 30), none, .fa 1 (.tmp 2)⟩,
    ⟨(some 31), none, .load none (.tmp 30)⟩,
    ⟨(some 32), none, .lens (.tmp 31)⟩,
    ⟨(some 33), none, .bin .lss (.tmp 29) (.tmp 32)⟩])
  (.cond (.tmp 33) (.ops [⟨(some 34), none, .fa 1 (.tmp 2)⟩,
    ⟨(some 35), none, .load none (.tmp 34)⟩,
    ⟨(some 36), none, .mv (.tmp 1)⟩,
    ⟨(some 37), none, .ia 1 (.tmp 35) (.tmp 36)⟩,
    ⟨(some 38), none, .load none (.tmp 37)⟩,
    ⟨(some 8), none, .mv (.tmp 38)⟩]) (.skip)))
  (.kept [7, 8] (.seq (.ops [⟨(some 39), none, .mv (.tmp 7)⟩,
    ⟨(some 40), none, .mv (.tmp 8)⟩,
    ⟨(some 4), none, .mv (.tmp 39)⟩,
    ⟨(some 5), none, .mv (.tmp 40)⟩,
    ⟨(some 6), none, .mv (.const (.bool true))⟩])
  (.ret)))))))))
theorem h_spec_EndsOf : (Try.prog.funcs[n_spec_EndsOf]?).bind (fun fn => fn.body.bind (comp Try.prog fn.ntmps)) = some (AS.strip c_spec_EndsOf) := by kernel_rfl
theorem r_spec_EndsOf : (Try.prog.funcs[n_spec_EndsOf]?).map (fun fn => (fn.results.toList, fn.ntmps)) = some ([.tmp 4, .tmp 5, .tmp 6], 41) := by kernel_rfl
-- 27 loop.example/g00850/impl.EndsOf
abbrev n_impl_EndsOf : Nat := 27
def c_impl_EndsOf : AS :=
  .seq (.ops [⟨(some 2), none, .box (.tmp 0)⟩,
    ⟨(some 4), none, .mv (.const (.string ⟨⟨[]⟩⟩))⟩,
    ⟨(some 5), none, .mv (.const (.string ⟨⟨[]⟩⟩))⟩,
    ⟨(some 6), none, .mv (.const (.bool false))⟩])
  (.seq (.seq (.ops [⟨(some 9), none, .load (some 3) (.tmp 2)⟩,
    ⟨(some 10), none, .mv (.tmp 1)⟩,
    ⟨(some 11), none, .call 56 [(.tmp 9), (.tmp 10)]⟩,
    ⟨(some 12), none, .not (.tmp 11)⟩])
  (.cond (.tmp 12) (.seq (.ops [⟨(some 4), none, .mv (.const (.string ⟨⟨[]⟩⟩))⟩,
    ⟨(some 5), none, .mv (.const (.string ⟨⟨[]⟩⟩))⟩,
    ⟨(some 6), none, .mv (.const (.bool false))⟩])
  (.ret)) (.skip)))
  (.kept [1, 2] (.seq (.ops [⟨(some 7), none, .mv (.const (.string ⟨⟨[]⟩⟩))⟩,
    ⟨(some 8), none, .mv (.const (.string ⟨⟨[]⟩⟩))⟩])
  (.seq (.seq (.ops [⟨(some 13), none, .mv (.tmp 1)⟩,
    ⟨(some 14), none, .bin .gtr (.tmp 13) (.const (.int .i64 0))⟩])
  (.cond (.tmp 14) (.ops [⟨(some 15), none, .fa 1 (.tmp 2)⟩,
    ⟨(some 16), none, .load none (.tmp 15)⟩,
    ⟨(some 17), none, .mv (.tmp 1)⟩,
    ⟨(some 18), none, .bin .sub (.tmp 17) (.const (.int .i64 1))⟩,
    ⟨(some 19), none, .ia 1 (.tmp 16) (.tmp 18)⟩,
    ⟨(some 20), none, .load none (.tmp 19)⟩,
    ⟨(some 7), none, .mv (.tmp 20)⟩]) (.skip)))
  (.kept [1, 2, 7, 8] (.seq (.seq (.ops [⟨(some 21), none, .mv (.tmp 1)⟩,
    ⟨(some 22), none, .fa 1 (.tmp 2)⟩,
    ⟨(some 23), none, .load none (.tmp 22)⟩,
    ⟨(some 24), none, .lens (.tmp 23)⟩,
    ⟨(some 25), none, .bin .lss (.tmp 21) (.tmp 24)⟩])
  (.cond (.tmp 25) (.ops [⟨(some 26), none, .fa 1 (.tmp 2)⟩,
    ⟨(some 27), none, .load none (.tmp 26)⟩,
    ⟨(some 28), none, .mv (.tmp 1)⟩,
    ⟨(some 29), none, .ia 1 (.tmp 27) (.tmp 28)⟩,
    ⟨(some 30), none, .load none (.tmp 29)⟩,
    ⟨(some 8), none, .mv (.tmp 30)⟩]) (.skip)))
  (.kept [7, 8] (.seq (.ops [⟨(some 31), none, .mv (.tmp 7)⟩,
    ⟨(some 32), none, .mv (.tmp 8)⟩,
    ⟨(some 4), none, .mv (.tmp 31)⟩,
    ⟨(some 5), none, .mv (.tmp 32)⟩,
    ⟨(some 6), none, .mv (.const (.bool true))⟩])
  (.ret)))))))))
theorem h_impl_EndsOf : (Try.prog.funcs[n_impl_EndsOf]?).bind (fun fn => fn.body.bind (comp Try.prog fn.ntmps)) = some (AS.strip c_impl_EndsOf) := by kernel_rfl
theorem r_impl_EndsOf : (Try.prog.funcs[n_impl_EndsOf]?).map (fun fn => (fn.results.toList, fn.ntmps)) = some ([.tmp 4, .tmp 5, .tmp 6], 33) := by kernel_rfl
-- 28 loop.example/g00850/spec.RangeOf
abbrev n_spec_RangeOf : Nat := 28
def c_spec_RangeOf : AS :=
  .seq (.ops [⟨(some 2), none, .box (.tmp 0)⟩,
    ⟨(some 4), none, .mv (.const (.int .i64 0))⟩,
    ⟨(some 5), none, .mv (.const (.bool false))⟩])
  (.seq (.seq (.ops [⟨(some 6), none, .load (some 3) (.tmp 2)⟩,
    ⟨(some 7), none, .call 22 [(.tmp 6)]⟩,
    ⟨(some 8), none, .not (.tmp 7)⟩,
    ⟨(some 9), none, .mv (.tmp 8)⟩,
    ⟨(some 10), some (9, false), .mv (.tmp 1)⟩,
    ⟨(some 11), some (9, false), .call 45 [(.tmp 10)]⟩,
    ⟨(some 12), some (9, false), .not (.tmp 11)⟩,
    ⟨(some 13), none, .pick (.tmp 9) (.const (.bool true)) (.tmp 12)⟩])
  (.kept [1, 2, 13] (.cond (.tmp 13) (.seq (.ops [⟨(some 4), none, .mv (.const (.int .i64 0))⟩,
    ⟨(some 5), none, .mv (.const (.bool false))⟩])
  (.ret)) (.skip))))
  (.kept [1, 2] (.seq (.ops [⟨(some 14), none, .load (some 3) (.tmp 2)⟩,
    ⟨(some 15), none, .mv (.tmp 1)⟩,
    ⟨(some 16), none, .call 57 [(.tmp 14), (.tmp 15)]⟩,
    ⟨(some 4), none, .mv (.tmp 16)⟩,
    ⟨(some 5), none, .mv (.const (.bool true))⟩])
  (.ret))))
theorem h_spec_RangeOf : (Try.prog.funcs[n_spec_RangeOf]?).bind (fun fn => fn.body.bind (comp Try.prog fn.ntmps)) = some (AS.strip c_spec_RangeOf) := by kernel_rfl
theorem r_spec_RangeOf : (Try.prog.funcs[n_spec_RangeOf]?).map (fun fn => (fn.results.toList, fn.ntmps)) = some ([.tmp 4, .tmp 5], 17) := by kernel_rfl
-- 29 loop.example/g00850/impl.RangeOf
abbrev n_impl_RangeOf : Nat := 29
def c_impl_RangeOf : AS :=
  .seq (.ops [⟨(some 2), none, .box (.tmp 0)⟩,
    ⟨(some 4), none, .mv (.const (.int .i64 0))⟩,
    ⟨(some 5), none, .mv (.const (.bool false))⟩])
  (.seq (.seq (.ops [⟨(some 6), none, .load (some 3) (.tmp 2)⟩,
    ⟨(some 7), none, .call 24 [(.tmp 6)]⟩,
    ⟨(some 8), none, .not (.tmp 7)⟩,
    ⟨(some 9), none, .mv (.tmp 8)⟩,
    ⟨(some 10), some (9, false), .mv (.tmp 1)⟩,
    ⟨(some 11), some (9, false), .call 58 [(.tmp 10)]⟩,
    ⟨(some 12), some (9, false), .not (.tmp 11)⟩,
    ⟨(some 13), none, .pick (.tmp 9) (.const (.bool true)) (.tmp 12)⟩])
  (.kept [1, 2, 13] (.cond (.tmp 13) (.seq (.ops [⟨(some 4), none, .mv (.const (.int .i64 0))⟩,
    ⟨(some 5), none, .mv (.const (.bool false))⟩])
  (.ret)) (.skip))))
  (.kept [1, 2] (.seq (.ops [⟨(some 14), none, .fa 1 (.tmp 2)⟩,
    ⟨(some 15), none, .load none (.tmp 14)⟩,
    ⟨(some 16), none, .mv (.tmp 1)⟩,
    ⟨(some 17), none, .call 59 [(.tmp 15), (.tmp 16)]⟩,
    ⟨(some 4), none, .mv (.tmp 17)⟩,
    ⟨(some 5), none, .mv (.const (.bool true))⟩])
  (.ret))))
theorem h_impl_RangeOf : (Try.prog.funcs[n_impl_RangeOf]?).bind (fun fn => fn.body.bind (comp Try.prog fn.ntmps)) = some (AS.strip c_impl_RangeOf) := by kernel_rfl
theorem r_impl_RangeOf : (Try.prog.funcs[n_impl_RangeOf]?).map (fun fn => (fn.results.toList, fn.ntmps)) = some ([.tmp 4, .tmp 5], 18) := by kernel_rfl
-- 30 loop.example/g00850/spec.GroupOf
abbrev n_spec_GroupOf : Nat := 30
def c_spec_GroupOf : AS :=
  .seq (.ops [⟨(some 2), none, .box (.tmp 0)⟩,
    ⟨(some 4), none, .mv (.const (.int .i64 0))⟩,
    ⟨(some 5), none, .mv (.const (.bool false))⟩])
  (.seq (.seq (.ops [⟨(some 6), none, .load (some 3) (.tmp 2)⟩,
    ⟨(some 7), none, .call 22 [(.tmp 6)]⟩,
    ⟨(some 8), none, .not (.tmp 7)⟩,
    ⟨(some 9), none, .mv (.tmp 8)⟩,
    ⟨(some 10), some (9, false), .mv (.tmp 1)⟩,
    ⟨(some 11), some (9, false), .call 45 [(.tmp 10)]⟩,
    ⟨(some 12), some (9, false), .not (.tmp 11)⟩,
    ⟨(some 13), none, .pick (.tmp 9) (.const (.bool true)) (.tmp 12)⟩])
  (.kept [1, 2, 13] (.cond (.tmp 13) (.seq (.ops [⟨(some 4), none, .mv (.const (.int .i64 0))⟩,
    ⟨(some 5), none, .mv (.const (.bool false))⟩])
  (.ret)) (.skip))))
  (.kept [1, 2] (.seq (.ops [⟨(some 14), none, .load (some 3) (.tmp 2)⟩,
    ⟨(some 15), none, .mv (.tmp 1)⟩,
    ⟨(some 16), none, .call 60 [(.tmp 14), (.tmp 15)]⟩,
    ⟨(some 4), none, .mv (.tmp 16)⟩,
    ⟨(some 5), none, .mv (.const (.bool true))⟩])
  (.ret))))
theorem h_spec_GroupOf : (Try.prog.funcs[n_spec_GroupOf]?).bind (fun fn => fn.body.bind (comp Try.prog fn.ntmps)) = some (AS.strip c_spec_GroupOf) := by kernel_rfl
theorem r_spec_GroupOf : (Try.prog.funcs[n_spec_GroupOf]?).map (fun fn => (fn.results.toList, fn.ntmps)) = some ([.tmp 4, .tmp 5], 17) := by kernel_rfl
-- 31 loop.example/g00850/impl.GroupOf
abbrev n_impl_GroupOf : Nat := 31
def c_impl_GroupOf : AS :=
  .seq (.ops [⟨(some 2), none, .box (.tmp 0)⟩,
    ⟨(some 4), none, .mv (.const (.int .i64 0))⟩,
    ⟨(some 5), none, .mv (.const (.bool false))⟩])
  (.seq (.seq (.ops [⟨(some 6), none, .load (some 3) (.tmp 2)⟩,
    ⟨(some 7), none, .call 24 [(.tmp 6)]⟩,
    ⟨(some 8), none, .not (.tmp 7)⟩,
    ⟨(some 9), none, .mv (.tmp 8)⟩,
    ⟨(some 10), some (9, false), .mv (.tmp 1)⟩,
    ⟨(some 11), some (9, false), .call 58 [(.tmp 10)]⟩,
    ⟨(some 12), some (9, false), .not (.tmp 11)⟩,
    ⟨(some 13), none, .pick (.tmp 9) (.const (.bool true)) (.tmp 12)⟩])
  (.kept [1, 2, 13] (.cond (.tmp 13) (.seq (.ops [⟨(some 4), none, .mv (.const (.int .i64 0))⟩,
    ⟨(some 5), none, .mv (.const (.bool false))⟩])
  (.ret)) (.skip))))
  (.kept [1, 2] (.seq (.ops [⟨(some 14), none, .load (some 3) (.tmp 2)⟩,
    ⟨(some 15), none, .mv (.tmp 1)⟩,
    ⟨(some 16), none, .call 61 [(.tmp 14), (.tmp 15)]⟩,
    ⟨(some 4), none, .mv (.tmp 16)⟩,
    ⟨(some 5), none, .mv (.const (.bool true))⟩])
  (.ret))))
theorem h_impl_GroupOf : (Try.prog.funcs[n_impl_GroupOf]?).bind (fun fn => fn.body.bind (comp Try.prog fn.ntmps)) = some (AS.strip c_impl_GroupOf) := by kernel_rfl
theorem r_impl_GroupOf : (Try.prog.funcs[n_impl_GroupOf]?).map (fun fn => (fn.results.toList, fn.ntmps)) = some ([.tmp 4, .tmp 5], 17) := by kernel_rfl
-- 42 loop.example/g00850/impl.within
abbrev n_impl_within : Nat := 42
def c_impl_within : AS :=
  .seq (.ops [⟨(some 6), none, .mv (.const (.bool false))⟩])
  (.seq (.ops [⟨(some 7), none, .mv (.tmp 0)⟩,
    ⟨(some 8), none, .mv (.tmp 1)⟩,
    ⟨(some 9), none, .bin .geq (.tmp 7) (.tmp 8)⟩,
    ⟨(some 10), none, .mv (.tmp 9)⟩,
    ⟨(some 11), some (10, true), .mv (.tmp 0)⟩,
    ⟨(some 12), some (10, true), .mv (.tmp 2)⟩,
    ⟨(some 13), some (10, true), .bin .leq (.tmp 11) (.tmp 12)⟩,
    ⟨(some 14), none, .pick (.tmp 10) (.tmp 13) (.const (.bool false))⟩,
    ⟨(some 6), none, .mv (.tmp 14)⟩])
  (.ret))
theorem h_impl_within : (Try.prog.funcs[n_impl_within]?).bind (fun fn => fn.body.bind (comp Try.prog fn.ntmps)) = some (AS.strip c_impl_within) := by kernel_rfl
theorem r_impl_within : (Try.prog.funcs[n_impl_within]?).map (fun fn => (fn.results.toList, fn.ntmps)) = some ([.tmp 6], 15) := by kernel_rfl
-- 43 loop.example/g00850/laws.szStringS
abbrev n_laws_szStringS : Nat := 43
def c_laws_szStringS_l1 : AS :=
  .seq (.seq (.ops [⟨(some 12), none, .mv (.tmp 5)⟩,
    ⟨(some 13), none, .mv (.tmp 0)⟩,
    ⟨(some 14), none, .lens (.tmp 13)⟩,
    ⟨(some 15), none, .bin .lss (.tmp 12) (.tmp 14)⟩])
  (.cond (.tmp 15) (.skip) (.exit 0)))
  (.seq (.block 1 (.seq (.ops [⟨(some 18), none, .mv (.tmp 1)⟩,
    ⟨(some 19), none, .mv (.tmp 0)⟩,
    ⟨(some 20), none, .mv (.tmp 5)⟩,
    ⟨(some 21), none, .ia 1 (.tmp 19) (.tmp 20)⟩,
    ⟨(some 22), none, .load none (.tmp 21)⟩,
    ⟨(some 23), none, .lent (.tmp 22)⟩,
    ⟨(some 24), none, .bin .sub (.tmp 18) (.tmp 23)⟩,
    ⟨(some 1), none, .mv (.tmp 24)⟩])
  (.kept [0, 1, 5] (.seq (.ops [⟨(some 25), none, .mv (.tmp 1)⟩,
    ⟨(some 26), none, .bin .lss (.tmp 25) (.const (.int .i64 0))⟩])
  (.cond (.tmp 26) (.seq (.ops [⟨(some 4), none, .mv (.const (.int .i64 (-1)))⟩])
  (.ret)) (.skip))))))
  (.kept [0, 1, 5] (.ops [⟨(some 16), none, .mv (.tmp 5)⟩,
    ⟨(some 17), none, .bin .add (.tmp 16) (.const (.int .i64 1))⟩,
    ⟨(some 5), none, .mv (.tmp 17)⟩])))
def c_laws_szStringS : AS :=
  .seq (.ops [⟨(some 4), none, .mv (.const (.int .i64 0))⟩])
  (.seq (.ops [⟨(some 6), none, .mv (.tmp 1)⟩,
    ⟨(some 7), none, .mv (.tmp 0)⟩,
    ⟨(some 8), none, .lens (.tmp 7)⟩,
    ⟨(some 9), none, .bin .sub (.tmp 6) (.tmp 8)⟩,
    ⟨(some 1), none, .mv (.tmp 9)⟩])
  (.seq (.seq (.ops [⟨(some 10), none, .mv (.tmp 1)⟩,
    ⟨(some 11), none, .bin .lss (.tmp 10) (.const (.int .i64 0))⟩])
  (.cond (.tmp 11) (.seq (.ops [⟨(some 4), none, .mv (.const (.int .i64 (-1)))⟩])
  (.ret)) (.skip)))
  (.seq (.seq (.ops [⟨(some 5), none, .mv (.const (.int .i64 0))⟩])
  (.block 0 (.loop 2 [(0, 0), (1, 0), (5, 0)] c_laws_szStringS_l1)))
  (.kept [1] (.seq (.ops [⟨(some 27), none, .mv (.tmp 1)⟩,
    ⟨(some 4), none, .mv (.tmp 27)⟩])
  (.ret))))))
theorem h_laws_szStringS : (Try.prog.funcs[n_laws_szStringS]?).bind (fun fn => fn.body.bind (comp Try.prog fn.ntmps)) = some (AS.strip c_laws_szStringS) := by kernel_rfl
theorem r_laws_szStringS : (Try.prog.funcs[n_laws_szStringS]?).map (fun fn => (fn.results.toList, fn.ntmps)) = some ([.tmp 4], 28) := by kernel_rfl
-- 44 loop.example/g00850/laws.szIntS
abbrev n_laws_szIntS : Nat := 44
def c_laws_szIntS : AS :=
  .seq (.ops [⟨(some 4), none, .mv (.const (.int .i64 0))⟩])
  (.seq (.ops [⟨(some 5), none, .mv (.tmp 1)⟩,
    ⟨(some 6), none, .mv (.tmp 0)⟩,
    ⟨(some 7), none, .lens (.tmp 6)⟩,
    ⟨(some 8), none, .bin .sub (.tmp 5) (.tmp 7)⟩,
    ⟨(some 1), none, .mv (.tmp 8)⟩])
  (.seq (.seq (.ops [⟨(some 9), none, .mv (.tmp 1)⟩,
    ⟨(some 10), none, .bin .lss (.tmp 9) (.const (.int .i64 0))⟩])
  (.cond (.tmp 10) (.seq (.ops [⟨(some 4), none, .mv (.const (.int .i64 (-1)))⟩])
  (.ret)) (.skip)))
  (.seq (.ops [⟨(some 11), none, .mv (.tmp 1)⟩,
    ⟨(some 4), none, .mv (.tmp 11)⟩])
  (.ret))))
theorem h_laws_szIntS : (Try.prog.funcs[n_laws_szIntS]?).bind (fun fn => fn.body.bind (comp Try.prog fn.ntmps)) = some (AS.strip c_laws_szIntS) := by kernel_rfl
theorem r_laws_szIntS : (Try.prog.funcs[n_laws_szIntS]?).map (fun fn => (fn.results.toList, fn.ntmps)) = some ([.tmp 4], 12) := by kernel_rfl
-- 45 loop.example/g00850/spec.l3Key
abbrev n_spec_l3Key : Nat := 45
def c_spec_l3Key : AS :=
  .seq (.ops [⟨(some 2), none, .mv (.const (.bool false))⟩])
  (.seq (.ops [⟨(some 3), none, .mv (.tmp 0)⟩,
    ⟨(some 4), none, .lent (.tmp 3)⟩,
    ⟨(some 5), none, .call 46 [(.tmp 4), (.const (.int .i64 1)), (.const (.int .i64 12))]⟩,
    ⟨(some 6), none, .mv (.tmp 5)⟩,
    ⟨(some 7), some (6, true), .mv (.tmp 0)⟩,
    ⟨(some 8), some (6, true), .call 65 [(.tmp 7), (.const (.string ⟨⟨[46, 47]⟩⟩))]⟩,
    ⟨(some 9), none, .pick (.tmp 6) (.tmp 8) (.const (.bool false))⟩,
    ⟨(some 2), none, .mv (.tmp 9)⟩])
  (.ret))
theorem h_spec_l3Key : (Try.prog.funcs[n_spec_l3Key]?).bind (fun fn => fn.body.bind (comp Try.prog fn.ntmps)) = some (AS.strip c_spec_l3Key) := by kernel_rfl
theorem r_spec_l3Key : (Try.prog.funcs[n_spec_l3Key]?).map (fun fn => (fn.results.toList, fn.ntmps)) = some ([.tmp 2], 10) := by kernel_rfl
-- 46 loop.example/g00850/spec.l1In
abbrev n_spec_l1In : Nat := 46
def c_spec_l1In : AS :=
  .seq (.ops [⟨(some 6), none, .mv (.const (.bool false))⟩])
  (.seq (.ops [⟨(some 7), none, .mv (.tmp 0)⟩,
    ⟨(some 8), none, .mv (.tmp 1)⟩,
    ⟨(some 9), none, .bin .geq (.tmp 7) (.tmp 8)⟩,
    ⟨(some 10), none, .mv (.tmp 9)⟩,
    ⟨(some 11), some (10, true), .mv (.tmp 0)⟩,
    ⟨(some 12), some (10, true), .mv (.tmp 2)⟩,
    ⟨(some 13), some (10, true), .bin .leq (.tmp 11) (.tmp 12)⟩,
    ⟨(some 14), none, .pick (.tmp 10) (.tmp 13) (.const (.bool false))⟩,
    ⟨(some 6), none, .mv (.tmp 14)⟩])
  (.ret))
theorem h_spec_l1In : (Try.prog.funcs[n_spec_l1In]?).bind (fun fn => fn.body.bind (comp Try.prog fn.ntmps)) = some (AS.strip c_spec_l1In) := by kernel_rfl
theorem r_spec_l1In : (Try.prog.funcs[n_spec_l1In]?).map (fun fn => (fn.results.toList, fn.ntmps)) = some ([.tmp 6], 15) := by kernel_rfl
-- 47 loop.example/g00850/spec.l1All
abbrev n_spec_l1All : Nat := 47
def c_spec_l1All_l1 : AS :=
  .seq (.ops [⟨(some 12), none, .bin .lss (.tmp 11) (.tmp 10)⟩])
  (.seq (.cond (.tmp 12) (.skip) (.exit 0))
  (.seq (.block 1 (.seq (.ops [⟨(some 13), none, .ia 1 (.tmp 9) (.tmp 11)⟩,
    ⟨(some 14), none, .load none (.tmp 13)⟩,
    ⟨(some 8), none, .mv (.tmp 14)⟩])
  (.seq (.ops [⟨(some 15), none, .mv (.tmp 8)⟩,
    ⟨(some 16), none, .mv (.tmp 1)⟩,
    ⟨(some 17), none, .mv (.tmp 2)⟩,
    ⟨(some 18), none, .call 46 [(.tmp 15), (.tmp 16), (.tmp 17)]⟩,
    ⟨(some 19), none, .not (.tmp 18)⟩])
  (.cond (.tmp 19) (.seq (.ops [⟨(some 6), none, .mv (.const (.bool false))⟩])
  (.ret)) (.skip)))))
  (.kept [1, 2, 9, 10, 11] (.ops [⟨(some 20), none, .bin .add (.tmp 11) (.const (.int .i64 1))⟩,
    ⟨(some 11), none, .mv (.tmp 20)⟩]))))
def c_spec_l1All : AS :=
  .seq (.ops [⟨(some 6), none, .mv (.const (.bool false))⟩])
  (.seq (.seq (.ops [⟨(some 9), none, .mv (.tmp 0)⟩,
    ⟨(some 10), none, .lens (.tmp 9)⟩,
    ⟨(some 11), none, .mv (.const (.int .i64 0))⟩])
  (.block 0 (.loop 3 [(1, 0), (2, 0), (9, 0), (10, 0), (11, 0)] c_spec_l1All_l1)))
  (.kept [] (.seq (.ops [⟨(some 6), none, .mv (.const (.bool true))⟩])
  (.ret))))
theorem h_spec_l1All : (Try.prog.funcs[n_spec_l1All]?).bind (fun fn => fn.body.bind (comp Try.prog fn.ntmps)) = some (AS.strip c_spec_l1All) := by kernel_rfl
theorem r_spec_l1All : (Try.prog.funcs[n_spec_l1All]?).map (fun fn => (fn.results.toList, fn.ntmps)) = some ([.tmp 6], 21) := by kernel_rfl
-- 48 loop.example/g00850/laws.toStringS
abbrev n_laws_toStringS : Nat := 48
def c_laws_toStringS_l1 : AS :=
  .seq (.seq (.ops [⟨(some 8), none, .mv (.tmp 4)⟩,
    ⟨(some 9), none, .mv (.tmp 0)⟩,
    ⟨(some 10), none, .lens (.tmp 9)⟩,
    ⟨(some 11), none, .bin .lss (.tmp 8) (.tmp 10)⟩])
  (.cond (.tmp 11) (.skip) (.exit 0)))
  (.seq (.block 1 (.ops [⟨(some 14), none, .mv (.tmp 3)⟩,
    ⟨(some 15), none, .mv (.tmp 4)⟩,
    ⟨(some 16), none, .mv (.tmp 0)⟩,
    ⟨(some 17), none, .mv (.tmp 4)⟩,
    ⟨(some 18), none, .ia 1 (.tmp 16) (.tmp 17)⟩,
    ⟨(some 19), none, .load none (.tmp 18)⟩,
    ⟨(some 20), none, .ia 1 (.tmp 14) (.tmp 15)⟩,
    ⟨none, none, .store 1 (.tmp 20) (.tmp 19)⟩]))
  (.kept [0, 3, 4] (.ops [⟨(some 12), none, .mv (.tmp 4)⟩,
    ⟨(some 13), none, .bin .add (.tmp 12) (.const (.int .i64 1))⟩,
    ⟨(some 4), none, .mv (.tmp 13)⟩])))
def c_laws_toStringS : AS :=
  .seq (.ops [⟨(some 2), none, .mv (.const (.slice none 0 0))⟩])
  (.seq (.ops [⟨(some 5), none, .mv (.tmp 0)⟩,
    ⟨(some 6), none, .lens (.tmp 5)⟩,
    ⟨(some 7), none, .mks 1 16 (.string ⟨⟨[]⟩⟩) (.tmp 6) (.tmp 6)⟩,
    ⟨(some 3), none, .mv (.tmp 7)⟩])
  (.seq (.seq (.ops [⟨(some 4), none, .mv (.const (.int .i64 0))⟩])
  (.block 0 (.loop 1 [(0, 0), (3, 0), (4, 0)] c_laws_toStringS_l1)))
  (.kept [3] (.seq (.ops [⟨(some 21), none, .mv (.tmp 3)⟩,
    ⟨(some 2), none, .mv (.tmp 21)⟩])
  (.ret)))))
theorem h_laws_toStringS : (Try.prog.funcs[n_laws_toStringS]?).bind (fun fn => fn.body.bind (comp Try.prog fn.ntmps)) = some (AS.strip c_laws_toStringS) := by kernel_rfl
theorem r_laws_toStringS : (Try.prog.funcs[n_laws_toStringS]?).map (fun fn => (fn.results.toList, fn.ntmps)) = some ([.tmp 2], 22) := by kernel_rfl
-- 49 loop.example/g00850/laws.toIntS
abbrev n_laws_toIntS : Nat := 49
def c_laws_toIntS_l1 : AS :=
  .seq (.seq (.ops [⟨(some 8), none, .mv (.tmp 4)⟩,
    ⟨(some 9), none, .mv (.tmp 0)⟩,
    ⟨(some 10), none, .lens (.tmp 9)⟩,
    ⟨(some 11), none, .bin .lss (.tmp 8) (.tmp 10)⟩])
  (.cond (.tmp 11) (.skip) (.exit 0)))
  (.seq (.block 1 (.ops [⟨(some 14), none, .mv (.tmp 3)⟩,
    ⟨(some 15), none, .mv (.tmp 4)⟩,
    ⟨(some 16), none, .mv (.tmp 0)⟩,
    ⟨(some 17), none, .mv (.tmp 4)⟩,
    ⟨(some 18), none, .ia 1 (.tmp 16) (.tmp 17)⟩,
    ⟨(some 19), none, .load none (.tmp 18)⟩,
    ⟨(some 20), none, .ia 1 (.tmp 14) (.tmp 15)⟩,
    ⟨none, none, .store 1 (.tmp 20) (.tmp 19)⟩]))
  (.kept [0, 3, 4] (.ops [⟨(some 12), none, .mv (.tmp 4)⟩,
    ⟨(some 13), none, .bin .add (.tmp 12) (.const (.int .i64 1))⟩,
    ⟨(some 4), none, .mv (.tmp 13)⟩])))
def c_laws_toIntS : AS :=
  .seq (.ops [⟨(some 2), none, .mv (.const (.slice none 0 0))⟩])
  (.seq (.ops [⟨(some 5), none, .mv (.tmp 0)⟩,
    ⟨(some 6), none, .lens (.tmp 5)⟩,
    ⟨(some 7), none, .mks 1 8 (.int .i64 0) (.tmp 6) (.tmp 6)⟩,
    ⟨(some 3), none, .mv (.tmp 7)⟩])
  (.seq (.seq (.ops [⟨(some 4), none, .mv (.const (.int .i64 0))⟩])
  (.block 0 (.loop 1 [(0, 0), (3, 0), (4, 0)] c_laws_toIntS_l1)))
  (.kept [3] (.seq (.ops [⟨(some 21), none, .mv (.tmp 3)⟩,
    ⟨(some 2), none, .mv (.tmp 21)⟩])
  (.ret)))))
theorem h_laws_toIntS : (Try.prog.funcs[n_laws_toIntS]?).bind (fun fn => fn.body.bind (comp Try.prog fn.ntmps)) = some (AS.strip c_laws_toIntS) := by kernel_rfl
theorem r_laws_toIntS : (Try.prog.funcs[n_laws_toIntS]?).map (fun fn => (fn.results.toList, fn.ntmps)) = some ([.tmp 2], 22) := by kernel_rfl
-- 50 loop.example/g00850/impl.areRising
abbrev n_impl_areRising : Nat := 50
def c_impl_areRising_l1 : AS :=
  .seq (.ops [⟨(some 8), none, .bin .lss (.tmp 7) (.tmp 6)⟩])
  (.seq (.cond (.tmp 8) (.skip) (.exit 0))
  (.seq (.block 1 (.seq (.ops [⟨(some 9), none, .mv (.tmp 7)⟩,
    ⟨(some 10), none, .ia 1 (.tmp 5) (.tmp 7)⟩,
    ⟨(some 11), none, .load none (.tmp 10)⟩,
    ⟨(some 3), none, .mv (.tmp 9)⟩,
    ⟨(some 4), none, .mv (.tmp 11)⟩])
  (.seq (.ops [⟨(some 12), none, .mv (.tmp 4)⟩,
    ⟨(some 13), none, .call 58 [(.tmp 12)]⟩,
    ⟨(some 14), none, .not (.tmp 13)⟩,
    ⟨(some 15), none, .mv (.tmp 14)⟩,
    ⟨(some 16), some (15, false), .mv (.tmp 3)⟩,
    ⟨(some 17), some (15, false), .bin .gtr (.tmp 16) (.const (.int .i64 0))⟩,
    ⟨(some 18), some (15, false), .mv (.tmp 17)⟩,
    ⟨(some 19), some (18, true), .mv (.tmp 4)⟩,
    ⟨(some 20), some (18, true), .mv (.tmp 0)⟩,
    ⟨(some 21), some (18, true), .mv (.tmp 3)⟩,
    ⟨(some 22), some (18, true), .bin .sub (.tmp 21) (.const (.int .i64 1))⟩,
    ⟨(some 23), some (18, true), .ia 1 (.tmp 20) (.tmp 22)⟩,
    ⟨(some 24), some (18, true), .load none (.tmp 23)⟩,
    ⟨(some 25), some (18, true), .bin .leq (.tmp 19) (.tmp 24)⟩,
    ⟨(some 26), some (15, false), .pick (.tmp 18) (.tmp 25) (.const (.bool false))⟩,
    ⟨(some 27), none, .pick (.tmp 15) (.const (.bool true)) (.tmp 26)⟩])
  (.kept [0, 5, 6, 7, 27] (.cond (.tmp 27) (.seq (.ops [⟨(some 2), none, .mv (.const (.bool false))⟩])
  (.ret)) (.skip))))))
  (.kept [0, 5, 6, 7] (.ops [⟨(some 28), none, .bin .add (.tmp 7) (.const (.int .i64 1))⟩,
    ⟨(some 7), none, .mv (.tmp 28)⟩]))))
def c_impl_areRising : AS :=
  .seq (.ops [⟨(some 2), none, .mv (.const (.bool false))⟩])
  (.seq (.seq (.ops [⟨(some 5), none, .mv (.tmp 0)⟩,
    ⟨(some 6), none, .lens (.tmp 5)⟩,
    ⟨(some 7), none, .mv (.const (.int .i64 0))⟩])
  (.block 0 (.loop 1 [(0, 0), (5, 0), (6, 0), (7, 0)] c_impl_areRising_l1)))
  (.kept [] (.seq (.ops [⟨(some 2), none, .mv (.const (.bool true))⟩])
  (.ret))))
theorem h_impl_areRising : (Try.prog.funcs[n_impl_areRising]?).bind (fun fn => fn.body.bind (comp Try.prog fn.ntmps)) = some (AS.strip c_impl_areRising) := by kernel_rfl
theorem r_impl_areRising : (Try.prog.funcs[n_impl_areRising]?).map (fun fn => (fn.results.toList, fn.ntmps)) = some ([.tmp 2], 29) := by kernel_rfl
-- 51 slices.ContainsFunc[[]int,int]
abbrev n_slices_ContainsFunc___int_int_ : Nat := 51
def c_slices_ContainsFunc___int_int_ : AS :=
  .seq (.ops [⟨(some 4), none, .mv (.const (.bool false))⟩])
  (.seq (.ops [⟨(some 5), none, .mv (.tmp 0)⟩,
    ⟨(some 6), none, .mv (.tmp 1)⟩,
    ⟨(some 7), none, .call 66 [(.tmp 5), (.tmp 6)]⟩,
    ⟨(some 8), none, .bin .geq (.tmp 7) (.const (.int .i64 0))⟩,
    ⟨(some 4), none, .mv (.tmp 8)⟩])
  (.ret))
theorem h_slices_ContainsFunc___int_int_ : (Try.prog.funcs[n_slices_ContainsFunc___int_int_]?).bind (fun fn => fn.body.bind (comp Try.prog fn.ntmps)) = some (AS.strip c_slices_ContainsFunc___int_int_) := by kernel_rfl
theorem r_slices_ContainsFunc___int_int_ : (Try.prog.funcs[n_slices_ContainsFunc___int_int_]?).map (fun fn => (fn.results.toList, fn.ntmps)) = some ([.tmp 4], 9) := by kernel_rfl
-- 52 loop.example/g00850/impl.GoodPlaces$1
abbrev n_impl_GoodPlaces_1 : Nat := 52
def c_impl_GoodPlaces_1 : AS :=
  .seq (.ops [⟨(some 2), none, .mv (.const (.bool false))⟩])
  (.seq (.ops [⟨(some 3), none, .mv (.tmp 0)⟩,
    ⟨(some 4), none, .call 53 [(.tmp 3)]⟩,
    ⟨(some 5), none, .not (.tmp 4)⟩,
    ⟨(some 2), none, .mv (.tmp 5)⟩])
  (.ret))
theorem h_impl_GoodPlaces_1 : (Try.prog.funcs[n_impl_GoodPlaces_1]?).bind (fun fn => fn.body.bind (comp Try.prog fn.ntmps)) = some (AS.strip c_impl_GoodPlaces_1) := by kernel_rfl
theorem r_impl_GoodPlaces_1 : (Try.prog.funcs[n_impl_GoodPlaces_1]?).map (fun fn => (fn.results.toList, fn.ntmps)) = some ([.tmp 2], 6) := by kernel_rfl
-- 53 loop.example/g00850/impl.isGroup
abbrev n_impl_isGroup : Nat := 53
def c_impl_isGroup : AS :=
  .seq (.ops [⟨(some 2), none, .mv (.const (.bool false))⟩])
  (.seq (.ops [⟨(some 3), none, .mv (.tmp 0)⟩,
    ⟨(some 4), none, .call 42 [(.tmp 3), (.const (.int .i64 0)), (.const (.int .i64 3))]⟩,
    ⟨(some 2), none, .mv (.tmp 4)⟩])
  (.ret))
theorem h_impl_isGroup : (Try.prog.funcs[n_impl_isGroup]?).bind (fun fn => fn.body.bind (comp Try.prog fn.ntmps)) = some (AS.strip c_impl_isGroup) := by kernel_rfl
theorem r_impl_isGroup : (Try.prog.funcs[n_impl_isGroup]?).map (fun fn => (fn.results.toList, fn.ntmps)) = some ([.tmp 2], 5) := by kernel_rfl
-- 54 loop.example/g00850/laws.eqStringS
abbrev n_laws_eqStringS : Nat := 54
def c_laws_eqStringS_l1 : AS :=
  .seq (.seq (.ops [⟨(some 11), none, .mv (.tmp 5)⟩,
    ⟨(some 12), none, .mv (.tmp 0)⟩,
    ⟨(some 13), none, .lens (.tmp 12)⟩,
    ⟨(some 14), none, .bin .lss (.tmp 11) (.tmp 13)⟩])
  (.cond (.tmp 14) (.skip) (.exit 0)))
  (.seq (.block 1 (.seq (.dops [⟨(some 17), none, .mv (.tmp 0)⟩,
    ⟨(some 18), none, .mv (.tmp 5)⟩,
    ⟨(some 19), none, .ia 1 (.tmp 17) (.tmp 18)⟩,
    ⟨(some 20), none, .load none (.tmp 19)⟩,
    ⟨(some 21), none, .mv (.tmp 1)⟩,
    ⟨(some 22), none, .mv (.tmp 5)⟩,
    ⟨(some 23), none, .ia 1 (.tmp 21) (.tmp 22)⟩,
    ⟨(some 24), none, .load none (.tmp 23)⟩,
    ⟨(some 25), none, .bin .neq (.tmp 20) (.tmp 24)⟩])
  (.kept [0, 1, 5, 25] (.cond (.tmp 25) (.seq (.ops [⟨(some 4), none, .mv (.const (.bool false))⟩])
  (.ret)) (.skip)))))
  (.kept [0, 1, 5] (.ops [⟨(some 15), none, .mv (.tmp 5)⟩,
    ⟨(some 16), none, .bin .add (.tmp 15) (.const (.int .i64 1))⟩,
    ⟨(some 5), none, .mv (.tmp 16)⟩])))
def c_laws_eqStringS : AS :=
  .seq (.ops [⟨(some 4), none, .mv (.const (.bool false))⟩])
  (.seq (.seq (.ops [⟨(some 6), none, .mv (.tmp 0)⟩,
    ⟨(some 7), none, .lens (.tmp 6)⟩,
    ⟨(some 8), none, .mv (.tmp 1)⟩,
    ⟨(some 9), none, .lens (.tmp 8)⟩,
    ⟨(some 10), none, .bin .neq (.tmp 7) (.tmp 9)⟩])
  (.cond (.tmp 10) (.seq (.ops [⟨(some 4), none, .mv (.const (.bool false))⟩])
  (.ret)) (.skip)))
  (.kept [0, 1] (.seq (.seq (.ops [⟨(some 5), none, .mv (.const (.int .i64 0))⟩])
  (.block 0 (.loop 2 [(0, 0), (1, 0), (5, 0)] c_laws_eqStringS_l1)))
  (.kept [] (.seq (.ops [⟨(some 4), none, .mv (.const (.bool true))⟩])
  (.ret))))))
theorem h_laws_eqStringS : (Try.prog.funcs[n_laws_eqStringS]?).bind (fun fn => fn.body.bind (comp Try.prog fn.ntmps)) = some (AS.strip c_laws_eqStringS) := by kernel_rfl
theorem r_laws_eqStringS : (Try.prog.funcs[n_laws_eqStringS]?).map (fun fn => (fn.results.toList, fn.ntmps)) = some ([.tmp 4], 26) := by kernel_rfl
-- 55 loop.example/g00850/laws.eqIntS
abbrev n_laws_eqIntS : Nat := 55
def c_laws_eqIntS_l1 : AS :=
  .seq (.seq (.ops [⟨(some 11), none, .mv (.tmp 5)⟩,
    ⟨(some 12), none, .mv (.tmp 0)⟩,
    ⟨(some 13), none, .lens (.tmp 12)⟩,
    ⟨(some 14), none, .bin .lss (.tmp 11) (.tmp 13)⟩])
  (.cond (.tmp 14) (.skip) (.exit 0)))
  (.seq (.block 1 (.seq (.dops [⟨(some 17), none, .mv (.tmp 0)⟩,
    ⟨(some 18), none, .mv (.tmp 5)⟩,
    ⟨(some 19), none, .ia 1 (.tmp 17) (.tmp 18)⟩,
    ⟨(some 20), none, .load none (.tmp 19)⟩,
    ⟨(some 21), none, .mv (.tmp 1)⟩,
    ⟨(some 22), none, .mv (.tmp 5)⟩,
    ⟨(some 23), none, .ia 1 (.tmp 21) (.tmp 22)⟩,
    ⟨(some 24), none, .load none (.tmp 23)⟩,
    ⟨(some 25), none, .bin .neq (.tmp 20) (.tmp 24)⟩])
  (.kept [0, 1, 5, 25] (.cond (.tmp 25) (.seq (.ops [⟨(some 4), none, .mv (.const (.bool false))⟩])
  (.ret)) (.skip)))))
  (.kept [0, 1, 5] (.ops [⟨(some 15), none, .mv (.tmp 5)⟩,
    ⟨(some 16), none, .bin .add (.tmp 15) (.const (.int .i64 1))⟩,
    ⟨(some 5), none, .mv (.tmp 16)⟩])))
def c_laws_eqIntS : AS :=
  .seq (.ops [⟨(some 4), none, .mv (.const (.bool false))⟩])
  (.seq (.seq (.ops [⟨(some 6), none, .mv (.tmp 0)⟩,
    ⟨(some 7), none, .lens (.tmp 6)⟩,
    ⟨(some 8), none, .mv (.tmp 1)⟩,
    ⟨(some 9), none, .lens (.tmp 8)⟩,
    ⟨(some 10), none, .bin .neq (.tmp 7) (.tmp 9)⟩])
  (.cond (.tmp 10) (.seq (.ops [⟨(some 4), none, .mv (.const (.bool false))⟩])
  (.ret)) (.skip)))
  (.kept [0, 1] (.seq (.seq (.ops [⟨(some 5), none, .mv (.const (.int .i64 0))⟩])
  (.block 0 (.loop 2 [(0, 0), (1, 0), (5, 0)] c_laws_eqIntS_l1)))
  (.kept [] (.seq (.ops [⟨(some 4), none, .mv (.const (.bool true))⟩])
  (.ret))))))
theorem h_laws_eqIntS : (Try.prog.funcs[n_laws_eqIntS]?).bind (fun fn => fn.body.bind (comp Try.prog fn.ntmps)) = some (AS.strip c_laws_eqIntS) := by kernel_rfl
theorem r_laws_eqIntS : (Try.prog.funcs[n_laws_eqIntS]?).map (fun fn => (fn.results.toList, fn.ntmps)) = some ([.tmp 4], 26) := by kernel_rfl
-- 56 loop.example/g00850/impl.isRange
abbrev n_impl_isRange : Nat := 56
def c_impl_isRange : AS :=
  .seq (.ops [⟨(some 2), none, .box (.tmp 0)⟩,
    ⟨(some 4), none, .mv (.const (.bool false))⟩])
  (.seq (.ops [⟨(some 5), none, .load (some 3) (.tmp 2)⟩,
    ⟨(some 6), none, .call 24 [(.tmp 5)]⟩,
    ⟨(some 7), none, .mv (.tmp 6)⟩,
    ⟨(some 8), some (7, true), .mv (.tmp 1)⟩,
    ⟨(some 9), some (7, true), .fa 2 (.tmp 2)⟩,
    ⟨(some 10), some (7, true), .load none (.tmp 9)⟩,
    ⟨(some 11), some (7, true), .lens (.tmp 10)⟩,
    ⟨(some 12), some (7, true), .bin .sub (.tmp 11) (.const (.int .i64 1))⟩,
    ⟨(some 13), some (7, true), .call 42 [(.tmp 8), (.const (.int .i64 0)), (.tmp 12)]⟩,
    ⟨(some 14), none, .pick (.tmp 7) (.tmp 13) (.const (.bool false))⟩,
    ⟨(some 4), none, .mv (.tmp 14)⟩])
  (.ret))
theorem h_impl_isRange : (Try.prog.funcs[n_impl_isRange]?).bind (fun fn => fn.body.bind (comp Try.prog fn.ntmps)) = some (AS.strip c_impl_isRange) := by kernel_rfl
theorem r_impl_isRange : (Try.prog.funcs[n_impl_isRange]?).map (fun fn => (fn.results.toList, fn.ntmps)) = some ([.tmp 4], 15) := by kernel_rfl
-- 57 loop.example/g00850/spec.l20Range
abbrev n_spec_l20Range : Nat := 57
def c_spec_l20Range_l1 : AS :=
  .seq (.seq (.ops [⟨(some 6), none, .mv (.tmp 5)⟩,
    ⟨(some 7), none, .fa 1 (.tmp 2)⟩,
    ⟨(some 8), none, .load none (.tmp 7)⟩,
    ⟨(some 9), none, .lens (.tmp 8)⟩,
    ⟨(some 10), none, .bin .lss (.tmp 6) (.tmp 9)⟩,
    ⟨(some 11), none, .mv (.tmp 10)⟩,
    ⟨(some 12), some (11, true), .fa 1 (.tmp 2)⟩,
    ⟨(some 13), some (11, true), .load none (.tmp 12)⟩,
    ⟨(some 14), some (11, true), .mv (.tmp 5)⟩,
    ⟨(some 15), some (11, true), .ia 1 (.tmp 13) (.tmp 14)⟩,
    ⟨(some 16), some (11, true), .load none (.tmp 15)⟩,
    ⟨(some 17), some (11, true), .mv (.tmp 1)⟩,
    ⟨(some 18), some (11, true), .bin .leq (.tmp 16) (.tmp 17)⟩,
    ⟨(some 19), none, .pick (.tmp 11) (.tmp 18) (.const (.bool false))⟩])
  (.kept [1, 2, 5, 19] (.cond (.tmp 19) (.skip) (.exit 0))))
  (.kept [1, 2, 5] (.block 1 (.ops [⟨(some 20), none, .mv (.tmp 5)⟩,
    ⟨(some 21), none, .bin .add (.tmp 20) (.const (.int .i64 1))⟩,
    ⟨(some 5), none, .mv (.tmp 21)⟩])))
def c_spec_l20Range : AS :=
  .seq (.ops [⟨(some 2), none, .box (.tmp 0)⟩,
    ⟨(some 4), none, .mv (.const (.int .i64 0))⟩])
  (.seq (.ops [⟨(some 5), none, .mv (.const (.int .i64 0))⟩])
  (.seq (.block 0 (.loop 2 [(1, 0), (2, 0), (5, 0)] c_spec_l20Range_l1))
  (.kept [5] (.seq (.ops [⟨(some 22), none, .mv (.tmp 5)⟩,
    ⟨(some 4), none, .mv (.tmp 22)⟩])
  (.ret)))))
theorem h_spec_l20Range : (Try.prog.funcs[n_spec_l20Range]?).bind (fun fn => fn.body.bind (comp Try.prog fn.ntmps)) = some (AS.strip c_spec_l20Range) := by kernel_rfl
theorem r_spec_l20Range : (Try.prog.funcs[n_spec_l20Range]?).map (fun fn => (fn.results.toList, fn.ntmps)) = some ([.tmp 4], 23) := by kernel_rfl
-- 58 loop.example/g00850/impl.GoodKey
abbrev n_impl_GoodKey : Nat := 58
def c_impl_GoodKey : AS :=
  .seq (.ops [⟨(some 2), none, .mv (.const (.bool false))⟩])
  (.seq (.ops [⟨(some 3), none, .mv (.tmp 0)⟩,
    ⟨(some 4), none, .lent (.tmp 3)⟩,
    ⟨(some 5), none, .call 42 [(.tmp 4), (.const (.int .i64 1)), (.const (.int .i64 12))]⟩,
    ⟨(some 6), none, .mv (.tmp 5)⟩,
    ⟨(some 7), some (6, true), .mv (.tmp 0)⟩,
    ⟨(some 8), some (6, true), .call 67 [(.tmp 7), (.const (.string ⟨⟨[46, 47]⟩⟩))]⟩,
    ⟨(some 9), none, .pick (.tmp 6) (.tmp 8) (.const (.bool false))⟩,
    ⟨(some 2), none, .mv (.tmp 9)⟩])
  (.ret))
theorem h_impl_GoodKey : (Try.prog.funcs[n_impl_GoodKey]?).bind (fun fn => fn.body.bind (comp Try.prog fn.ntmps)) = some (AS.strip c_impl_GoodKey) := by kernel_rfl
theorem r_impl_GoodKey : (Try.prog.funcs[n_impl_GoodKey]?).map (fun fn => (fn.results.toList, fn.ntmps)) = some ([.tmp 2], 10) := by kernel_rfl
-- 59 loop.example/g00850/impl.partOf
abbrev n_impl_partOf : Nat := 59
def c_impl_partOf_l1 : AS :=
  .seq (.ops [⟨(some 11), none, .bin .lss (.tmp 10) (.tmp 9)⟩])
  (.seq (.cond (.tmp 11) (.skip) (.exit 0))
  (.seq (.block 1 (.seq (.ops [⟨(some 12), none, .ia 1 (.tmp 8) (.tmp 10)⟩,
    ⟨(some 13), none, .load none (.tmp 12)⟩,
    ⟨(some 7), none, .mv (.tmp 13)⟩])
  (.seq (.ops [⟨(some 14), none, .mv (.tmp 7)⟩,
    ⟨(some 15), none, .mv (.tmp 1)⟩,
    ⟨(some 16), none, .bin .leq (.tmp 14) (.tmp 15)⟩])
  (.cond (.tmp 16) (.ops [⟨(some 17), none, .mv (.tmp 5)⟩,
    ⟨(some 18), none, .bin .add (.tmp 17) (.const (.int .i64 1))⟩,
    ⟨(some 5), none, .mv (.tmp 18)⟩]) (.skip)))))
  (.kept [1, 5, 8, 9, 10] (.ops [⟨(some 19), none, .bin .add (.tmp 10) (.const (.int .i64 1))⟩,
    ⟨(some 10), none, .mv (.tmp 19)⟩]))))
def c_impl_partOf : AS :=
  .seq (.ops [⟨(some 4), none, .mv (.const (.int .i64 0))⟩])
  (.seq (.ops [⟨(some 5), none, .mv (.const (.int .i64 0))⟩])
  (.seq (.seq (.ops [⟨(some 8), none, .mv (.tmp 0)⟩,
    ⟨(some 9), none, .lens (.tmp 8)⟩,
    ⟨(some 10), none, .mv (.const (.int .i64 0))⟩])
  (.block 0 (.loop 2 [(1, 0), (5, 0), (8, 0), (9, 0), (10, 0)] c_impl_partOf_l1)))
  (.kept [5] (.seq (.ops [⟨(some 20), none, .mv (.tmp 5)⟩,
    ⟨(some 4), none, .mv (.tmp 20)⟩])
  (.ret)))))
theorem h_impl_partOf : (Try.prog.funcs[n_impl_partOf]?).bind (fun fn => fn.body.bind (comp Try.prog fn.ntmps)) = some (AS.strip c_impl_partOf) := by kernel_rfl
theorem r_impl_partOf : (Try.prog.funcs[n_impl_partOf]?).map (fun fn => (fn.results.toList, fn.ntmps)) = some ([.tmp 4], 21) := by kernel_rfl
-- 60 loop.example/g00850/spec.l20Group
abbrev n_spec_l20Group : Nat := 60
def c_spec_l20Group : AS :=
  .seq (.ops [⟨(some 2), none, .box (.tmp 0)⟩,
    ⟨(some 4), none, .mv (.const (.int .i64 0))⟩])
  (.seq (.rops [(false, ⟨(some 5), none, .fa 2 (.tmp 2)⟩),
    (false, ⟨(some 6), none, .load none (.tmp 5)⟩),
    (false, ⟨(some 7), none, .load (some 3) (.tmp 2)⟩),
    (false, ⟨(some 8), none, .mv (.tmp 1)⟩),
    (true, ⟨(some 9), none, .call 57 [(.tmp 7), (.tmp 8)]⟩),
    (false, ⟨(some 10), none, .ia 1 (.tmp 6) (.tmp 9)⟩),
    (false, ⟨(some 11), none, .load none (.tmp 10)⟩),
    (false, ⟨(some 4), none, .mv (.tmp 11)⟩)])
  (.ret))
theorem h_spec_l20Group : (Try.prog.funcs[n_spec_l20Group]?).bind (fun fn => fn.body.bind (comp Try.prog fn.ntmps)) = some (AS.strip c_spec_l20Group) := by kernel_rfl
theorem r_spec_l20Group : (Try.prog.funcs[n_spec_l20Group]?).map (fun fn => (fn.results.toList, fn.ntmps)) = some ([.tmp 4], 12) := by kernel_rfl
-- 61 (loop.example/g00850/impl.Places).owner
abbrev n_impl_Places_owner : Nat := 61
def c_impl_Places_owner : AS :=
  .seq (.ops [⟨(some 2), none, .box (.tmp 0)⟩,
    ⟨(some 4), none, .mv (.const (.int .i64 0))⟩])
  (.seq (.rops [(false, ⟨(some 5), none, .fa 2 (.tmp 2)⟩),
    (false, ⟨(some 6), none, .load none (.tmp 5)⟩),
    (false, ⟨(some 7), none, .fa 1 (.tmp 2)⟩),
    (false, ⟨(some 8), none, .load none (.tmp 7)⟩),
    (false, ⟨(some 9), none, .mv (.tmp 1)⟩),
    (true, ⟨(some 10), none, .call 59 [(.tmp 8), (.tmp 9)]⟩),
    (false, ⟨(some 11), none, .ia 1 (.tmp 6) (.tmp 10)⟩),
    (false, ⟨(some 12), none, .load none (.tmp 11)⟩),
    (false, ⟨(some 4), none, .mv (.tmp 12)⟩)])
  (.ret))
theorem h_impl_Places_owner : (Try.prog.funcs[n_impl_Places_owner]?).bind (fun fn => fn.body.bind (comp Try.prog fn.ntmps)) = some (AS.strip c_impl_Places_owner) := by kernel_rfl
theorem r_impl_Places_owner : (Try.prog.funcs[n_impl_Places_owner]?).map (fun fn => (fn.results.toList, fn.ntmps)) = some ([.tmp 4], 13) := by kernel_rfl
-- 65 loop.example/g00850/spec.l3Bytes
abbrev n_spec_l3Bytes : Nat := 65
def c_spec_l3Bytes_l1 : AS :=
  .seq (.seq (.ops [⟨(some 36), none, .mv (.tmp 7)⟩,
    ⟨(some 37), none, .mv (.tmp 1)⟩,
    ⟨(some 38), none, .lent (.tmp 37)⟩,
    ⟨(some 39), none, .bin .lss (.tmp 36) (.tmp 38)⟩])
  (.cond (.tmp 39) (.skip) (.exit 2)))
  (.seq (.block 3 (.dops [⟨(some 42), none, .mv (.tmp 6)⟩,
    ⟨(some 43), none, .mv (.tmp 42)⟩,
    ⟨(some 44), some (43, false), .mv (.tmp 0)⟩,
    ⟨(some 45), some (43, false), .mv (.tmp 5)⟩,
    ⟨(some 46), some (43, false), .ix (.tmp 44) (.tmp 45)⟩,
    ⟨(some 47), some (43, false), .mv (.tmp 1)⟩,
    ⟨(some 48), some (43, false), .mv (.tmp 7)⟩,
    ⟨(some 49), some (43, false), .ix (.tmp 47) (.tmp 48)⟩,
    ⟨(some 50), some (43, false), .bin .eql (.tmp 46) (.tmp 49)⟩,
    ⟨(some 51), none, .pick (.tmp 43) (.const (.bool true)) (.tmp 50)⟩,
    ⟨(some 6), none, .mv (.tmp 51)⟩]))
  (.kept [0, 1, 5, 6, 7] (.ops [⟨(some 40), none, .mv (.tmp 7)⟩,
    ⟨(some 41), none, .bin .add (.tmp 40) (.const (.int .i64 1))⟩,
    ⟨(some 7), none, .mv (.tmp 41)⟩])))
def c_spec_l3Bytes_l2 : AS :=
  .seq (.seq (.ops [⟨(some 8), none, .mv (.tmp 5)⟩,
    ⟨(some 9), none, .mv (.tmp 0)⟩,
    ⟨(some 10), none, .lent (.tmp 9)⟩,
    ⟨(some 11), none, .bin .lss (.tmp 8) (.tmp 10)⟩])
  (.cond (.tmp 11) (.skip) (.exit 0)))
  (.seq (.block 1 (.seq (.ops [⟨(some 14), none, .mv (.tmp 0)⟩,
    ⟨(some 15), none, .mv (.tmp 5)⟩,
    ⟨(some 16), none, .ix (.tmp 14) (.tmp 15)⟩,
    ⟨(some 17), none, .bin .geq (.tmp 16) (.const (.int .u8 97))⟩,
    ⟨(some 18), none, .mv (.tmp 17)⟩,
    ⟨(some 19), some (18, true), .mv (.tmp 0)⟩,
    ⟨(some 20), some (18, true), .mv (.tmp 5)⟩,
    ⟨(some 21), some (18, true), .ix (.tmp 19) (.tmp 20)⟩,
    ⟨(some 22), some (18, true), .bin .leq (.tmp 21) (.const (.int .u8 122))⟩,
    ⟨(some 23), none, .pick (.tmp 18) (.tmp 22) (.const (.bool false))⟩,
    ⟨(some 24), none, .mv (.tmp 23)⟩,
    ⟨(some 25), some (24, false), .mv (.tmp 0)⟩,
    ⟨(some 26), some (24, false), .mv (.tmp 5)⟩,
    ⟨(some 27), some (24, false), .ix (.tmp 25) (.tmp 26)⟩,
    ⟨(some 28), some (24, false), .bin .geq (.tmp 27) (.const (.int .u8 48))⟩,
    ⟨(some 29), some (24, false), .mv (.tmp 28)⟩,
    ⟨(some 30), some (29, true), .mv (.tmp 0)⟩,
    ⟨(some 31), some (29, true), .mv (.tmp 5)⟩,
    ⟨(some 32), some (29, true), .ix (.tmp 30) (.tmp 31)⟩,
    ⟨(some 33), some (29, true), .bin .leq (.tmp 32) (.const (.int .u8 57))⟩,
    ⟨(some 34), some (24, false), .pick (.tmp 29) (.tmp 33) (.const (.bool false))⟩,
    ⟨(some 35), none, .pick (.tmp 24) (.const (.bool true)) (.tmp 34)⟩,
    ⟨(some 6), none, .mv (.tmp 35)⟩])
  (.kept [0, 1, 5, 6] (.seq (.seq (.ops [⟨(some 7), none, .mv (.const (.int .i64 0))⟩])
  (.block 2 (.loop 2 [(0, 0), (1, 0), (5, 0), (6, 0), (7, 0)] c_spec_l3Bytes_l1)))
  (.kept [0, 1, 5, 6] (.seq (.ops [⟨(some 52), none, .mv (.tmp 6)⟩,
    ⟨(some 53), none, .not (.tmp 52)⟩])
  (.cond (.tmp 53) (.seq (.ops [⟨(some 4), none, .mv (.const (.bool false))⟩])
  (.ret)) (.skip))))))))
  (.kept [0, 1, 5] (.ops [⟨(some 12), none, .mv (.tmp 5)⟩,
    ⟨(some 13), none, .bin .add (.tmp 12) (.const (.int .i64 1))⟩,
    ⟨(some 5), none, .mv (.tmp 13)⟩])))
def c_spec_l3Bytes : AS :=
  .seq (.ops [⟨(some 4), none, .mv (.const (.bool false))⟩])
  (.seq (.seq (.ops [⟨(some 5), none, .mv (.const (.int .i64 0))⟩])
  (.block 0 (.loop 2 [(0, 0), (1, 0), (5, 0)] c_spec_l3Bytes_l2)))
  (.kept [] (.seq (.ops [⟨(some 4), none, .mv (.const (.bool true))⟩])
  (.ret))))
theorem h_spec_l3Bytes : (Try.prog.funcs[n_spec_l3Bytes]?).bind (fun fn => fn.body.bind (comp Try.prog fn.ntmps)) = some (AS.strip c_spec_l3Bytes) := by kernel_rfl
theorem r_spec_l3Bytes : (Try.prog.funcs[n_spec_l3Bytes]?).map (fun fn => (fn.results.toList, fn.ntmps)) = some ([.tmp 4], 54) := by kernel_rfl
-- 66 slices.IndexFunc[[]int,int]
abbrev n_slices_IndexFunc___int_int_ : Nat := 66
def c_slices_IndexFunc___int_int__l1 : AS :=
  .seq (.ops [⟨(some 9), none, .bin .lss (.tmp 8) (.tmp 7)⟩])
  (.seq (.cond (.tmp 9) (.skip) (.exit 0))
  (.seq (.block 1 (.seq (.ops [⟨(some 10), none, .mv (.tmp 8)⟩,
    ⟨(some 5), none, .mv (.tmp 10)⟩])
  (.seq (.ops [⟨(some 11), none, .mv (.tmp 1)⟩,
    ⟨(some 12), none, .mv (.tmp 0)⟩,
    ⟨(some 13), none, .mv (.tmp 5)⟩,
    ⟨(some 14), none, .ia 1 (.tmp 12) (.tmp 13)⟩,
    ⟨(some 15), none, .load none (.tmp 14)⟩,
    ⟨(some 16), none, .callv (.tmp 11) [(.tmp 15)]⟩])
  (.cond (.tmp 16) (.seq (.ops [⟨(some 17), none, .mv (.tmp 5)⟩,
    ⟨(some 4), none, .mv (.tmp 17)⟩])
  (.ret)) (.skip)))))
  (.kept [0, 1, 7, 8] (.ops [⟨(some 18), none, .bin .add (.tmp 8) (.const (.int .i64 1))⟩,
    ⟨(some 8), none, .mv (.tmp 18)⟩]))))
def c_slices_IndexFunc___int_int_ : AS :=
  .seq (.ops [⟨(some 4), none, .mv (.const (.int .i64 0))⟩])
  (.seq (.seq (.ops [⟨(some 6), none, .mv (.tmp 0)⟩,
    ⟨(some 7), none, .lens (.tmp 6)⟩,
    ⟨(some 8), none, .mv (.const (.int .i64 0))⟩])
  (.block 0 (.loop 2 [(0, 0), (1, 0), (7, 0), (8, 0)] c_slices_IndexFunc___int_int__l1)))
  (.kept [] (.seq (.ops [⟨(some 4), none, .mv (.const (.int .i64 (-1)))⟩])
  (.ret))))
theorem h_slices_IndexFunc___int_int_ : (Try.prog.funcs[n_slices_IndexFunc___int_int_]?).bind (fun fn => fn.body.bind (comp Try.prog fn.ntmps)) = some (AS.strip c_slices_IndexFunc___int_int_) := by kernel_rfl
theorem r_slices_IndexFunc___int_int_ : (Try.prog.funcs[n_slices_IndexFunc___int_int_]?).map (fun fn => (fn.results.toList, fn.ntmps)) = some ([.tmp 4], 19) := by kernel_rfl
-- 67 loop.example/g00850/impl.hasBytes
abbrev n_impl_hasBytes : Nat := 67
def c_impl_hasBytes_l1 : AS :=
  .seq (.ops [⟨(some 9), none, .bin .lss (.tmp 8) (.tmp 7)⟩])
  (.seq (.cond (.tmp 9) (.skip) (.exit 0))
  (.seq (.block 1 (.seq (.ops [⟨(some 10), none, .mv (.tmp 8)⟩,
    ⟨(some 5), none, .mv (.tmp 10)⟩])
  (.seq (.ops [⟨(some 11), none, .mv (.tmp 0)⟩,
    ⟨(some 12), none, .mv (.tmp 5)⟩,
    ⟨(some 13), none, .ix (.tmp 11) (.tmp 12)⟩,
    ⟨(some 14), none, .call 68 [(.tmp 13)]⟩,
    ⟨(some 15), none, .not (.tmp 14)⟩,
    ⟨(some 16), none, .mv (.tmp 15)⟩,
    ⟨(some 17), some (16, true), .mv (.tmp 1)⟩,
    ⟨(some 18), some (16, true), .mv (.tmp 0)⟩,
    ⟨(some 19), some (16, true), .mv (.tmp 5)⟩,
    ⟨(some 20), some (16, true), .ix (.tmp 18) (.tmp 19)⟩,
    ⟨(some 21), some (16, true), .call 69 [(.tmp 17), (.tmp 20)]⟩,
    ⟨(some 22), some (16, true), .bin .lss (.tmp 21) (.const (.int .i64 0))⟩,
    ⟨(some 23), none, .pick (.tmp 16) (.tmp 22) (.const (.bool false))⟩])
  (.kept [0, 1, 7, 8, 23] (.cond (.tmp 23) (.seq (.ops [⟨(some 4), none, .mv (.const (.bool false))⟩])
  (.ret)) (.skip))))))
  (.kept [0, 1, 7, 8] (.ops [⟨(some 24), none, .bin .add (.tmp 8) (.const (.int .i64 1))⟩,
    ⟨(some 8), none, .mv (.tmp 24)⟩]))))
def c_impl_hasBytes : AS :=
  .seq (.ops [⟨(some 4), none, .mv (.const (.bool false))⟩])
  (.seq (.seq (.ops [⟨(some 6), none, .mv (.tmp 0)⟩,
    ⟨(some 7), none, .lent (.tmp 6)⟩,
    ⟨(some 8), none, .mv (.const (.int .i64 0))⟩])
  (.block 0 (.loop 2 [(0, 0), (1, 0), (7, 0), (8, 0)] c_impl_hasBytes_l1)))
  (.kept [] (.seq (.ops [⟨(some 4), none, .mv (.const (.bool true))⟩])
  (.ret))))
theorem h_impl_hasBytes : (Try.prog.funcs[n_impl_hasBytes]?).bind (fun fn => fn.body.bind (comp Try.prog fn.ntmps)) = some (AS.strip c_impl_hasBytes) := by kernel_rfl
theorem r_impl_hasBytes : (Try.prog.funcs[n_impl_hasBytes]?).map (fun fn => (fn.results.toList, fn.ntmps)) = some ([.tmp 4], 25) := by kernel_rfl
-- 68 loop.example/g00850/impl.isLowerOrDigit
abbrev n_impl_isLowerOrDigit : Nat := 68
def c_impl_isLowerOrDigit : AS :=
  .seq (.ops [⟨(some 2), none, .mv (.const (.bool false))⟩])
  (.seq (.ops [⟨(some 3), none, .mv (.tmp 0)⟩,
    ⟨(some 4), none, .bin .geq (.tmp 3) (.const (.int .u8 97))⟩,
    ⟨(some 5), none, .mv (.tmp 4)⟩,
    ⟨(some 6), some (5, true), .mv (.tmp 0)⟩,
    ⟨(some 7), some (5, true), .bin .leq (.tmp 6) (.const (.int .u8 122))⟩,
    ⟨(some 8), none, .pick (.tmp 5) (.tmp 7) (.const (.bool false))⟩,
    ⟨(some 9), none, .mv (.tmp 8)⟩,
    ⟨(some 10), some (9, false), .mv (.tmp 0)⟩,
    ⟨(some 11), some (9, false), .bin .geq (.tmp 10) (.const (.int .u8 48))⟩,
    ⟨(some 12), some (9, false), .mv (.tmp 11)⟩,
    ⟨(some 13), some (12, true), .mv (.tmp 0)⟩,
    ⟨(some 14), some (12, true), .bin .leq (.tmp 13) (.const (.int .u8 57))⟩,
    ⟨(some 15), some (9, false), .pick (.tmp 12) (.tmp 14) (.const (.bool false))⟩,
    ⟨(some 16), none, .pick (.tmp 9) (.const (.bool true)) (.tmp 15)⟩,
    ⟨(some 2), none, .mv (.tmp 16)⟩])
  (.ret))
theorem h_impl_isLowerOrDigit : (Try.prog.funcs[n_impl_isLowerOrDigit]?).bind (fun fn => fn.body.bind (comp Try.prog fn.ntmps)) = some (AS.strip c_impl_isLowerOrDigit) := by kernel_rfl
theorem r_impl_isLowerOrDigit : (Try.prog.funcs[n_impl_isLowerOrDigit]?).map (fun fn => (fn.results.toList, fn.ntmps)) = some ([.tmp 2], 17) := by kernel_rfl
-- 69 strings.IndexByte
abbrev n_strings_IndexByte : Nat := 69
def c_strings_IndexByte : AS :=
  .seq (.ops [⟨(some 4), none, .mv (.const (.int .i64 0))⟩])
  (.seq (.ops [⟨(some 5), none, .mv (.tmp 0)⟩,
    ⟨(some 6), none, .mv (.tmp 1)⟩,
    ⟨(some 7), none, .call 70 [(.tmp 5), (.tmp 6)]⟩,
    ⟨(some 4), none, .mv (.tmp 7)⟩])
  (.ret))
theorem h_strings_IndexByte : (Try.prog.funcs[n_strings_IndexByte]?).bind (fun fn => fn.body.bind (comp Try.prog fn.ntmps)) = some (AS.strip c_strings_IndexByte) := by kernel_rfl
theorem r_strings_IndexByte : (Try.prog.funcs[n_strings_IndexByte]?).map (fun fn => (fn.results.toList, fn.ntmps)) = some ([.tmp 4], 8) := by kernel_rfl
-- 70 internal/stringslite.IndexByte
abbrev n_internal_stringslite_IndexByte : Nat := 70
def c_internal_stringslite_IndexByte : AS :=
  .seq (.ops [⟨(some 4), none, .mv (.const (.int .i64 0))⟩])
  (.seq (.ops [⟨(some 5), none, .mv (.tmp 0)⟩,
    ⟨(some 6), none, .mv (.tmp 1)⟩,
    ⟨(some 7), none, .xcall 71 [(.tmp 5), (.tmp 6)]⟩,
    ⟨(some 4), none, .mv (.tmp 7)⟩])
  (.ret))
theorem h_internal_stringslite_IndexByte : (Try.prog.funcs[n_internal_stringslite_IndexByte]?).bind (fun fn => fn.body.bind (comp Try.prog fn.ntmps)) = some (AS.strip c_internal_stringslite_IndexByte) := by kernel_rfl
theorem r_internal_stringslite_IndexByte : (Try.prog.funcs[n_internal_stringslite_IndexByte]?).map (fun fn => (fn.results.toList, fn.ntmps)) = some ([.tmp 4], 8) := by kernel_rfl
-- 71 internal/bytealg.IndexByteString
abbrev n_internal_bytealg_IndexByteString : Nat := 71
-- NOT COMPILED
theorem d_internal_bytealg_IndexByteString : Try.prog.funcs[n_internal_bytealg_IndexByteString]? = some Try.f71 := by kernel_rfl
@[go_sem] theorem w_7 : wide Try.prog 7 = some (some 4) := by kernel_rfl
@[go_sem] theorem w_8 : wide Try.prog 8 = some (some 4) := by kernel_rfl
@[go_sem] theorem w_13 : wide Try.prog 13 = some (some 2) := by kernel_rfl
@[go_sem] theorem w_14 : wide Try.prog 14 = some (some 2) := by kernel_rfl
@[go_sem] theorem w_18 : wide Try.prog 18 = some (some 1) := by kernel_rfl
@[go_sem] theorem w_19 : wide Try.prog 19 = some (some 1) := by kernel_rfl
@[go_sem] theorem w_24 : wide Try.prog 24 = some (some 1) := by kernel_rfl
@[go_sem] theorem w_25 : wide Try.prog 25 = some (some 1) := by kernel_rfl
@[go_sem] theorem w_28 : wide Try.prog 28 = some (some 2) := by kernel_rfl
@[go_sem] theorem w_29 : wide Try.prog 29 = some (some 2) := by kernel_rfl
@[go_sem] theorem w_43 : wide Try.prog 43 = some (some 3) := by kernel_rfl
@[go_sem] theorem w_44 : wide Try.prog 44 = some (some 3) := by kernel_rfl
@[go_sem] theorem w_47 : wide Try.prog 47 = some (some 3) := by kernel_rfl
@[go_sem] theorem w_58 : wide Try.prog 58 = some (some 3) := by kernel_rfl
@[go_sem] theorem w_59 : wide Try.prog 59 = some (some 3) := by kernel_rfl
@[go_sem] theorem w_90 : wide Try.prog 90 = some (some 4) := by kernel_rfl
@[go_sem] theorem w_91 : wide Try.prog 91 = some (some 4) := by kernel_rfl
@[go_sem] theorem w_102 : wide Try.prog 102 = some (some 11) := by kernel_rfl
@[go_sem] theorem w_103 : wide Try.prog 103 = some (some 11) := by kernel_rfl
end Go.Proofs.Wb
