/- The specification's first difference. Conditions: as each theorem says. -/
import Derived.Test.YtbpbgiedemkciaaGreatDoorDc
import Derived.Test.YtbpbgiedemkciaaGreatDoorCi
import Derived.Test.YtbpbgiedemkciaaGreatDoorCg
namespace Go.AM
open Go.Proofs Cw
set_option maxRecDepth 10000
set_option maxHeartbeats 4000000
theorem next_spec (a b c d e : List Int) (ka kb kc kd ke : Nat) (ha : ka < a.length) (hb : kb < b.length) (hc : kc < c.length) (hd : kd < d.length) (he : ke < e.length)
   (la : a.length ≤ 100000) (lb : b.length ≤ 100000) (lc : c.length ≤ 100000) (ld : d.length ≤ 100000) (le : e.length ≤ 100000) :
   ∃ (ja jb jc jd je : Nat) (more : Bool), APure Tryz.prog 66 [encN a b c d e, .agg [iv .i64 ka, iv .i64 kb, iv .i64 kc, iv .i64 kd, iv .i64 ke]] (.tup [.agg [iv .i64 ja, iv .i64 jb, iv .i64 jc, iv .i64 jd, iv .i64 je], bv more]) ∧
     ja < a.length ∧ jb < b.length ∧ jc < c.length ∧ jd < d.length ∧ je < e.length ∧ (more = true → nextI [a, b, c, d, e] [ka, kb, kc, kd, ke] = some [ja, jb, jc, jd, je]) ∧ (more = false → nextI [a, b, c, d, e] [ka, kb, kc, kd, ke] = none) := by
 by_cases h4 : ke + 1 < e.length
 · exact ⟨ka, kb, kc, kd, ke + 1, true, next_e a b c d e ka kb kc kd ke (by omega) (by omega) (by omega) (by omega) (by omega) h4, ha, hb, hc, hd, h4, fun _ => by simp [nextI, zeros, h4], fun h => by cases h⟩
 by_cases h3 : kd + 1 < d.length
 · exact ⟨ka, kb, kc, kd + 1, 0, true, next_d a b c d e ka kb kc kd ke (by omega) (by omega) (by omega) (by omega) (by omega) h4 h3, ha, hb, hc, h3, by omega, fun _ => by simp [nextI, zeros, h4, h3], fun h => by cases h⟩
 by_cases h2 : kc + 1 < c.length
 · exact ⟨ka, kb, kc + 1, 0, 0, true, next_c a b c d e ka kb kc kd ke (by omega) (by omega) (by omega) (by omega) (by omega) h4 h3 h2, ha, hb, h2, by omega, by omega, fun _ => by simp [nextI, zeros, h4, h3, h2], fun h => by cases h⟩
 by_cases h1 : kb + 1 < b.length
 · exact ⟨ka, kb + 1, 0, 0, 0, true, next_b a b c d e ka kb kc kd ke (by omega) (by omega) (by omega) (by omega) (by omega) h4 h3 h2 h1, ha, h1, by omega, by omega, by omega, fun _ => by simp [nextI, zeros, h4, h3, h2, h1], fun h => by cases h⟩
 by_cases h0 : ka + 1 < a.length
 · exact ⟨ka + 1, 0, 0, 0, 0, true, next_a a b c d e ka kb kc kd ke (by omega) (by omega) (by omega) (by omega) (by omega) h4 h3 h2 h1 h0, h0, by omega, by omega, by omega, by omega, fun _ => by simp [nextI, zeros, h4, h3, h2, h1, h0], fun h => by cases h⟩
 · exact ⟨ka, kb, kc, kd, ke, false, next_end a b c d e ka kb kc kd ke (by omega) (by omega) (by omega) (by omega) (by omega) h4 h3 h2 h1 h0, ha, hb, hc, hd, he, fun h => by (cases h), fun _ => by simp [nextI, h4, h3, h2, h1, h0]⟩
end Go.AM
