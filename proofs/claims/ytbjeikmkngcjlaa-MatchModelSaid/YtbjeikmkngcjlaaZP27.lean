/- All matches: the functions' plain words. -/
import Derived.Test.YtbjeikmkngcjlaaZP26
import Derived.Test.YtbjeikmkngcjlaaZG12
set_option linter.unusedVariables false
set_option linter.unusedSimpArgs false
namespace Go.Eng
open Go Go.Eng
theorem q_insSort_is (a s z : List Mat) (hn : a.length + s.length + z.length ≤ 1000) : S.zztx_is (a ++ s ++ z) a.length ((a.length + s.length : Nat) : Int) = true := by unfold S.zztx_is; rw [q_insSort a s z hn]; rfl
theorem q_insSort_o (a s z : List Mat) (hn : a.length + s.length + z.length ≤ 1000) : S.zztx_o (a ++ s ++ z) a.length ((a.length + s.length : Nat) : Int) = ⟨a ++ stab s ++ z⟩ := by unfold S.zztx_o; rw [q_insSort a s z hn]; rfl
theorem q_insAll_is (l : List Mat) (hn : l.length ≤ 1000) : S.zztx_is l 0 (l.length : Nat) = true := by
 have := q_insSort_is [] l [] (by simpa using hn)
 simpa using this
theorem q_insAll_o (l : List Mat) (hn : l.length ≤ 1000) : S.zztx_o l 0 (l.length : Nat) = ⟨stab l⟩ := by
 have := q_insSort_o [] l [] (by simpa using hn)
 simpa using this
def kL (H : HH) (q : Query) (l : List Evt) (o : Int) (k : Nat) : List Mat := ((List.range k).filterMap (oneL H q l)).filter (keptB o)
theorem kL_none {H : HH} {q : Query} {l : List Evt} {o : Int} {k : Nat} (h : oneL H q l k = none) : kL H q l o (k + 1) = kL H q l o k := by
 unfold kL; rw [List.range_succ, List.filterMap_append]; simp [h]
theorem kL_some {H : HH} {q : Query} {l : List Evt} {o : Int} {k : Nat} {m : Mat} (h : oneL H q l k = some m) : kL H q l o (k + 1) = if keptB o m = true then kL H q l o k ++ [m] else kL H q l o k := by
 unfold kL; rw [List.range_succ, List.filterMap_append, List.filter_append]
 by_cases c : keptB o m = true
 ·simp [h, c]
 ·simp [h, c]
theorem kL_len (H : HH) (q : Query) (l : List Evt) (o : Int) (k : Nat) : (kL H q l o k).length ≤ k := by
 unfold kL
 have h1 := List.length_filter_le (keptB o) ((List.range k).filterMap (oneL H q l))
 have h2 := List.length_filterMap_le (oneL H q l) (List.range k)
 rw [List.length_range] at h2
 omega
end Go.Eng
