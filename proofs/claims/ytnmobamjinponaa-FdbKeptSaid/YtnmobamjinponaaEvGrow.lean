/- A heap with a known beginning and an unknown rest: how it is read and written. -/
import Derived.Test.YtnmobamjinponaaEvArgSlice
namespace Go.Ev
section
variable {α : Type} {H G l : Heap} {ch x y : Chunk} {k : Nat}
theorem u_nil : up1 [] 0 ch = [ch] := rfl
theorem u_zero : up1 (x :: H) 0 ch = ch :: H := by unfold up1; rw [if_neg (by simp)]; rfl
theorem u_succ : up1 (x :: H) (k + 1) ch = x :: up1 H k ch := by
  unfold up1
  by_cases e : k = H.length
  · subst e; simp
  · rw [if_neg e, if_neg (by simp only [List.length_cons]; omega)]; rfl
theorem u_app : up1 (G ++ l) (G.length + k) ch = G ++ up1 l k ch := by
  unfold up1
  by_cases e : k = l.length
  · subst e; simp
  · rw [if_neg e, if_neg (by rw [List.length_append]; omega), List.set_append_right _ _ (by omega)]
    congr 2; omega
theorem u_app0 : up1 (G ++ l) G.length ch = G ++ up1 l 0 ch := u_app (k := 0)
theorem u_len : up1 G G.length ch = G ++ [ch] := by unfold up1; rw [if_pos rfl]
theorem g_app : (G ++ l)[G.length + k]? = l[k]? := by
  rw [List.getElem?_append_right (by omega)]; congr 1; omega
theorem g_app0 : (G ++ l)[G.length]? = l[0]? := g_app (k := 0)
end
end Go.Ev
