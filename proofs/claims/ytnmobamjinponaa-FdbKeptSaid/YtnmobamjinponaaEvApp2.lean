/- Append is sound. -/
import Derived.Test.YtnmobamjinponaaEvApp
namespace Go.Ev
open Go.RowKit
section
variable {P : Program} {X : Ctx} {ρ : Ren} {H : Heap} {W : List (Nat × Chunk)} {m : Nat} {w : World} {c : Prop} {v : IV}

theorem zeroT_spec2 {T : TypeId} {z : List SV} (h : zeroT P T = some z) : ∃ i zv, P.info? T = some i ∧ i.zero = some zv ∧ relL ρ z zv.cells.toList ∧ i.size = z.length := by
  unfold zeroT at h
  split at h
  · rename_i i hi
    split at h
    · rename_i zv hz
      split at h
      · rename_i hs
        have hl := (rawCells_rel (ρ := ρ) h).len
        simp at hl
        exact ⟨i, zv, hi, hz, rawCells_rel h, by omega⟩
      · cases h
    · cases h
  · cases h

theorem VK.put {l : Pl} {W : List (Nat × Chunk)} (h : m ∈ W.map (·.1)) : VK ρ (addR ρ m l) W := fun c hc hn => by
  have e : c ≠ m := fun e => hn (e ▸ h)
  unfold addR
  split
  · rw [List.getElem?_append_left (List.getElem?_eq_some_iff.1 hc).1]; exact hc
  · rw [List.getElem?_set_ne (Ne.symm e)]; exact hc

theorem PlaceOK.drop {c0 : Nat} {ch : Chunk} (h : PlaceOK ρ H m) (hc : H[c0]? = some ch) (hne : ch ≠ .gone) : PlaceOK ρ (H.set c0 .gone) m := by
  rcases h with rfl | ⟨h1, h2⟩
  · exact .inl (by simp)
  · refine .inr ⟨?_, h2⟩
    have : c0 ≠ m := fun e => by subst e; rw [hc] at h1; cases h1; exact hne rfl
    rw [List.getElem?_set_ne this]; exact h1

/-- A block that is new, with the old rows and the new ones, and some room. -/
theorem grow_ok {Hx : Heap} (hi : Inv X ρ Hx w) (hm : PlaceOK ρ Hx m) (T : TypeId) {olds news : List (List SV)} {vo vn : List Value} {z : List SV} {zv : Value} (hz : relL ρ z zv.cells.toList) (hz0 : 0 < z.length)
    (ho : rowsV ρ z.length olds vo) (hn : rowsV ρ z.length news vn) {n cap : Nat} (hl : n = olds.length + news.length) (hcap : n ≤ cap) :
    Inv X (addR ρ m (.mem w.heap.size 0 z.length cap)) (up1 Hx m (.rows true z.length (olds ++ news))) (w.drew.alloc (.cells (vo.toArray ++ vn.toArray ++ Builtin.zeroCells zv.cells (cap - n)) T)) ∧
      relI (addR ρ m (.mem w.heap.size 0 z.length cap)) (.s (.slice m 0 n)) (.slice (some ⟨w.heap.size, 0, none⟩) n cap) := by
  have hall := ho.append hn
  have hzl := hz.len
  simp at hzl
  have hsize : (vo.toArray ++ vn.toArray ++ Builtin.zeroCells zv.cells (cap - n)).size = cap * z.length := by
    simp only [Array.size_append, List.size_toArray, size_zeroCells, ho.1, hn.1, hzl, ← Nat.add_mul]
    congr 1; omega
  have hrows : rowsAt ρ (vo.toArray ++ vn.toArray ++ Builtin.zeroCells zv.cells (cap - n)) 0 z.length (olds ++ news) := by
    refine hall.at fun j u hj => ?_
    have hlt := (List.getElem?_eq_some_iff.1 hj).1
    rw [Nat.zero_add, Array.getElem?_append_left (by simpa using hlt)]
    simpa using hj
  have hone : ∀ u ∈ (vo.toArray ++ vn.toArray ++ Builtin.zeroCells zv.cells (cap - n)), u.oneCell' = true := by
    intro u hu
    rcases Array.mem_append.1 hu with h | h
    · rcases Array.mem_append.1 h with h | h
      · exact ho.one hi.obj1 hz0 u (by simpa using h)
      · exact hn.one hi.obj1 hz0 u (by simpa using h)
    · have : u ∈ zv.cells := by
        unfold Builtin.zeroCells at h
        simp only [Array.mem_map, Array.mem_range] at h
        obtain ⟨i, hi', rfl⟩ := h
        have hlt : i % zv.cells.size < zv.cells.size := Nat.mod_lt _ (by omega)
        rw [getElem!_pos zv.cells _ hlt]
        simp
      exact relL_one hi.obj1 hz u (by simpa using this)
  obtain ⟨h1, h2⟩ := newRows hi.drew hm (k := z.length) (r := cap) T hz0 hrows (by simp; omega) (by rw [hsize]; exact Nat.le_refl _) hone
  exact ⟨h1, h2 n hcap⟩

/-- Append where there is room. -/
theorem room_ok {c0 s n cap b base lim : Nat} {sz : Nat} {els olds news : List (List SV)} {vn : List Value} (hi : Inv X ρ H w) (hm : PlaceOK ρ H m) (hc : H[c0]? = some (.rows true sz els)) (hρ : ρ[c0]? = some (.mem b base sz lim))
    (hs : segR els s n = some olds) (hn : rowsV ρ sz news vn) (hcap : n + news.length ≤ cap) (hlim : s + cap ≤ lim) :
    ∃ w', (storeCells ((⟨b, base + s * sz, none⟩ : Addr).add (n * sz)) vn).run P w = .ok () w' ∧ Inv X (addR ρ m (.mem b (base + s * sz) sz cap)) (up1 (H.set c0 .gone) m (.rows true sz (olds ++ news))) w' := by
  obtain ⟨l', hl', hsat⟩ := hi.sat c0 _ hc
  rw [hρ] at hl'; cases hl'
  rcases hsat with ⟨h, _⟩ | ⟨b', base', lim', cells, T, lo, hi', he, hw, hsz, hlen, hfit, hfz, hone, hrows⟩
  · cases h
  · cases he
    obtain ⟨vo, ho, _, _, hcell⟩ := read_rows hi hc hρ hs
    obtain ⟨hol, hle, _⟩ := segR_spec hs
    have hmul : (s + cap) * sz ≤ lim * sz := Nat.mul_le_mul_right _ hlim
    have hmul2 : (s + cap) * sz = s * sz + cap * sz := Nat.add_mul _ _ _
    have hmul3 : (n + news.length) * sz ≤ cap * sz := Nat.mul_le_mul_right _ hcap
    have hmul4 : (n + news.length) * sz = n * sz + news.length * sz := Nat.add_mul _ _ _
    have hvn := hn.1
    have hvo := ho.1
    rw [hol] at hvo
    have honeN := hn.one hi.obj1 hsz
    obtain ⟨cs', hrun, hcsz, hin, hout⟩ := run_storeList P (T := T) vn 0 (base + s * sz + n * sz) w cells hw (by omega) (hfz rfl) honeN
    have hb : b < w.heap.size := (Array.getElem?_eq_some_iff.1 hw).1
    have h1 : Inv X ρ (H.set c0 (.rows true sz [])) (setBlk w b (.cells cs' T (lo, hi'))) := by
      have hone' : ∀ v ∈ cs', v.oneCell' = true := fun u hu => by
        obtain ⟨j, hj⟩ := Array.mem_iff_getElem?.1 hu
        by_cases h1 : base + s * sz + n * sz + 0 ≤ j ∧ j < base + s * sz + n * sz + 0 + vn.length
        · rw [hin j h1.1 h1.2] at hj; exact honeN u (List.mem_of_getElem? hj)
        · rw [hout j (by omega)] at hj; exact hone rfl u (Array.mem_of_getElem? hj)
      refine hi.upd hc hρ rfl rfl rfl rfl (by simp [setBlk]) (fun b' hb' => ?_) (.inr ⟨b, base, lim, cs', T, lo, hi', rfl, ?_, hsz, by simp, by omega, fun _ => by rw [hcsz]; exact hfz rfl, fun _ => hone', fun i row h => by simp at h⟩) rfl
      · have : b ≠ b' := fun e => hb' (by rw [e]; rfl)
        simp [setBlk, this]
      · simp [setBlk, hb]
    have h2 := h1.drop c0
    rw [List.set_set] at h2
    refine ⟨_, by rw [addr_add]; simpa using hrun, h2.take (hm.drop hc (by simp)) _ _ (fun _ _ => by simp) ?_ (fun b' hb' => ?_) (fun _ _ => by simp) ?_⟩
    · have hone' : ∀ v ∈ cs', v.oneCell' = true := fun u hu => by
        obtain ⟨j, hj⟩ := Array.mem_iff_getElem?.1 hu
        by_cases h1 : base + s * sz + n * sz + 0 ≤ j ∧ j < base + s * sz + n * sz + 0 + vn.length
        · rw [hin j h1.1 h1.2] at hj; exact honeN u (List.mem_of_getElem? hj)
        · rw [hout j (by omega)] at hj; exact hone rfl u (Array.mem_of_getElem? hj)
      refine .inr ⟨b, base + s * sz, cap, cs', T, lo, hi', rfl, by simp [setBlk, hb], hsz, by simp [hol]; exact hcap, by omega, fun _ => by rw [hcsz]; exact hfz rfl, fun _ => hone', ?_⟩
      have hall := (ho.append hn).pre (addR_le hi.len hm (.mem b (base + s * sz) sz cap))
      refine hall.at fun j u hj => ?_
      by_cases hlt : j < n * sz
      · rw [hout _ (by omega)]
        rw [List.getElem?_append_left (by omega)] at hj
        have := hcell j u hj
        simpa [World.cell?, hw] using this
      · have hjl := (List.getElem?_eq_some_iff.1 hj).1
        rw [List.length_append] at hjl
        rw [List.getElem?_append_right (by omega)] at hj
        rw [hin _ (by omega) (by omega), ← hj]
        congr 1; omega
    · simp only [Pl.blk, Option.some.injEq] at hb'
      subst hb'
      exact hi.own c0 _ _ b hc rfl hρ rfl
    · intro d x k b' hd hox hk hkb hbb
      simp only [Pl.blk, Option.some.injEq] at hbb
      subst hbb
      by_cases e : d = c0
      · subst e
        rw [List.getElem?_set] at hd
        simp at hd
        rw [← hd.2] at hox; cases hox
      · rw [List.getElem?_set_ne (Ne.symm e)] at hd
        exact hi.apart d c0 _ _ _ _ b e hd hc hox rfl hk hρ hkb rfl

theorem nowhere_ok (hi : Inv X ρ H w) (hm : PlaceOK ρ H m) (sz : Nat) : Inv X (addR ρ m .nowhere) (up1 H m (.rows true sz [])) w ∧ relI (addR ρ m .nowhere) (.s (.slice m 0 0)) (.slice none 0 0) :=
  ⟨hi.take hm _ _ (fun _ _ => by simp) (.inl ⟨rfl, rfl⟩) (fun b hb => by cases hb) (fun _ _ => by simp) (fun _ _ _ _ _ _ _ _ => by simp [Pl.blk]), .inl ⟨addR_get hi.len hm _, rfl, rfl, rfl⟩⟩

theorem firstCells_zero {sz : Nat} {bs : Option Addr} {cap : Nat} {w : World} : (Builtin.firstCells sz 0 (.slice bs 0 cap)).run P w = .ok #[] w := by
  cases bs with
  | none => simp [run_firstCells_none]
  | some a => exact run_firstCells_some w _ _ _ _ _ [] (by simp) fun j u hj => by simp at hj

theorem stAppend_sound {T T2 ty : TypeId} {x y : IV} {xv yv : Value} (hi : Inv X ρ H w) (hx : relI ρ x xv) (hy : relI ρ y yv) (hm : PlaceOK ρ H m) (h : stAppend P m T T2 x y H = some (c, v, W)) (hc : c) :
    StepOK P X ρ (do pure (.value (← Builtin.append_ #[T, T2] ty #[xv, yv]))) w v H W := by
  unfold stAppend at h
  split at h
  · rename_i z k hz hk hq
    split at h
    · rename_i h0
      obtain ⟨hz0, hk0⟩ := h0
      split at h
      · rename_i news hnews
        unfold zeroE at hz
        split at hz
        · rename_i e hu
          unfold bytesE at hk
          rw [hu] at hk
          obtain ⟨i, zv, hinf, hzero, hzrel, hisz⟩ := zeroT_spec2 (ρ := ρ) hz
          simp only [hinf, Option.map_some, Option.some.injEq] at hk
          obtain ⟨e2, hu2, hd2⟩ := srcT_spec hq
          obtain ⟨vn, hvn, hlenY, hread0⟩ := src_spec (P := P) (w := w) hi hy hnews
          have hread : ∀ w' : World, w'.heap = w.heap → (Builtin.firstCells z.length news.length yv).run P w' = .ok vn.toArray w' := fun w' hw => by
            have := hread0 w' news.length hw (Nat.le_refl _)
            rwa [List.take_of_length_le (by rw [hvn.1]; exact Nat.le_refl _)] at this
          clear hread0
          have hpos : 0 < z.length := by omega
          have hkpos : 0 < k := by omega
          have bound : ∀ n : Nat, n * k ≤ 140737488355328 → (n : Int) ≤ 9223372036854775807 := fun n h => by
            have : n * 1 ≤ n * k := Nat.mul_le_mul_left _ hkpos
            omega
          -- the way of the new block
          have grow : ∀ (Hx : Heap) (base : Option Addr) (n cap : Nat) (olds : List (List SV)) (vo : List Value), Inv X ρ Hx w → PlaceOK ρ Hx m → rowsV ρ z.length olds vo → olds.length = n → cap < n + news.length → (n + news.length) * k ≤ 140737488355328 →
              (∀ w' : World, w'.heap = w.heap → (Builtin.firstCells z.length n (.slice base n cap)).run P w' = .ok vo.toArray w') →
              ∃ ρ' xr w', Le ρ ρ' ∧ (∀ W : List (Nat × Chunk), m ∈ W.map (·.1) → VK ρ ρ' W) ∧ relI ρ' (.s (.slice m 0 (n + news.length))) xr ∧ Inv X ρ' (up1 Hx m (.rows true z.length (olds ++ news))) w' ∧
                (Builtin.append_ #[T, T2] ty #[.slice base n cap, yv]).run P w = .ok xr w' := by
            intro Hx base n cap olds vo hiH hmH hvo hol hlt hb hfo
            obtain ⟨g1, g2⟩ := grow_ok hiH hmH e hzrel hpos hvo hvn (n := n + news.length) (by omega) (grownCap_ge w (n + news.length) cap e)
            refine ⟨_, _, _, addR_le hiH.len hmH _, fun W h => VK.put h, g2, g1, ?_⟩
            refine run_app_grow hu hu2 hd2 hinf hzero (by rw [hisz]; exact hfo w.drew rfl) hlenY (by rw [hisz]; exact hread w.drew rfl) hlt (bound _ hb) ?_
            rw [hk]; exact growslice_fits hlt hb
          have fin : ∀ {xw : Value} {W : List (Nat × Chunk)} {vv : IV}, m ∈ W.map (·.1) → (∃ ρ' xr w', Le ρ ρ' ∧ (∀ W : List (Nat × Chunk), m ∈ W.map (·.1) → VK ρ ρ' W) ∧ relI ρ' vv xr ∧ Inv X ρ' (upd H W) w' ∧
                (Builtin.append_ #[T, T2] ty #[xw, yv]).run P w = .ok xr w') → StepOK P X ρ (do pure (.value (← Builtin.append_ #[T, T2] ty #[xw, yv]))) w vv H W := by
            rintro xw W vv hmW ⟨ρ', xr, w', h1, h2, h3, h4, h5⟩
            exact ⟨ρ', xr, w', h1, h2 W hmW, h3, h4, .inl (by simp [h5])⟩
          have empty : news = [] → ∀ {Hx : Heap}, Inv X ρ Hx w → PlaceOK ρ Hx m → ∃ ρ' xr w', Le ρ ρ' ∧ (∀ W : List (Nat × Chunk), m ∈ W.map (·.1) → VK ρ ρ' W) ∧ relI ρ' (.s (.slice m 0 0)) xr ∧ Inv X ρ' (up1 Hx m (.rows true z.length [])) w' ∧
                (Builtin.append_ #[T, T2] ty #[.slice none 0 0, yv]).run P w = .ok xr w' := by
            intro hn Hx hiH hmH
            obtain ⟨g1, g2⟩ := nowhere_ok hiH hmH z.length
            refine ⟨_, _, _, addR_le hiH.len hmH _, fun W h => VK.put h, g2, g1, ?_⟩
            have h0 : (Builtin.firstCells z.length 0 yv).run P w = .ok #[] w := by
              have := hread w rfl
              rw [hn] at this
              have hv0 : vn = [] := List.eq_nil_of_length_eq_zero (by rw [hvn.1, hn]; simp)
              rw [hv0] at this
              simpa using this
            exact run_app_nil0 hu hu2 hd2 hinf (by rw [hn] at hlenY; exact hlenY) (by rw [hisz]; exact h0)
          have fromNil : ∀ {Hx : Heap}, Inv X ρ Hx w → PlaceOK ρ Hx m → news.length * k ≤ 140737488355328 → ∃ ρ' xr w', Le ρ ρ' ∧ (∀ W : List (Nat × Chunk), m ∈ W.map (·.1) → VK ρ ρ' W) ∧ relI ρ' (.s (.slice m 0 news.length)) xr ∧
                Inv X ρ' (up1 Hx m (.rows true z.length news)) w' ∧ (Builtin.append_ #[T, T2] ty #[.slice none 0 0, yv]).run P w = .ok xr w' := by
            intro Hx hiH hmH hb
            by_cases hn : news = []
            · have := empty hn hiH hmH
              rw [hn]; exact this
            · have hlt : 0 < news.length := List.length_pos_iff.2 hn
              have := grow Hx none 0 0 [] [] hiH hmH rowsV.nil rfl (by omega) (by simpa using hb) (fun w' _ => firstCells_zero)
              simpa using this
          split at h
          · cases h
            obtain ⟨rfl, _⟩ := hx
            exact fin (by simp) (fromNil hi hm hc)
          · rename_i c0 s n
            split at h
            · rename_i sz els hch
              split at h
              · rename_i hsz; subst hsz
                split at h
                · rename_i olds holds
                  cases h
                  have hlt : c0 < H.length := (List.getElem?_eq_some_iff.1 hch).1
                  have eu : up1 H c0 .gone = H.set c0 .gone := by unfold up1; rw [if_neg (by omega)]
                  have hmd := hm.drop hch (by simp)
                  obtain ⟨hol, hle, _⟩ := segR_spec holds
                  refine fin (by simp) ?_
                  simp only [upd, eu]
                  rcases hx with ⟨hρ, rfl, rfl, rfl⟩ | ⟨b, base, sz1, lim, cap, hρ, rfl, hcap, hlim⟩ | ⟨b, base, sz1, lim, off, hρ, rfl, rfl⟩
                  · have : olds = [] := List.eq_nil_of_length_eq_zero hol
                    subst this
                    simpa using fromNil (hi.drop c0) hmd (by simpa using hc)
                  · obtain ⟨vo, hvo, rfl, _, hcell⟩ := read_rows hi hch hρ holds
                    by_cases hroom : n + news.length ≤ cap
                    · obtain ⟨w', hst, hinv⟩ := room_ok (P := P) hi hm hch hρ holds hvn hroom hlim
                      refine ⟨_, _, w', addR_le hi.len hm _, fun W h => VK.put h, .inr (.inl ⟨b, base + s * z.length, z.length, cap, cap, addR_get hi.len hm _, rfl, hroom, by omega⟩), hinv, ?_⟩
                      rw [Nat.zero_mul, Nat.add_zero]
                      exact run_app_room hu hu2 hd2 hinf hlenY (by rw [hisz]; exact hread w rfl) (by rw [hisz]; exact hst) hroom
                    · refine grow _ _ n cap olds vo (hi.drop c0) hmd hvo hol (by omega) hc fun w' hw => run_firstCells_some w' _ _ _ _ _ vo (by rw [hvo.1, hol]) fun j u hj => ?_
                      rw [addr_add, ← hcell j u hj]
                      simp [World.cell?, hw]
                  · have : olds = [] := List.eq_nil_of_length_eq_zero hol
                    subst this
                    by_cases hn : news = []
                    · obtain ⟨l', hl', hsat⟩ := hi.sat c0 _ hch
                      rw [hρ] at hl'; cases hl'
                      rcases hsat with ⟨h, _⟩ | ⟨b', base', lim', cells, T', lo, hi', he, hw, hsz1, hlen, hfit, hfz, hone, hrows⟩
                      · cases h
                      · cases he
                        subst hn
                        refine ⟨_, _, w, addR_le hi.len hm (.mem b 0 z.length 0), fun W h => VK.put h, .inr (.inr ⟨b, 0, z.length, 0, off, addR_get hi.len hm _, rfl, rfl⟩), (hi.drop c0).take hmd _ _ (fun _ _ => by simp)
                          (.inr ⟨b, 0, 0, cells, T', lo, hi', rfl, hw, hsz1, by simp, by simp, hfz, hone, fun i row h => by simp at h⟩) (fun b' hb' => ?_) (fun _ _ => by simp) ?_, ?_⟩
                        · simp only [Pl.blk, Option.some.injEq] at hb'
                          subst hb'
                          exact hi.own c0 _ _ b hch rfl hρ rfl
                        · intro d x k' b' hd hox hk' hkb hbb
                          simp only [Pl.blk, Option.some.injEq] at hbb
                          subst hbb
                          by_cases e : d = c0
                          · subst e
                            rw [List.getElem?_set] at hd
                            simp at hd
                            rw [← hd.2] at hox; cases hox
                          · rw [List.getElem?_set_ne (Ne.symm e)] at hd
                            exact hi.apart d c0 _ _ _ _ b e hd hch hox rfl hk' hρ hkb rfl
                        · have hv0 : vn = [] := List.eq_nil_of_length_eq_zero (by rw [hvn.1]; simp)
                          subst hv0
                          exact run_app_room (w' := w) hu hu2 hd2 hinf hlenY (by rw [hisz]; exact hread w rfl) (by simp only [storeCells]; rfl) (by simp)
                    · have hl0 : 0 < news.length := List.length_pos_iff.2 hn
                      exact grow _ _ 0 0 [] [] (hi.drop c0) hmd rowsV.nil rfl (by omega) hc (fun w' _ => firstCells_zero)
                · cases h
              · cases h
            · cases h
          · cases h
        · cases hz
      · cases h
    · cases h
  · cases h
end
end Go.Ev
