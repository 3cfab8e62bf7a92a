/- A part of the proof: contracts of the functions that the statement reaches. -/
import Derived.Test.YtlngmicffhkghaaC15
namespace Go.Ev
open Go.Proofs
set_option maxRecDepth 100000
set_option linter.unusedSimpArgs false
set_option linter.unusedVariables false
set_option maxHeartbeats 4000000
theorem fldN (ro : Int) (h0 : 0 ≤ ro) (h3 : ro ≤ 3) (c0 c1 c2 c3 c4 c5 : Bool) : (fld (numN ro c0 c1 c2 c3 c4 c5) 0 1 == 1) = c0 ∧ (fld (numN ro c0 c1 c2 c3 c4 c5) 1 1 == 1) = c1 ∧ (fld (numN ro c0 c1 c2 c3 c4 c5) 4 1 == 1) = c2 ∧ (fld (numN ro c0 c1 c2 c3 c4 c5) 5 1 == 1) = c3 ∧ (fld (numN ro c0 c1 c2 c3 c4 c5) 6 1 == 1) = c4 ∧ (fld (numN ro c0 c1 c2 c3 c4 c5) 7 1 == 1) = c5 ∧ IntKind.u8.wrap (fld (numN ro c0 c1 c2 c3 c4 c5) 2 3) = ro := by
  rcases ro4 ro h0 h3 with rfl | rfl | rfl | rfl <;> revert c0 c1 c2 c3 c4 c5 <;> decide +kernel
theorem tail_assoc (p : PD) (h Z : ByteArray) : tailS p h ++ Z = h ++ (bb (flagsN p) 1 ++ (bb p.rt 8 ++ (bb p.co 4 ++ (bb p.br 8 ++ (bb p.po 2 ++ (bb p.ag 2 ++ (bb p.mx 2 ++ (bb p.he 2 ++ (bb p.de 2 ++ Z))))))))) := by
  simp only [tailS, ByteArray.append_assoc]
theorem tail_size (p : PD) (h : ByteArray) : (tailS p h).size = h.size + 31 := by
  simp only [tailS, ByteArray.size_append, bb_size]
theorem ext5 (a b : UInt8) (X : ByteArray) : ((⟨#[66, 66, 3, 0, 0, a, b]⟩ : ByteArray) ++ X).extract 0 5 = ⟨#[66, 66, 3, 0, 0]⟩ := by
  apply ByteArray.ext
  simp [ByteArray.data_extract, ByteArray.data_append, Array.extract_append]
theorem fields_back (p : PD) (hp : p.ok) (hr : p.ro ≤ 3) (h Z : ByteArray) (hh : h.size = 7) : fieldsP (zeroP p.k) (tailS p h ++ Z) 7 = p := by
  rw [tail_assoc]
  obtain ⟨⟨k0, k1⟩, ⟨ro0, ro1⟩, ⟨rt0, rt1⟩, ⟨co0, co1⟩, ⟨br0, br1⟩, ⟨po0, po1⟩, ⟨ag0, ag1⟩, ⟨mx0, mx1⟩, ⟨he0, he1⟩, ⟨de0, de1⟩⟩ := hp
  have hb1 := bi_rng p.b1
  have hb2 := bi_rng p.b2
  have hb3 := bi_rng p.b3
  have hb4 := bi_rng p.b4
  have hb5 := bi_rng p.b5
  have hb6 := bi_rng p.b6
  have hF0 : 0 ≤ flagsN p := by unfold flagsN numN; omega
  have hF1 : flagsN p < 256 := by unfold flagsN numN; omega
  obtain ⟨g0, g1, g2, g3, g4, g5, g6⟩ := fldN p.ro ro0 hr p.b1 p.b2 p.b3 p.b4 p.b5 p.b6
  have hN : numN p.ro p.b1 p.b2 p.b3 p.b4 p.b5 p.b6 = flagsN p := rfl
  rw [hN] at g0 g1 g2 g3 g4 g5 g6
  generalize flagsN p = F at *
  have n0 : numB (h ++ (bb F 1 ++ (bb p.rt 8 ++ (bb p.co 4 ++ (bb p.br 8 ++ (bb p.po 2 ++ (bb p.ag 2 ++ (bb p.mx 2 ++ (bb p.he 2 ++ (bb p.de 2 ++ Z)))))))))) 7 1 = F := by
    rw [numB_hi h _ 7 7 1 hh (by omega)]
    exact numB_bb _ _ 1 (by omega) (by omega)
  have n1 : numB (h ++ (bb F 1 ++ (bb p.rt 8 ++ (bb p.co 4 ++ (bb p.br 8 ++ (bb p.po 2 ++ (bb p.ag 2 ++ (bb p.mx 2 ++ (bb p.he 2 ++ (bb p.de 2 ++ Z)))))))))) 8 8 = p.rt := by
    rw [numB_hi h _ 7 8 8 hh (by omega), numB_hi (bb F 1) _ 1 _ 8 (bb_size _ _) (by omega)]
    exact numB_bb _ _ 8 (by omega) (by omega)
  have n2 : numB (h ++ (bb F 1 ++ (bb p.rt 8 ++ (bb p.co 4 ++ (bb p.br 8 ++ (bb p.po 2 ++ (bb p.ag 2 ++ (bb p.mx 2 ++ (bb p.he 2 ++ (bb p.de 2 ++ Z)))))))))) 16 4 = p.co := by
    rw [numB_hi h _ 7 16 4 hh (by omega), numB_hi (bb F 1) _ 1 _ 4 (bb_size _ _) (by omega), numB_hi (bb p.rt 8) _ 8 _ 4 (bb_size _ _) (by omega)]
    exact numB_bb _ _ 4 (by omega) (by omega)
  have n3 : numB (h ++ (bb F 1 ++ (bb p.rt 8 ++ (bb p.co 4 ++ (bb p.br 8 ++ (bb p.po 2 ++ (bb p.ag 2 ++ (bb p.mx 2 ++ (bb p.he 2 ++ (bb p.de 2 ++ Z)))))))))) 20 8 = p.br := by
    rw [numB_hi h _ 7 20 8 hh (by omega), numB_hi (bb F 1) _ 1 _ 8 (bb_size _ _) (by omega), numB_hi (bb p.rt 8) _ 8 _ 8 (bb_size _ _) (by omega), numB_hi (bb p.co 4) _ 4 _ 8 (bb_size _ _) (by omega)]
    exact numB_bb _ _ 8 (by omega) (by omega)
  have n4 : numB (h ++ (bb F 1 ++ (bb p.rt 8 ++ (bb p.co 4 ++ (bb p.br 8 ++ (bb p.po 2 ++ (bb p.ag 2 ++ (bb p.mx 2 ++ (bb p.he 2 ++ (bb p.de 2 ++ Z)))))))))) 28 2 = p.po := by
    rw [numB_hi h _ 7 28 2 hh (by omega), numB_hi (bb F 1) _ 1 _ 2 (bb_size _ _) (by omega), numB_hi (bb p.rt 8) _ 8 _ 2 (bb_size _ _) (by omega), numB_hi (bb p.co 4) _ 4 _ 2 (bb_size _ _) (by omega), numB_hi (bb p.br 8) _ 8 _ 2 (bb_size _ _) (by omega)]
    exact numB_bb _ _ 2 (by omega) (by omega)
  have n5 : numB (h ++ (bb F 1 ++ (bb p.rt 8 ++ (bb p.co 4 ++ (bb p.br 8 ++ (bb p.po 2 ++ (bb p.ag 2 ++ (bb p.mx 2 ++ (bb p.he 2 ++ (bb p.de 2 ++ Z)))))))))) 30 2 = p.ag := by
    rw [numB_hi h _ 7 30 2 hh (by omega), numB_hi (bb F 1) _ 1 _ 2 (bb_size _ _) (by omega), numB_hi (bb p.rt 8) _ 8 _ 2 (bb_size _ _) (by omega), numB_hi (bb p.co 4) _ 4 _ 2 (bb_size _ _) (by omega), numB_hi (bb p.br 8) _ 8 _ 2 (bb_size _ _) (by omega), numB_hi (bb p.po 2) _ 2 _ 2 (bb_size _ _) (by omega)]
    exact numB_bb _ _ 2 (by omega) (by omega)
  have n6 : numB (h ++ (bb F 1 ++ (bb p.rt 8 ++ (bb p.co 4 ++ (bb p.br 8 ++ (bb p.po 2 ++ (bb p.ag 2 ++ (bb p.mx 2 ++ (bb p.he 2 ++ (bb p.de 2 ++ Z)))))))))) 32 2 = p.mx := by
    rw [numB_hi h _ 7 32 2 hh (by omega), numB_hi (bb F 1) _ 1 _ 2 (bb_size _ _) (by omega), numB_hi (bb p.rt 8) _ 8 _ 2 (bb_size _ _) (by omega), numB_hi (bb p.co 4) _ 4 _ 2 (bb_size _ _) (by omega), numB_hi (bb p.br 8) _ 8 _ 2 (bb_size _ _) (by omega), numB_hi (bb p.po 2) _ 2 _ 2 (bb_size _ _) (by omega), numB_hi (bb p.ag 2) _ 2 _ 2 (bb_size _ _) (by omega)]
    exact numB_bb _ _ 2 (by omega) (by omega)
  have n7 : numB (h ++ (bb F 1 ++ (bb p.rt 8 ++ (bb p.co 4 ++ (bb p.br 8 ++ (bb p.po 2 ++ (bb p.ag 2 ++ (bb p.mx 2 ++ (bb p.he 2 ++ (bb p.de 2 ++ Z)))))))))) 34 2 = p.he := by
    rw [numB_hi h _ 7 34 2 hh (by omega), numB_hi (bb F 1) _ 1 _ 2 (bb_size _ _) (by omega), numB_hi (bb p.rt 8) _ 8 _ 2 (bb_size _ _) (by omega), numB_hi (bb p.co 4) _ 4 _ 2 (bb_size _ _) (by omega), numB_hi (bb p.br 8) _ 8 _ 2 (bb_size _ _) (by omega), numB_hi (bb p.po 2) _ 2 _ 2 (bb_size _ _) (by omega), numB_hi (bb p.ag 2) _ 2 _ 2 (bb_size _ _) (by omega), numB_hi (bb p.mx 2) _ 2 _ 2 (bb_size _ _) (by omega)]
    exact numB_bb _ _ 2 (by omega) (by omega)
  have n8 : numB (h ++ (bb F 1 ++ (bb p.rt 8 ++ (bb p.co 4 ++ (bb p.br 8 ++ (bb p.po 2 ++ (bb p.ag 2 ++ (bb p.mx 2 ++ (bb p.he 2 ++ (bb p.de 2 ++ Z)))))))))) 36 2 = p.de := by
    rw [numB_hi h _ 7 36 2 hh (by omega), numB_hi (bb F 1) _ 1 _ 2 (bb_size _ _) (by omega), numB_hi (bb p.rt 8) _ 8 _ 2 (bb_size _ _) (by omega), numB_hi (bb p.co 4) _ 4 _ 2 (bb_size _ _) (by omega), numB_hi (bb p.br 8) _ 8 _ 2 (bb_size _ _) (by omega), numB_hi (bb p.po 2) _ 2 _ 2 (bb_size _ _) (by omega), numB_hi (bb p.ag 2) _ 2 _ 2 (bb_size _ _) (by omega), numB_hi (bb p.mx 2) _ 2 _ 2 (bb_size _ _) (by omega), numB_hi (bb p.he 2) _ 2 _ 2 (bb_size _ _) (by omega)]
    exact numB_bb _ _ 2 (by omega) (by omega)
  have w0 : IntKind.u16.wrap p.po = p.po := wr_u16 (by omega) (by omega)
  have w1 : IntKind.u16.wrap p.ag = p.ag := wr_u16 (by omega) (by omega)
  have w2 : IntKind.u16.wrap p.mx = p.mx := wr_u16 (by omega) (by omega)
  have w3 : IntKind.u16.wrap p.he = p.he := wr_u16 (by omega) (by omega)
  have w4 : IntKind.u16.wrap p.de = p.de := wr_u16 (by omega) (by omega)
  have w5 : IntKind.u32.wrap p.co = p.co := wr_u32 (by omega) (by omega)
  simp only [fieldsP, zeroP, Nat.reduceAdd, n0, n1, n2, n3, n4, n5, n6, n7, n8, g0, g1, g2, g3, g4, g5, g6, w0, w1, w2, w3, w4, w5]
theorem round (p : PD) (hp : p.ok) (hg : goodB p = true) (m : ByteArray) : decS ((encS p).1 ++ m) = (p, 0) ∧ (encS p).2 = 0 ∧ (encS p).1.size ≤ 39 := by
  rcases good_k hg with hk | hk | hk
  · have e : encS p = (tailS p ⟨#[66, 66, 3, 0, 0, 0, 0]⟩, 0) := by simp [encS, hg, hk]
    have hr := good_ro hg hp.ro.1 (.inl hk)
    rw [e]
    refine ⟨?_, rfl, by simp only [ByteArray.size_append, tail_size, size_l, List.length_cons, List.length_nil]; omega⟩
    show decS (tailS p ⟨#[66, 66, 3, 0, 0, 0, 0]⟩ ++ m) = (p, 0)
    have hb := fields_back p hp hr ⟨#[66, 66, 3, 0, 0, 0, 0]⟩ m rfl
    rw [hk] at hb
    have hsz : (tailS p ⟨#[66, 66, 3, 0, 0, 0, 0]⟩ ++ m).size = 38 + m.size := by simp only [ByteArray.size_append, tail_size, size_l, List.length_cons, List.length_nil]
    have e5 : (tailS p ⟨#[66, 66, 3, 0, 0, 0, 0]⟩ ++ m).extract 0 5 = ⟨#[66, 66, 3, 0, 0]⟩ := by rw [tail_assoc]; exact ext5 _ _ _
    have b5 : byteAt (tailS p ⟨#[66, 66, 3, 0, 0, 0, 0]⟩ ++ m) 5 = 0 := by rw [tail_assoc, byteAt_lo _ _ 5 (by show 5 < 7; omega)]; rfl
    have b6 : byteAt (tailS p ⟨#[66, 66, 3, 0, 0, 0, 0]⟩ ++ m) 6 = 0 := by rw [tail_assoc, byteAt_lo _ _ 6 (by show 6 < 7; omega)]; rfl
    generalize tailS p ⟨#[66, 66, 3, 0, 0, 0, 0]⟩ ++ m = S at *
    have hs7 : ¬ S.size < 7 := by omega
    have hs38 : ¬ S.size < 38 := by omega
    simp [decS, hs7, hs38, e5, b5, b6, hb, hg, strEq_self]
  · have e : encS p = (tailS p ⟨#[66, 66, 3, 0, 0, 2, 2]⟩ ++ ⟨#[0]⟩, 0) := by simp [encS, hg, hk]
    have hr := good_ro hg hp.ro.1 (.inr hk)
    rw [e]
    refine ⟨?_, rfl, by simp only [ByteArray.size_append, tail_size, size_l, List.length_cons, List.length_nil]; omega⟩
    show decS (tailS p ⟨#[66, 66, 3, 0, 0, 2, 2]⟩ ++ ⟨#[0]⟩ ++ m) = (p, 0)
    have hb := fields_back p hp hr ⟨#[66, 66, 3, 0, 0, 2, 2]⟩ (⟨#[0]⟩ ++ m) rfl
    rw [hk] at hb
    rw [ByteArray.append_assoc]
    have hsz : (tailS p ⟨#[66, 66, 3, 0, 0, 2, 2]⟩ ++ (⟨#[0]⟩ ++ m)).size = 39 + m.size := by simp only [ByteArray.size_append, tail_size, size_l, List.length_cons, List.length_nil]; omega
    have e5 : (tailS p ⟨#[66, 66, 3, 0, 0, 2, 2]⟩ ++ (⟨#[0]⟩ ++ m)).extract 0 5 = ⟨#[66, 66, 3, 0, 0]⟩ := by rw [tail_assoc]; exact ext5 _ _ _
    have b5 : byteAt (tailS p ⟨#[66, 66, 3, 0, 0, 2, 2]⟩ ++ (⟨#[0]⟩ ++ m)) 5 = 2 := by rw [tail_assoc, byteAt_lo _ _ 5 (by show 5 < 7; omega)]; rfl
    have b6 : byteAt (tailS p ⟨#[66, 66, 3, 0, 0, 2, 2]⟩ ++ (⟨#[0]⟩ ++ m)) 6 = 2 := by rw [tail_assoc, byteAt_lo _ _ 6 (by show 6 < 7; omega)]; rfl
    have b38 : byteAt (tailS p ⟨#[66, 66, 3, 0, 0, 2, 2]⟩ ++ (⟨#[0]⟩ ++ m)) 38 = 0 := by rw [byteAt_hi _ _ 38 38 (by rw [tail_size]; rfl) (by omega), byteAt_lo _ _ _ (by show 0 < 1; omega)]; rfl
    generalize tailS p ⟨#[66, 66, 3, 0, 0, 2, 2]⟩ ++ (⟨#[0]⟩ ++ m) = S at *
    have hs7 : ¬ S.size < 7 := by omega
    have hs38 : ¬ S.size < 38 := by omega
    simp [decS, hs7, hs38, e5, b5, b6, hb, hg, strEq_self, b38]
    omega
  · have e : encS p = (⟨#[66, 66, 3, 0, 0, 0, 128]⟩, 0) := by simp [encS, hg, hk]
    rw [e]
    refine ⟨?_, rfl, by simp only [size_l, List.length_cons, List.length_nil]; omega⟩
    show decS ((⟨#[66, 66, 3, 0, 0, 0, 128]⟩ : ByteArray) ++ m) = (p, 0)
    have hz : p = zeroP 128 := by
      unfold goodB at hg
      rw [hk] at hg
      simp [zeroB] at hg
      cases p
      simp_all [zeroP]
    rw [hz]
    have hsz : ((⟨#[66, 66, 3, 0, 0, 0, 128]⟩ : ByteArray) ++ m).size = 7 + m.size := by simp only [ByteArray.size_append, size_l, List.length_cons, List.length_nil]
    have e5 := ext5 0 128 m
    have b5 : byteAt ((⟨#[66, 66, 3, 0, 0, 0, 128]⟩ : ByteArray) ++ m) 5 = 0 := by rw [byteAt_lo _ _ 5 (by show 5 < 7; omega)]; rfl
    have b6 : byteAt ((⟨#[66, 66, 3, 0, 0, 0, 128]⟩ : ByteArray) ++ m) 6 = 128 := by rw [byteAt_lo _ _ 6 (by show 6 < 7; omega)]; rfl
    generalize (⟨#[66, 66, 3, 0, 0, 0, 128]⟩ : ByteArray) ++ m = S at *
    have hs7 : ¬ S.size < 7 := by omega
    simp [decS, hs7, e5, b5, b6, strEq_self]
end Go.Ev
