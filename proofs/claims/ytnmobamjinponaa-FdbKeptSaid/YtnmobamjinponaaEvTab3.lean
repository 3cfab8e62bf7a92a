/- Contracts that read chunks, look at what lies in the world from the start, and leave new chunks. -/
import Derived.Test.YtnmobamjinponaaEvTab2
namespace Go.Ev
open Go.RowKit
section
variable {P : Program} {X : Ctx} {ρ ρ' : Ren} {w : World} {l : Pl}
/-- A contract used in a bigger heap; what is new stands behind. -/
theorem callK_funW0 {f : FuncId} {args args' : List IV} {H Hr Hw : Heap} {Post : IV → Heap → Prop} {k : IV → Heap → Prop} (σr σw : List Nat) (he : enters P f = true) (h : ∀ (ρ : Ren) (w : World), Inv X ρ H w → callK P ⟨w, FW ρ H σw, 0⟩ f args' (fun r H' => ∃ Hn, H' = Hr ++ Hn ∧ Hw.length ≤ Hn.length ∧ Post r Hn) (Hr ++ Hw)) (hH : pullHW σr σw H = Hr ++ Hw) (hlr : Hr.length = σr.length) (hlw : Hw.length = σw.length)
    (hnd : (σr ++ σw).Nodup) (hin : ∀ c ∈ σr ++ σw, ∃ ch, H[c]? = some ch ∧ ch ≠ .gone) (ha : args.map (pullI (σr ++ σw)) = args')
    (hk : ∀ r Hn, Post r Hn → σw.length ≤ Hn.length → k (pushI (σr ++ σw ++ List.range' H.length (Hn.length - σw.length)) r) (upd H ((σw ++ List.range' H.length (Hn.length - σw.length)).zip (Hn.map (pushC (σr ++ σw ++ List.range' H.length (Hn.length - σw.length))))))) :
    callK P X f args k H := by
  refine ⟨he, fun ρ vs w hargs hi => ?_⟩
  have hp := hi.part hnd hin
  rw [hH] at hp
  have hra := relA_pull (σ := σr ++ σw) hi.obj1 hargs
  rw [ha] at hra
  refine ((h ρ w hi).2 _ vs w hra hp).mono ?_
  rintro e w' ⟨v, r', H2, ρ0, rfl, ⟨Hn, rfl, hln, hpost⟩, hrel, hle, hi2⟩
  rw [hlw] at hln
  have hwin : ∀ c ∈ σr ++ σw, c < H.length := fun c hc => let ⟨ch, h1, _⟩ := hin c hc; (List.getElem?_eq_some_iff.1 h1).1
  have hlen := hi.len
  -- room for the new ones
  have hroom := hi.room (Hn.length - σw.length)
  have hnd2 : (σr ++ σw ++ List.range' H.length (Hn.length - σw.length)).Nodup := by
    refine List.nodup_append.2 ⟨hnd, List.nodup_range' (step := 1), fun a ha b hb e => ?_⟩
    subst e
    have := hwin a ha
    rw [List.mem_range'] at hb
    obtain ⟨i, _, rfl⟩ := hb
    omega
  have hin2 : ∀ c ∈ σr ++ σw, ∃ ch, (H ++ List.replicate (Hn.length - σw.length) .gone)[c]? = some ch ∧ ch ≠ .gone := fun c hc => by
    rw [List.getElem?_append_left (hwin c hc)]; exact hin c hc
  have hτ : ∀ c ∈ List.range' H.length (Hn.length - σw.length), (H ++ List.replicate (Hn.length - σw.length) .gone)[c]? = some .gone ∧ (ρ ++ List.replicate (Hn.length - σw.length) .void)[c]? = some .void := fun c hc => by
    rw [List.mem_range'] at hc
    obtain ⟨i, hi', rfl⟩ := hc
    rw [Nat.one_mul]
    refine ⟨?_, ?_⟩
    · rw [List.getElem?_append_right (by omega), Nat.add_sub_cancel_left, List.getElem?_replicate, if_pos hi']
    · rw [List.getElem?_append_right (by omega), hlen, Nat.add_sub_cancel_left, List.getElem?_replicate, if_pos hi']
  have hle2 : Le (pullR (σr ++ σw) (ρ ++ List.replicate (Hn.length - σw.length) .void)) ρ0 := by
    have : pullR (σr ++ σw) (ρ ++ List.replicate (Hn.length - σw.length) .void) = pullR (σr ++ σw) ρ := by
      unfold pullR
      exact List.map_congr_left fun c hc => by rw [List.getElem?_append_left (by rw [hlen]; exact hwin c hc)]
    rw [this]; exact hle
  have hFW : FW (ρ ++ List.replicate (Hn.length - σw.length) .void) (H ++ List.replicate (Hn.length - σw.length) .gone) σw = FW ρ H σw := by
    funext b
    apply propext
    unfold FW
    constructor
    · rintro ⟨c, hc, ch, l, h1, h2, h3, h4⟩
      have hcl := hwin c (List.mem_append.2 (.inr hc))
      rw [List.getElem?_append_left hcl] at h1
      rw [List.getElem?_append_left (by omega)] at h3
      exact ⟨c, hc, ch, l, h1, h2, h3, h4⟩
    · rintro ⟨c, hc, ch, l, h1, h2, h3, h4⟩
      have hcl := hwin c (List.mem_append.2 (.inr hc))
      exact ⟨c, hc, ch, l, by rw [List.getElem?_append_left hcl]; exact h1, h2, by rw [List.getElem?_append_left (by omega)]; exact h3, h4⟩
  rw [← hFW] at hi2
  obtain ⟨ρ', a1, _, a3, a4⟩ := inv_back hroom hnd2 hin2 hτ hle2 hlr (by simp; omega) hi2
  refine ⟨v, _, _, ρ', rfl, hk r' Hn hpost hln, relI_push a3 hrel, (Le.app ρ _).trans a1, ?_⟩
  have hwin2 : ∀ c ∈ σw, c < H.length := fun c hc => hwin c (List.mem_append.2 (.inr hc))
  have split : ∀ (xs : List Chunk), xs.length = Hn.length → (σw ++ List.range' H.length (Hn.length - σw.length)).zip xs = σw.zip (xs.take σw.length) ++ (List.range' H.length (Hn.length - σw.length)).zip (xs.drop σw.length) := fun xs hxs => by
    conv => lhs; rw [← List.take_append_drop σw.length xs]
    rw [List.zip_append (by simp; omega)]
  have hxl := split (Hn.map (pushC (σr ++ σw ++ List.range' H.length (Hn.length - σw.length)))) (by simp)
  rw [hxl] at a4 ⊢
  rw [upd_append] at a4 ⊢
  rw [upd_in hwin2] at a4
  have hl2 := upd_in_len (xs := (Hn.map (pushC (σr ++ σw ++ List.range' H.length (Hn.length - σw.length)))).take σw.length) hwin2
  have := upd_room (q := Hn.length - σw.length) (xs := (Hn.map (pushC (σr ++ σw ++ List.range' H.length (Hn.length - σw.length)))).drop σw.length) (H := upd H (σw.zip ((Hn.map (pushC (σr ++ σw ++ List.range' H.length (Hn.length - σw.length)))).take σw.length))) (by simp)
  rw [hl2] at this
  rw [this] at a4
  exact a4

def FunWT (T : World → Prop) (P : Program) (f : FuncId) (Hr : Heap) (args : List IV) (Post : IV → Heap → Prop) : Prop :=
  enters P f = true ∧ ∀ X, KeepT T X → callK P X f args (fun r H' => ∃ Hn, H' = Hr ++ Hn ∧ ([] : Heap).length ≤ Hn.length ∧ Post r Hn) (Hr ++ [])
theorem keepW {T : World → Prop} (hS : StaysT T) {ρ : Ren} {H : Heap} {w : World} (h : T w) : KeepT T ⟨w, FW ρ H [], 0⟩ := fun _ _ w' hi =>
  hS w w' ⟨hi.os, hi.tape, hi.output, hi.size, fun k hk => hi.old k hk (fun ⟨_, hm, _⟩ => by cases hm)⟩ h
theorem callK_funWT {T : World → Prop} (hS : StaysT T) (hX : KeepT T X) {f : FuncId} {args args' : List IV} {H Hr : Heap} {Post : IV → Heap → Prop} {k : IV → Heap → Prop} (σr : List Nat) (h : FunWT T P f Hr args' Post) (hH : pullHW σr [] H = Hr ++ []) (hlr : Hr.length = σr.length)
    (hnd : (σr ++ []).Nodup) (hin : ∀ c ∈ σr ++ [], ∃ ch, H[c]? = some ch ∧ ch ≠ .gone) (ha : args.map (pullI (σr ++ [])) = args')
    (hk : ∀ r Hn, Post r Hn → ([] : List Nat).length ≤ Hn.length → k (pushI (σr ++ [] ++ List.range' H.length (Hn.length - ([] : List Nat).length)) r) (upd H (([] ++ List.range' H.length (Hn.length - ([] : List Nat).length)).zip (Hn.map (pushC (σr ++ [] ++ List.range' H.length (Hn.length - ([] : List Nat).length))))))) :
    callK P X f args k H :=
  callK_funW0 (Hw := []) σr [] h.1 (fun ρ w hi => h.2 _ (keepW hS (hX ρ H w hi))) hH hlr rfl hnd hin ha hk
theorem funWT_of {T : World → Prop} {f : FuncId} {Hr : Heap} {args : List IV} {Post : IV → Heap → Prop} (he : enters P f = true)
    (h : ∀ X, KeepT T X → callK P X f args (fun r H' => ∃ r1 Hn, WkR Hr.length r H' r1 (Hr ++ Hn) ∧ Post r1 Hn) (Hr ++ [])) : FunWT T P f Hr args Post := ⟨he, fun X hX => by
  have := h X hX
  refine callK_wk (callK_mono this fun r H' h => ?_)
  obtain ⟨r1, Hn, h1, h3⟩ := h
  exact ⟨r1, _, by rw [List.append_nil]; exact h1, Hn, rfl, Nat.zero_le _, h3⟩⟩
end
end Go.Ev
