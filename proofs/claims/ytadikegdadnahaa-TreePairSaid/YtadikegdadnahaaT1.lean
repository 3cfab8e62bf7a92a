/- A part of the proof: contracts of the functions that the statement reaches. -/
import Derived.Test.YtadikegdadnahaaR4
namespace Go.Ev
open Go.Proofs
set_option maxRecDepth 100000
set_option linter.unusedSimpArgs false
set_option linter.unusedVariables false
set_option maxHeartbeats 4000000
structure PE where
  (pv ac : Int) (fl : Bool) (cost prio : Int) (ed ad up pl ag : Bool) (ro st nf : Int) (v : V4) (age life wait ch : Int)
  deriving DecidableEq
structure CF where
  (id ma he de rm lv : Int)
  deriving DecidableEq
def encPE (p : PE) : List SV := [.raw (.int .u16 p.pv), .raw (.int .i64 p.ac), .raw (.bool p.fl), .raw (.int .u32 p.cost), .raw (.int .i64 p.prio), .raw (.bool p.ed), .raw (.bool p.ad), .raw (.bool p.up), .raw (.bool p.pl), .raw (.bool p.ag), .raw (.int .i64 p.ro), .raw (.int .i64 p.st), .raw (.int .i64 p.nf), .raw (.int .u64 p.v.r), .raw (.int .u32 p.v.c), .raw (.int .u64 p.v.b), .raw (.int .u16 p.v.p), .raw (.int .i64 p.age), .raw (.int .i64 p.life), .raw (.int .i64 p.wait), .raw (.int .i64 p.ch)]
def encCF (c : CF) : List SV := [.raw (.int .u64 c.id), .raw (.int .i64 c.ma), .raw (.int .i64 c.he), .raw (.int .i64 c.de), .raw (.int .i64 c.rm), .raw (.int .i64 c.lv)]
theorem pull_PE (σ : List Nat) (p : PE) : (encPE p).map (pullS σ) = encPE p := rfl
theorem push_PE (σ : List Nat) (p : PE) : (encPE p).map (pushS σ) = encPE p := rfl
def onP (p : PE) : Bool := if p.up then p.ad else false
def edgeP (p : PE) : Bool := if p.ed then p.pl else false
def idP (p : PE) (n : Int) : Int := IntKind.u16.wrap (IntKind.i64.wrap (shL IntKind.i64 p.prio 12 + n))
def forgetP (p : PE) : PE := { p with nf := 0, v := ⟨0, 0, 0, 0⟩, age := 0, life := 0 }
def openedP (w p : PE) : Bool := if p.st == 2 then !(w.st == 2) else false
def anewP (p : PE) (v : V4) : Bool := if p.nf == 2 then (if v.b == p.v.b then v.p == p.v.p else false) else false
def fadeP (p : PE) : PE × Bool := if p.nf == 2 then (if decide (0 < IntKind.i64.wrap (p.life - 1)) then ({ p with life := IntKind.i64.wrap (p.life - 1) }, false) else (forgetP p, true)) else (p, false)
def offP (p : PE) (up ad : Bool) : PE := { forgetP p with up := up, ad := ad, pl := false, ag := false, ro := 0, st := 0, wait := 0, ch := 0 }
def switchP (p : PE) (up ad : Bool) (c : CF) : PE :=
  if onP p && onP { p with up := up, ad := ad } then { p with up := up, ad := ad }
  else if onP { p with up := up, ad := ad } then { offP p up ad with pl := true, wait := c.de } else offP p up ad
def desA (p : PE) (was : Int) (t : V4) : Bool := !(was == 4) || (!(p.nf == 1) || !(decide (p.v = t)))
def des1 (p : PE) (was : Int) (t : V4) : PE := if desA p was t then { p with nf := 1, v := t, age := 0, life := 0, ag := false } else p
def des2 (p : PE) (was : Int) (c : CF) : PE := if was == 4 then p else { p with st := 0, wait := c.de }
def des3 (p : PE) : PE := if edgeP p then { p with st := 2, wait := 0 } else p
def desP (p : PE) (was : Int) (t : V4) (c : CF) : PE := des3 (des2 (des1 p was t) was c)
def asP (p : PE) (r : Int) (t : V4) (c : CF) : PE :=
  if r == 1 || r == 2 then { p with ro := r, st := 0, ag := false, wait := 0 }
  else if r == 3 then (if p.ro == 3 then { p with ro := r } else { p with ro := r, st := 2, ag := false, wait := 0 })
  else if r == 4 then desP { p with ro := r } p.ro t c else { p with ro := r }
def asA (p : PE) (r : Int) (t : V4) : Bool := if r == 4 then desA { p with ro := r } p.ro t else false
def asO (p : PE) (r : Int) (t : V4) (c : CF) : Bool := openedP p (asP p r t c)
def stepP (p : PE) (c : CF) : PE :=
  if !(p.ro == 4) || p.st == 2 then p
  else if decide (0 < IntKind.i64.wrap (p.wait - 1)) then { p with wait := IntKind.i64.wrap (p.wait - 1) }
  else if p.st == 1 then { p with st := 2, wait := 0 } else { p with st := 1, wait := c.de }
def stepO (p : PE) (c : CF) : Bool := if !(p.ro == 4) || p.st == 2 then false else openedP p (stepP p c)
def agreeP (p : PE) : PE := if p.ro == 4 then { p with ag := true, st := 2, wait := 0 } else p
def agreeO (p : PE) : Bool := if p.ro == 4 then !(p.st == 2) else false
def blockP (p : PE) (c : CF) : PE := if p.ro == 4 && (!(edgeP p) && (!p.ag && !(p.st == 0))) then { p with st := 0, wait := c.de } else p
def hearW (p : PE) (v : V4) (age : Int) (c : CF) : Int :=
  if !(onP p) || (decide (age < 0) || decide (c.ma ≤ age)) then 0
  else if !(p.nf == 0) && (!(anewP p v) && !(betV v p.v)) then 1
  else if p.nf == 2 && decide (p.v = v) then 2 else 3
def hearP (p : PE) (v : V4) (age : Int) (c : CF) : PE :=
  if hearW p v age c == 0 || hearW p v age c == 1 then p else { p with nf := 2, v := v, age := age, life := IntKind.i64.wrap (3 * c.he) }
theorem c_On (p : PE) : Fun Try.prog 14 [.a (encPE p)] (.s (.raw (.bool (onP p)))) := by
  refine fun_of rfl fun X => ?_
  refine callK_inline (rs := [.tmp 2]) (n := 9) Try.func14 rfl rfl rfl (by kernel_rfl) (by kernel_rfl) (by simp only [List.length_cons, List.length_nil]; decide) ?_
  repeat' first
    | with_reducible rfl
    | simp only [*, onP, encPE, RS_, FB_, mapC, pushC, segR, ST_, seval, ne_eq, bne, forall_const, implies_true, TY_, WLS]
    | with_reducible refine g_eq (fun h => ?_) (fun h => ?_)
    | with_reducible refine gdb_split (fun h => ?_) (fun h => ?_)
    | (with_reducible refine drawK_id ?_); refine drawK_auto hmix (by kernel_rfl) ?_
    | (with_reducible refine draw_fin ?_ ?_); · kernel_rfl
    | (with_reducible refine draw_id ?_); kernel_rfl
    | (with_reducible refine And.intro ?_ ?_; · omega)
theorem c_On' {p_0 p_1 p_3 p_4 p_10 p_11 p_12 p_13 p_14 p_15 p_16 p_17 p_18 p_19 p_20 : Int} {p_2 p_5 p_6 p_7 p_8 p_9 : Bool} : Fun Try.prog 14 [.a [.raw (.int .u16 p_0), .raw (.int .i64 p_1), .raw (.bool p_2), .raw (.int .u32 p_3), .raw (.int .i64 p_4), .raw (.bool p_5), .raw (.bool p_6), .raw (.bool p_7), .raw (.bool p_8), .raw (.bool p_9), .raw (.int .i64 p_10), .raw (.int .i64 p_11), .raw (.int .i64 p_12), .raw (.int .u64 p_13), .raw (.int .u32 p_14), .raw (.int .u64 p_15), .raw (.int .u16 p_16), .raw (.int .i64 p_17), .raw (.int .i64 p_18), .raw (.int .i64 p_19), .raw (.int .i64 p_20)]] (.s (.raw (.bool (onP ⟨p_0, p_1, p_2, p_3, p_4, p_5, p_6, p_7, p_8, p_9, p_10, p_11, p_12, ⟨p_13, p_14, p_15, p_16⟩, p_17, p_18, p_19, p_20⟩)))) := c_On ⟨p_0, p_1, p_2, p_3, p_4, p_5, p_6, p_7, p_8, p_9, p_10, p_11, p_12, ⟨p_13, p_14, p_15, p_16⟩, p_17, p_18, p_19, p_20⟩
theorem c_Edge (p : PE) : Fun Try.prog 59 [.a (encPE p)] (.s (.raw (.bool (edgeP p)))) := by
  refine fun_of rfl fun X => ?_
  refine callK_inline (rs := [.tmp 2]) (n := 9) Try.func59 rfl rfl rfl (by kernel_rfl) (by kernel_rfl) (by simp only [List.length_cons, List.length_nil]; decide) ?_
  repeat' first
    | with_reducible rfl
    | simp only [*, edgeP, encPE, RS_, FB_, mapC, pushC, segR, ST_, seval, ne_eq, bne, forall_const, implies_true, TY_, WLS]
    | with_reducible refine g_eq (fun h => ?_) (fun h => ?_)
    | with_reducible refine gdb_split (fun h => ?_) (fun h => ?_)
    | (with_reducible refine drawK_id ?_); refine drawK_auto hmix (by kernel_rfl) ?_
    | (with_reducible refine draw_fin ?_ ?_); · kernel_rfl
    | (with_reducible refine draw_id ?_); kernel_rfl
    | (with_reducible refine And.intro ?_ ?_; · omega)
theorem c_Edge' {p_0 p_1 p_3 p_4 p_10 p_11 p_12 p_13 p_14 p_15 p_16 p_17 p_18 p_19 p_20 : Int} {p_2 p_5 p_6 p_7 p_8 p_9 : Bool} : Fun Try.prog 59 [.a [.raw (.int .u16 p_0), .raw (.int .i64 p_1), .raw (.bool p_2), .raw (.int .u32 p_3), .raw (.int .i64 p_4), .raw (.bool p_5), .raw (.bool p_6), .raw (.bool p_7), .raw (.bool p_8), .raw (.bool p_9), .raw (.int .i64 p_10), .raw (.int .i64 p_11), .raw (.int .i64 p_12), .raw (.int .u64 p_13), .raw (.int .u32 p_14), .raw (.int .u64 p_15), .raw (.int .u16 p_16), .raw (.int .i64 p_17), .raw (.int .i64 p_18), .raw (.int .i64 p_19), .raw (.int .i64 p_20)]] (.s (.raw (.bool (edgeP ⟨p_0, p_1, p_2, p_3, p_4, p_5, p_6, p_7, p_8, p_9, p_10, p_11, p_12, ⟨p_13, p_14, p_15, p_16⟩, p_17, p_18, p_19, p_20⟩)))) := c_Edge ⟨p_0, p_1, p_2, p_3, p_4, p_5, p_6, p_7, p_8, p_9, p_10, p_11, p_12, ⟨p_13, p_14, p_15, p_16⟩, p_17, p_18, p_19, p_20⟩
theorem c_ID (p : PE) (n : Int) : Fun Try.prog 15 [.a (encPE p), .s (.raw (.int .i64 n))] (.s (.raw (.int .u16 (idP p n)))) := by
  refine fun_of rfl fun X => ?_
  refine callK_inline (rs := [.tmp 4]) (n := 11) Try.func15 rfl rfl rfl (by kernel_rfl) (by kernel_rfl) (by simp only [List.length_cons, List.length_nil]; decide) ?_
  repeat' first
    | with_reducible rfl
    | simp only [*, idP, encPE, RS_, FB_, mapC, pushC, segR, ST_, seval, ne_eq, bne, forall_const, implies_true, TY_, WLS]
    | with_reducible refine g_eq (fun h => ?_) (fun h => ?_)
    | with_reducible refine gdb_split (fun h => ?_) (fun h => ?_)
    | (with_reducible refine drawK_id ?_); refine drawK_auto hmix (by kernel_rfl) ?_
    | (with_reducible refine draw_fin ?_ ?_); · kernel_rfl
    | (with_reducible refine draw_id ?_); kernel_rfl
    | (with_reducible refine And.intro ?_ ?_; · omega)
theorem c_forget (p : PE) : Fun Try.prog 56 [.a (encPE p)] (.a (encPE (forgetP p))) := by
  refine fun_of rfl fun X => ?_
  refine callK_inline (rs := [.cell 2 67]) (n := 9) Try.func56 rfl rfl rfl (by kernel_rfl) (by kernel_rfl) (by simp only [List.length_cons, List.length_nil]; decide) ?_
  repeat' first
    | with_reducible rfl
    | simp only [*, forgetP, encPE, RS_, FB_, mapC, pushC, segR, ST_, seval, ne_eq, bne, forall_const, implies_true, TY_, WLS]
    | with_reducible refine g_eq (fun h => ?_) (fun h => ?_)
    | with_reducible refine gdb_split (fun h => ?_) (fun h => ?_)
    | (with_reducible refine drawK_id ?_); refine drawK_auto hmix (by kernel_rfl) ?_
    | (with_reducible refine draw_fin ?_ ?_); · kernel_rfl
    | (with_reducible refine draw_id ?_); kernel_rfl
    | (with_reducible refine And.intro ?_ ?_; · omega)
theorem c_forget' {p_0 p_1 p_3 p_4 p_10 p_11 p_12 p_13 p_14 p_15 p_16 p_17 p_18 p_19 p_20 : Int} {p_2 p_5 p_6 p_7 p_8 p_9 : Bool} : Fun Try.prog 56 [.a [.raw (.int .u16 p_0), .raw (.int .i64 p_1), .raw (.bool p_2), .raw (.int .u32 p_3), .raw (.int .i64 p_4), .raw (.bool p_5), .raw (.bool p_6), .raw (.bool p_7), .raw (.bool p_8), .raw (.bool p_9), .raw (.int .i64 p_10), .raw (.int .i64 p_11), .raw (.int .i64 p_12), .raw (.int .u64 p_13), .raw (.int .u32 p_14), .raw (.int .u64 p_15), .raw (.int .u16 p_16), .raw (.int .i64 p_17), .raw (.int .i64 p_18), .raw (.int .i64 p_19), .raw (.int .i64 p_20)]] (.a (encPE (forgetP ⟨p_0, p_1, p_2, p_3, p_4, p_5, p_6, p_7, p_8, p_9, p_10, p_11, p_12, ⟨p_13, p_14, p_15, p_16⟩, p_17, p_18, p_19, p_20⟩))) := c_forget ⟨p_0, p_1, p_2, p_3, p_4, p_5, p_6, p_7, p_8, p_9, p_10, p_11, p_12, ⟨p_13, p_14, p_15, p_16⟩, p_17, p_18, p_19, p_20⟩
theorem c_opened (w : PE) (p : PE) : Fun Try.prog 61 [.a (encPE w), .a (encPE p)] (.s (.raw (.bool (openedP w p)))) := by
  refine fun_of rfl fun X => ?_
  refine callK_inline (rs := [.tmp 4]) (n := 13) Try.func61 rfl rfl rfl (by kernel_rfl) (by kernel_rfl) (by simp only [List.length_cons, List.length_nil]; decide) ?_
  repeat' first
    | with_reducible rfl
    | simp only [*, openedP, encPE, RS_, FB_, mapC, pushC, segR, ST_, seval, ne_eq, bne, forall_const, implies_true, TY_, WLS]
    | with_reducible refine g_eq (fun h => ?_) (fun h => ?_)
    | with_reducible refine gdb_split (fun h => ?_) (fun h => ?_)
    | (with_reducible refine drawK_id ?_); refine drawK_auto hmix (by kernel_rfl) ?_
    | (with_reducible refine draw_fin ?_ ?_); · kernel_rfl
    | (with_reducible refine draw_id ?_); kernel_rfl
    | (with_reducible refine And.intro ?_ ?_; · omega)
theorem c_opened' {w_0 w_1 w_3 w_4 w_10 w_11 w_12 w_13 w_14 w_15 w_16 w_17 w_18 w_19 w_20 : Int} {w_2 w_5 w_6 w_7 w_8 w_9 : Bool} {p_0 p_1 p_3 p_4 p_10 p_11 p_12 p_13 p_14 p_15 p_16 p_17 p_18 p_19 p_20 : Int} {p_2 p_5 p_6 p_7 p_8 p_9 : Bool} : Fun Try.prog 61 [.a [.raw (.int .u16 w_0), .raw (.int .i64 w_1), .raw (.bool w_2), .raw (.int .u32 w_3), .raw (.int .i64 w_4), .raw (.bool w_5), .raw (.bool w_6), .raw (.bool w_7), .raw (.bool w_8), .raw (.bool w_9), .raw (.int .i64 w_10), .raw (.int .i64 w_11), .raw (.int .i64 w_12), .raw (.int .u64 w_13), .raw (.int .u32 w_14), .raw (.int .u64 w_15), .raw (.int .u16 w_16), .raw (.int .i64 w_17), .raw (.int .i64 w_18), .raw (.int .i64 w_19), .raw (.int .i64 w_20)], .a [.raw (.int .u16 p_0), .raw (.int .i64 p_1), .raw (.bool p_2), .raw (.int .u32 p_3), .raw (.int .i64 p_4), .raw (.bool p_5), .raw (.bool p_6), .raw (.bool p_7), .raw (.bool p_8), .raw (.bool p_9), .raw (.int .i64 p_10), .raw (.int .i64 p_11), .raw (.int .i64 p_12), .raw (.int .u64 p_13), .raw (.int .u32 p_14), .raw (.int .u64 p_15), .raw (.int .u16 p_16), .raw (.int .i64 p_17), .raw (.int .i64 p_18), .raw (.int .i64 p_19), .raw (.int .i64 p_20)]] (.s (.raw (.bool (openedP ⟨w_0, w_1, w_2, w_3, w_4, w_5, w_6, w_7, w_8, w_9, w_10, w_11, w_12, ⟨w_13, w_14, w_15, w_16⟩, w_17, w_18, w_19, w_20⟩ ⟨p_0, p_1, p_2, p_3, p_4, p_5, p_6, p_7, p_8, p_9, p_10, p_11, p_12, ⟨p_13, p_14, p_15, p_16⟩, p_17, p_18, p_19, p_20⟩)))) := c_opened ⟨w_0, w_1, w_2, w_3, w_4, w_5, w_6, w_7, w_8, w_9, w_10, w_11, w_12, ⟨w_13, w_14, w_15, w_16⟩, w_17, w_18, w_19, w_20⟩ ⟨p_0, p_1, p_2, p_3, p_4, p_5, p_6, p_7, p_8, p_9, p_10, p_11, p_12, ⟨p_13, p_14, p_15, p_16⟩, p_17, p_18, p_19, p_20⟩
theorem c_anew (p : PE) (v : V4) : Fun Try.prog 67 [.a (encPE p), .a (encV v)] (.s (.raw (.bool (anewP p v)))) := by
  refine fun_of rfl fun X => ?_
  refine callK_inline (rs := [.tmp 4]) (n := 24) Try.func67 rfl rfl rfl (by kernel_rfl) (by kernel_rfl) (by simp only [List.length_cons, List.length_nil]; decide) ?_
  repeat' first
    | with_reducible rfl
    | simp only [*, anewP, encPE, encV, RS_, FB_, mapC, pushC, segR, ST_, seval, ne_eq, bne, forall_const, implies_true, TY_, WLS]
    | with_reducible refine g_eq (fun h => ?_) (fun h => ?_)
    | with_reducible refine gdb_split (fun h => ?_) (fun h => ?_)
    | (with_reducible refine drawK_id ?_); refine drawK_auto hmix (by kernel_rfl) ?_
    | (with_reducible refine draw_fin ?_ ?_); · kernel_rfl
    | (with_reducible refine draw_id ?_); kernel_rfl
    | (with_reducible refine And.intro ?_ ?_; · omega)
theorem c_anew' {p_0 p_1 p_3 p_4 p_10 p_11 p_12 p_13 p_14 p_15 p_16 p_17 p_18 p_19 p_20 : Int} {p_2 p_5 p_6 p_7 p_8 p_9 : Bool} {v_0 v_1 v_2 v_3 : Int} : Fun Try.prog 67 [.a [.raw (.int .u16 p_0), .raw (.int .i64 p_1), .raw (.bool p_2), .raw (.int .u32 p_3), .raw (.int .i64 p_4), .raw (.bool p_5), .raw (.bool p_6), .raw (.bool p_7), .raw (.bool p_8), .raw (.bool p_9), .raw (.int .i64 p_10), .raw (.int .i64 p_11), .raw (.int .i64 p_12), .raw (.int .u64 p_13), .raw (.int .u32 p_14), .raw (.int .u64 p_15), .raw (.int .u16 p_16), .raw (.int .i64 p_17), .raw (.int .i64 p_18), .raw (.int .i64 p_19), .raw (.int .i64 p_20)], .a [.raw (.int .u64 v_0), .raw (.int .u32 v_1), .raw (.int .u64 v_2), .raw (.int .u16 v_3)]] (.s (.raw (.bool (anewP ⟨p_0, p_1, p_2, p_3, p_4, p_5, p_6, p_7, p_8, p_9, p_10, p_11, p_12, ⟨p_13, p_14, p_15, p_16⟩, p_17, p_18, p_19, p_20⟩ ⟨v_0, v_1, v_2, v_3⟩)))) := c_anew ⟨p_0, p_1, p_2, p_3, p_4, p_5, p_6, p_7, p_8, p_9, p_10, p_11, p_12, ⟨p_13, p_14, p_15, p_16⟩, p_17, p_18, p_19, p_20⟩ ⟨v_0, v_1, v_2, v_3⟩
theorem c_Fade (p : PE) : Fun Try.prog 32 [.a (encPE p)] (.t [.a (encPE (fadeP p).1), .s (.raw (.bool (fadeP p).2))]) := by
  refine fun_of rfl fun X => ?_
  refine callK_inline (rs := [.cell 2 67, .tmp 3]) (n := 18) Try.func32 rfl rfl rfl (by kernel_rfl) (by kernel_rfl) (by simp only [List.length_cons, List.length_nil]; decide) ?_
  repeat' first
    | with_reducible rfl
    | simp only [*, fadeP, forgetP, encPE, RS_, FB_, mapC, pushC, segR, ST_, seval, ne_eq, bne, forall_const, implies_true, TY_, WLS]
    | with_reducible refine g_eq (fun h => ?_) (fun h => ?_)
    | with_reducible refine gdb_split (fun h => ?_) (fun h => ?_)
    | (with_reducible refine drawK_id ?_); refine drawK_auto hmix (by kernel_rfl) ?_
    | (with_reducible refine draw_fin ?_ ?_); · kernel_rfl
    | (with_reducible refine draw_id ?_); kernel_rfl
    | (with_reducible refine callK_id (f := 56) ?_); refine callK_fun (c_forget') rfl rfl ?_
    | (with_reducible refine And.intro ?_ ?_; · omega)
end Go.Ev
