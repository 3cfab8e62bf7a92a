/- The evaluator: a function's code, run on an ideal state, comes to a proposition; if that holds, the model does so. -/
import Derived.Test.YtnmobamjinponaaEvStr
namespace Go.Ev
open Go.RowKit

def stBuiltin (P : Program) (m : Nat) (b : Builtin) (ts : List TypeId) (xs : List IV) (H : Heap) : Res :=
  match b, ts, xs with
  | .len, [t], [x] => stLen P t x
  | .min, _, xs => stMin xs
  | .max, _, xs => stMax xs
  | .append, [t, t2], [x, y] => stAppend P m t t2 x y H
  | .copy, [t, _], [x, y] => stCopy P t x y H
  | _, _, _ => none

/-- One operation (m: the number that a new chunk gets). -/
def stepE (P : Program) (m : Nat) (o : Op) (tm : TM) (H : Heap) : Res :=
  match o with
  | .move x => some (True, rd tm x, [])
  | .assign x => some (True, rd tm x, [])
  | .alloc T => stAlloc P m T
  | .box _ x => stBox m (rd tm x)
  | .load T p => stLoad P T (rd tm p) H
  | .store T p x => stStore P T (rd tm p) (rd tm x) H
  | .nilCheck x => stNilCheck (rd tm x)
  | .binOp op T x y _ => stBin P op T (rd tm x) (rd tm y)
  | .unOp op _ x => stUn op (rd tm x)
  | .convert s d x => stConv2 P m s d (rd tm x) H
  | .slice T x lo hi mx => match mx with
    | none => stSlice P T (rd tm x) (lo.map (rd tm)) (hi.map (rd tm)) H
    | some _ => none
  | .sliceToArrayPointer A x => stArr P A (rd tm x)
  | .fieldAddr T p f => stField P T (rd tm p) f
  | .extract x i => stExtract (rd tm x) i
  | .field T x f => stFieldV P T (rd tm x) f
  | .index T x i => stIndex P T (rd tm x) (rd tm i)
  | .indexAddr T x i => stIndexAddr P T (rd tm x) (rd tm i) H
  | .build T ps => stBuild P T (ps.toList.map fun p => (p.1, rd tm p.2))
  | .buildSlice T n ps => stBuildSlice P m T n (ps.toList.map fun p => (p.1, rd tm p.2))
  | .makeSlice T x y => stMakeSlice P m T (rd tm x) (rd tm y)
  | .call c => match c.callee with
    | .builtin b => stBuiltin P m b c.argTypes.toList (c.args.toList.map (rd tm)) H
    | _ => none
  | _ => none

theorem relA_list0 {n : Nat} {ρ : Ren} {tm : TM} {a : Act} (ha : RelA n ρ tm a) : ∀ (l : List Operand), relA ρ (l.map (rd tm)) (l.map a.eval)
  | [] => trivial
  | o :: l => ⟨rd_rel ha o, relA_list0 ha l⟩

theorem step_sound {P : Program} {X : Ctx} {n : Nat} {ρ : Ren} {tm : TM} {a : Act} {H : Heap} {W : List (Nat × Chunk)} {m : Nat} {w : World} {o : Oper} {c : Prop} {v : IV}
    (ha : RelA n ρ tm a) (hi : Inv X ρ H w) (hm : PlaceOK ρ H m) (h : stepE P m o.op tm H = some (c, v, W)) (hc : c) : StepOK P X ρ (execOp a.eval o) w v H W := by
  obtain ⟨dst, op, ty, pos, af, g⟩ := o
  cases op with
  | move x => simp only [stepE, Option.some.injEq, Prod.mk.injEq] at h; obtain ⟨rfl, rfl, rfl⟩ := h; exact StepOK.pure hi (rd_rel ha x) rfl
  | assign x => simp only [stepE, Option.some.injEq, Prod.mk.injEq] at h; obtain ⟨rfl, rfl, rfl⟩ := h; exact StepOK.pure hi (rd_rel ha x) rfl
  | alloc T => exact stAlloc_sound hi hm h
  | box T x => exact stBox_sound hi (rd_rel ha x) hm h
  | load T p => exact stLoad_sound hi (rd_rel ha p) h
  | store T p x => exact stStore_sound hi (rd_rel ha p) (rd_rel ha x) h
  | nilCheck x => exact stNilCheck_sound rfl hi (rd_rel ha x) h
  | binOp op T x y yt => exact stBin_sound hi (rd_rel ha x) (rd_rel ha y) h hc
  | unOp op T x => exact stUn_sound hi (rd_rel ha x) h
  | convert s d x => exact stConv2_sound hi hm (rd_rel ha x) h
  | slice T x lo hi' mx =>
    cases mx with
    | none =>
      have ho : ∀ o : Option Operand, relO ρ (o.map (rd tm)) (o.map a.eval) := fun o => by
        cases o with
        | none => trivial
        | some o => exact rd_rel ha o
      exact stSlice_sound hi (rd_rel ha x) (ho lo) (ho hi') h hc
    | some _ => cases h
  | sliceToArrayPointer A x => exact stArr_sound hi (rd_rel ha x) h hc
  | fieldAddr T p f => exact stField_sound hi (rd_rel ha p) h
  | extract x i => exact stExtract_sound hi (rd_rel ha x) h
  | field T x f => exact stFieldV_sound hi (rd_rel ha x) h
  | index T x i => exact stIndex_sound hi (rd_rel ha x) (rd_rel ha i) h hc
  | indexAddr T x i => exact stIndexAddr_sound hi (rd_rel ha x) (rd_rel ha i) h hc
  | build T ps =>
    have := stBuild_sound (P := P) (w := w) hi (relP_list ha ps.toList) h
    have e : (List.map (fun p : Nat × Operand => (p.1, a.eval p.2)) ps.toList).toArray = ps.map fun p => (p.1, a.eval p.2) := by apply Array.ext'; simp only [Array.toList_map]
    rw [e] at this; exact this
  | buildSlice T n ps =>
    have := stBuildSlice_sound (P := P) (w := w) hi (relP_list ha ps.toList) hm h
    have e : (List.map (fun p : Nat × Operand => (p.1, a.eval p.2)) ps.toList).toArray = ps.map fun p => (p.1, a.eval p.2) := by apply Array.ext'; simp only [Array.toList_map]
    rw [e] at this; exact this
  | makeSlice T x y => exact stMakeSlice_sound hi (rd_rel ha x) (rd_rel ha y) hm h hc
  | call cl =>
    simp only [stepE] at h
    split at h
    · rename_i b hb
      have hargs := relA_list0 ha cl.args.toList
      have hb2 : (execOp a.eval ⟨dst, .call cl, ty, pos, af, g⟩) = builtin b cl.argTypes ty (cl.args.map fun | .const _ => true | _ => false) (cl.args.map a.eval) := by
        simp only [execOp, resolve, hb]; rfl
      rw [hb2]
      have e : (List.map a.eval cl.args.toList).toArray = cl.args.map a.eval := by apply Array.ext'; simp only [Array.toList_map]
      unfold stBuiltin at h
      split at h
      · rename_i t x ht hx
        have hx1 : cl.argTypes = #[t] := Array.ext' ht
        have hx2 : ∃ o, cl.args = #[o] ∧ rd tm o = x := by
          match hl : cl.args.toList, hx with
          | [o], hx => simp at hx; exact ⟨o, Array.ext' hl, hx⟩
        obtain ⟨o, ho, rfl⟩ := hx2
        have := stLen_sound (P := P) (w := w) (T := ty) hi (rd_rel ha o) h
        rw [hx1, ho]
        simpa [builtin] using this
      · rename_i xs hx
        have := stMin_sound (P := P) (w := w) (T := ty) (ts := cl.argTypes) hi (vs := cl.args.toList.map a.eval) hargs h
        rw [e] at this
        simpa [builtin] using this
      · rename_i xs hx
        have := stMax_sound (P := P) (w := w) (T := ty) (ts := cl.argTypes) hi (vs := cl.args.toList.map a.eval) hargs h
        rw [e] at this
        simpa [builtin] using this
      · rename_i t t2 x y ht hx
        have hx1 : cl.argTypes = #[t, t2] := Array.ext' ht
        have hx2 : ∃ o o2, cl.args = #[o, o2] ∧ rd tm o = x ∧ rd tm o2 = y := by
          match hl : cl.args.toList, hx with
          | [o, o2], hx => simp at hx; exact ⟨o, o2, Array.ext' hl, hx.1, hx.2⟩
        obtain ⟨o, o2, ho, rfl, rfl⟩ := hx2
        have := stAppend_sound (P := P) (w := w) (ty := ty) hi (rd_rel ha o) (rd_rel ha o2) hm h hc
        rw [hx1, ho]
        simpa [builtin] using this
      · rename_i t t2 x y ht hx
        have hx1 : cl.argTypes = #[t, t2] := Array.ext' ht
        have hx2 : ∃ o o2, cl.args = #[o, o2] ∧ rd tm o = x ∧ rd tm o2 = y := by
          match hl : cl.args.toList, hx with
          | [o, o2], hx => simp at hx; exact ⟨o, o2, Array.ext' hl, hx.1, hx.2⟩
        obtain ⟨o, o2, ho, rfl, rfl⟩ := hx2
        have := stCopy_sound (P := P) (w := w) (T2 := t2) (ty := ty) hi (rd_rel ha o) (rd_rel ha o2) h
        rw [hx1, ho]
        simpa [builtin] using this
      · cases h
    · cases h
  | _ => cases h

def enters (P : Program) (f : FuncId) : Bool :=
  match P.funcs[f]? with
  | some fn => fn.body.isSome && !(fn.name == "runtime.NumGoroutine")
  | none => false

/-- A call of a function with a body: from whatever world, it comes back with a result that k takes. -/
def callK (P : Program) (X : Ctx) (f : FuncId) (args : List IV) (k : IV → Heap → Prop) (H : Heap) : Prop :=
  enters P f = true ∧ ∀ ρ vs w, relA ρ args vs → Inv X ρ H w →
    Calls P f vs.toArray w fun e w' => ∃ v r H' ρ', e = .returned v ∧ k r H' ∧ relI ρ' r v ∧ Le ρ ρ' ∧ Inv X ρ' H' w'

def stepK (r : Res) (k : TM → Heap → Prop) (tm : TM) (d : Option Nat) (H : Heap) : Prop :=
  match r with
  | some (c, v, W) => c ∧ k (put tm d v) (upd H W)
  | none => False

def retK (k : TM → Heap → Prop) (tm : TM) (d : Option Nat) (r : IV) (H : Heap) : Prop := k (put tm d r) H

def guardB (all : Array Oper) (tm : TM) : Option (Nat × Bool) → Option Bool
  | none => some true
  | some (j, want) => match (all[j]?).bind (·.dst) with
    | some d => match get tm d with
      | .s (.raw (.bool b)) => some (if want then b else !b)
      | .t [] => some false
      | _ => none
    | none => none

def gdb (b : Bool) (A B : TM → Heap → Prop) (tm : TM) (H : Heap) : Prop := (b = true → A tm H) ∧ (b = false → B tm H)
theorem gdb_true {A B : TM → Heap → Prop} {tm : TM} {H : Heap} : gdb true A B tm H = A tm H := by simp [gdb]
theorem gdb_false {A B : TM → Heap → Prop} {tm : TM} {H : Heap} : gdb false A B tm H = B tm H := by simp [gdb]
theorem gdb_split {b : Bool} {A B : TM → Heap → Prop} {tm : TM} {H : Heap} (h1 : b = true → A tm H) (h2 : b = false → B tm H) : gdb b A B tm H := ⟨h1, h2⟩

def gd (b : Option Bool) (A B : TM → Heap → Prop) (tm : TM) (H : Heap) : Prop :=
  match b with
  | some b => gdb b A B tm H
  | none => False

def boolOf : IV → Option Bool
  | .s (.raw (.bool b)) => some b
  | _ => none

def putK (k : TM → Heap → Prop) (d : Option Nat) (x : Operand) (tm : TM) (H : Heap) : Prop := k (put tm d (rd tm x)) H
/-- What an operation that was not wanted leaves: nothing. -/
def junkK (k : TM → Heap → Prop) (d : Option Nat) (tm : TM) (H : Heap) : Prop := k (put tm d (.t [])) H
theorem rel_undef (ρ : Ren) : relI ρ (.t []) undef := ⟨[], rfl, trivial⟩

/-- Whatever other operation: what the model makes of it, k takes. -/
def genK (P : Program) (X : Ctx) (o : Oper) (k : TM → Heap → Prop) (tm : TM) (H : Heap) : Prop :=
  ∀ (n : Nat) (ρ : Ren) (a : Act) (w : World), RelA n ρ tm a → Inv X ρ H w → ∃ (x : Value) (w' : World) (v : IV) (H' : Heap) (ρ' : Ren),
    ((execOp a.eval o).run P w = .ok (.value x) w' ∨ (execOp a.eval o).run P w = .ok .skip w' ∧ x = undef) ∧ relI ρ' v x ∧ Le ρ ρ' ∧ Inv X ρ' H' w' ∧ k (put tm o.dst v) H'

/-- A step of the evaluator's own; where it has none, whatever the model makes of it. -/
def stepG (r : Res) (g : Prop) (k : TM → Heap → Prop) (tm : TM) (d : Option Nat) (H : Heap) : Prop :=
  match r with
  | some (c, v, W) => c ∧ k (put tm d v) (upd H W)
  | none => g

/-- A function value is called. -/
def cloK (P : Program) (X : Ctx) (x : IV) (args : List IV) (k : IV → Heap → Prop) (H : Heap) : Prop :=
  match x with
  | .s (.raw (.func (.func f) fs cs)) => if fs.size = 0 ∧ cs.size = 0 then callK P X f args k H else False
  | .s (.ref c) => match H[c]? with
    | some (.clo (.func f) first cap) => callK P X f (first ++ (args ++ cap)) k H
    | _ => False
  | _ => False

def evOp (P : Program) (X : Ctx) (o : Oper) (k : TM → Heap → Prop) (tm : TM) (H : Heap) : Prop :=
  match o.op with
  | .call c => match c.callee with
    | .value (.func f) => callK P X f (c.args.toList.map (rd tm)) (retK k tm o.dst) H
    | .value (.tmp t) => cloK P X (get tm t) (c.args.toList.map (rd tm)) (retK k tm o.dst) H
    | .builtin _ => stepG (stepE P H.length o.op tm H) (genK P X o k tm H) k tm o.dst H
    | _ => stepK (stepE P H.length o.op tm H) k tm o.dst H
  | .pick c x y => gd (boolOf (rd tm c)) (putK k o.dst x) (putK k o.dst y) tm H
  | .range _ _ => genK P X o k tm H
  | .next _ _ => genK P X o k tm H
  | .entry _ => genK P X o k tm H
  | .makeMap _ _ => genK P X o k tm H
  | .lookup _ _ _ _ => genK P X o k tm H
  | .mapUpdate _ _ _ _ => genK P X o k tm H
  | .insert _ _ _ _ => genK P X o k tm H
  | .makeFunc _ _ _ => genK P X o k tm H
  | .makeInterface _ _ => genK P X o k tm H
  | .typeAssert _ _ _ _ => genK P X o k tm H
  | op => stepK (stepE P H.length op tm H) k tm o.dst H

def evOps (P : Program) (X : Ctx) (all : Array Oper) : List Oper → (TM → Heap → Prop) → TM → Heap → Prop
  | [], K, tm, H => K tm H
  | o :: os, K, tm, H => gd (guardB all tm o.guard) (evOp P X o (evOps P X all os K)) (junkK (evOps P X all os K) o.dst) tm H

/-- A region that draws its order: to be shown in whatever order. -/
def drawK (P : Program) (n : Nat) (X : Ctx) (id : Nat) (ops : Array Oper) (K : TM → Heap → Prop) (tm : TM) (H : Heap) : Prop :=
  IW P n X (.region id ops true) (seqQ K fun _ _ _ => False) tm H

/-- A loop: to be shown by a relation. -/
def loopK (P : Program) (n : Nat) (X : Ctx) (c : Code) (Q : Exit → TM → Heap → Prop) (tm : TM) (H : Heap) : Prop := IW P n X (.loop c) Q tm H
def otherK (P : Program) (n : Nat) (X : Ctx) (c : Code) (Q : Exit → TM → Heap → Prop) (tm : TM) (H : Heap) : Prop := IW P n X c Q tm H

def ev (P : Program) (n : Nat) (X : Ctx) : Code → (Exit → TM → Heap → Prop) → TM → Heap → Prop
  | .skip, Q, tm, H => Q .normal tm H
  | .region id ops d, Q, tm, H => match d with
    | false => evOps P X ops ops.toList (Q .normal) tm H
    | true => drawK P n X id ops (Q .normal) tm H
  | .seq a b, Q, tm, H => ev P n X a (seqQ (ev P n X b Q) Q) tm H
  | .cond c a b, Q, tm, H => gd (boolOf (rd tm c)) (ev P n X a Q) (ev P n X b Q) tm H
  | .block id c, Q, tm, H => ev P n X c (blockQ id Q) tm H
  | .exit id, Q, tm, H => Q (.exit id) tm H
  | .ret, Q, tm, H => Q .ret tm H
  | .label _, Q, tm, H => Q .normal tm H
  | .loop c, Q, tm, H => loopK P n X c Q tm H
  | c, Q, tm, H => otherK P n X c Q tm H

def operOk (n : Nat) (o : Oper) : Bool := match o.dst with | some d => decide (d < n) | none => true
def codeOk (n : Nat) : Code → Bool
  | .region _ ops _ => ops.toList.all (operOk n)
  | .seq a b => codeOk n a && codeOk n b
  | .cond _ a b => codeOk n a && codeOk n b
  | .block _ c => codeOk n c
  | .loop c => codeOk n c
  | _ => true

section
variable {P : Program} {n : Nat} {X : Ctx} {all : Array Oper}

theorem operOk_dst {o : Oper} (h : operOk n o = true) : ∀ x, o.dst = some x → x < n := by
  intro x hx
  unfold operOk at h
  rw [hx] at h
  simpa using h

theorem relI_bool {ρ : Ren} {x : IV} {v : Value} {b : Bool} (h : relI ρ x v) (hb : boolOf x = some b) : v = .bool b := by
  unfold boolOf at hb
  split at hb
  · cases hb; exact h.1
  · cases hb

theorem guard_wanted {ρ : Ren} {tm : TM} {a : Act} {o : Oper} {b : Bool} (ha : RelA n ρ tm a) (hall : ∀ (j : Nat) (q : Oper), all[j]? = some q → operOk n q = true) (h : guardB all tm o.guard = some b) :
    Region.wanted o (yielded all a.tmps) = b := by
  unfold Region.wanted
  unfold guardB at h
  split at h
  · rename_i hg; rw [hg]; cases h; rfl
  · rename_i j want hg
    rw [hg]
    split at h
    · rename_i d hd
      split at h
      · rename_i b' hb
        cases h
        have hr := ha.rel d
        rw [hb] at hr
        have hlt : d < n := by
          cases hj : all[j]? with
          | none => rw [hj] at hd; cases hd
          | some q => rw [hj] at hd; exact operOk_dst (hall j q hj) d hd
        have e : a.tmps[d]? = some (.bool b') := by
          have := hr.1
          rw [Array.getD_eq_getD_getElem?] at this
          have hs : d < a.tmps.size := by rw [ha.size]; exact hlt
          simp only [Array.getElem?_eq_getElem hs, Option.getD_some] at this ⊢
          rw [this]
        have : yielded all a.tmps j = some b' := by
          unfold yielded
          rw [hd]
          simp [e]
        simp only [this]
        cases want <;> cases b' <;> rfl
      · rename_i hb
        cases h
        have hr := ha.rel d
        rw [hb] at hr
        obtain ⟨vs, hv, hvs⟩ := hr
        have hnil : vs = [] := by
          cases vs with
          | nil => rfl
          | cons _ _ => exact hvs.elim
        subst hnil
        have : yielded all a.tmps j = none := by
          unfold yielded
          rw [hd]
          simp only [Option.bind_some]
          rw [Array.getD_eq_getD_getElem?] at hv
          cases ht : a.tmps[d]? with
          | none => rfl
          | some v =>
            rw [ht] at hv
            simp only [Option.getD_some] at hv
            rw [hv]
        simp only [this]
        rfl
      · cases h
    · cases h

theorem relA_list {ρ : Ren} {tm : TM} {a : Act} (ha : RelA n ρ tm a) : ∀ (l : List Operand), relA ρ (l.map (rd tm)) (l.map a.eval)
  | [] => trivial
  | o :: l => ⟨rd_rel ha o, relA_list ha l⟩

theorem relA_of_relT {ρ : Ren} : ∀ {l : List IV} {vs : List Value}, relT ρ l vs → relA ρ l vs
  | [], [], _ => trivial
  | x :: l, v :: vs, h => ⟨by cases x with
      | t _ => exact h.1.elim
      | s _ => exact h.1
      | a _ => exact h.1
      | j => trivial, relA_of_relT h.2⟩
  | [], _ :: _, h => h.elim
  | _ :: _, [], h => h.elim
theorem relA_append {ρ : Ren} : ∀ {l l' : List IV} {vs vs' : List Value}, relA ρ l vs → relA ρ l' vs' → relA ρ (l ++ l') (vs ++ vs')
  | [], _, [], _, _, h' => h'
  | _ :: _, _, _ :: _, _, h, h' => ⟨h.1, relA_append h.2 h'⟩
  | [], _, _ :: _, _, h, _ => h.elim
  | _ :: _, _, [], _, h, _ => h.elim
theorem enter_run {f : FuncId} (hent : enters P f = true) (vs : Array Value) (w : World) : (callFunc f vs).run P w = .ok (.enter f vs) w := by
  unfold enters at hent
  split at hent
  · rename_i fn hfn
    simp only [Bool.and_eq_true, Bool.not_eq_true', Option.isSome_iff_exists] at hent
    obtain ⟨⟨body, hbody⟩, hname⟩ := hent
    have hn : ¬ fn.name = "runtime.NumGoroutine" := by simpa using hname
    simp [callFunc, hfn, hn, hbody]
  · cases hent
theorem cloK_spec {ρ : Ren} {tm : TM} {a : Act} {H : Heap} {w : World} {tc : Nat} {args : List IV} {as : List Value} {k : IV → Heap → Prop} (ha : RelA n ρ tm a) (hi : Inv X ρ H w) (h : cloK P X (get tm tc) args k H) (hargs : relA ρ args as) :
    ∃ f fst cap, a.eval (.tmp tc) = .func (.func f) fst cap ∧ enters P f = true ∧
      Calls P f (fst ++ as.toArray ++ cap) w fun e w' => ∃ v r H' ρ', e = .returned v ∧ k r H' ∧ relI ρ' r v ∧ Le ρ ρ' ∧ Inv X ρ' H' w' := by
  have hr := rd_rel ha (.tmp tc)
  unfold cloK at h
  simp only [rd] at hr
  split at h
  · rename_i f fs cs hc
    split at h
    · rename_i hz
      rw [hc] at hr
      have hv : a.eval (.tmp tc) = .func (.func f) fs cs := hr.1
      refine ⟨f, _, _, hv, h.1, ?_⟩
      have := h.2 ρ _ w hargs hi
      rw [Array.eq_empty_of_size_eq_zero hz.1, Array.eq_empty_of_size_eq_zero hz.2]
      simpa using this
    · exact h.elim
  · rename_i c hc
    split at h
    · rename_i f first cap hcl
      rw [hc] at hr
      obtain ⟨l, hl, f', c', rfl, hf, hcap⟩ := hi.sat c _ hcl
      have hv : a.eval (.tmp tc) = .func (.func f) f'.toArray c'.toArray := by
        rcases hr with ⟨b', h⟩ | ⟨h, _⟩
        · rw [hl] at h; cases h
        · rw [hl, Option.some.injEq, Pl.val.injEq] at h; exact h.symm
      refine ⟨f, _, _, hv, h.1, ?_⟩
      have := h.2 ρ _ w (relA_append (relA_of_relT hf) (relA_append hargs (relA_of_relT hcap))) hi
      have e : f'.toArray ++ as.toArray ++ c'.toArray = (f' ++ (as ++ c')).toArray := by simp
      rw [e]
      exact this
    · exact h.elim
  · exact h.elim
theorem clo_run {a : Act} {o : Oper} {c : Call} {tc : Nat} {f : FuncId} {fst cap : Array Value} {w : World} (hop : o.op = .call c) (hcal : c.callee = .value (.tmp tc)) (hv : a.eval (.tmp tc) = .func (.func f) fst cap) (hent : enters P f = true) :
    (execOp a.eval o).run P w = .ok (.enter f (fst ++ c.args.map a.eval ++ cap)) w := by
  have := enter_run hent (fst ++ c.args.map a.eval ++ cap) w
  rw [Array.append_assoc] at this ⊢
  simpa [execOp, hop, resolve, hcal, hv, Deferred.ofValue, invoke] using this

theorem evOps_sound {ρ : Ren} {Q : Exit → TM → Heap → Prop} (hall : ∀ (j : Nat) (q : Oper), all[j]? = some q → operOk n q = true) : ∀ (os : List Oper) (i : Nat), (∀ j, all[i + j]? = os[j]?) → ∀ (K : TM → Heap → Prop) (ρ' : Ren) (tm : TM) (H : Heap) (a : Act) (w : World),
    (∀ tm H, K tm H → Q .normal tm H) → Le ρ ρ' → RelA n ρ' tm a → Inv X ρ' H w → evOps P X all os K tm H → wpOps P all (LQ n X ρ Q) (List.range' i os.length) a w
  | [], i, _, K, ρ', tm, H, a, w, hK, hp, ha, hi, h => ⟨ρ', tm, H, hK _ _ h, hp.toN _, ha, hi⟩
  | o :: os, i, hget, K, ρ', tm, H, a, w, hK, hp, ha, hi, h => by
    have ho : all[i]? = some o := by simpa using hget 0
    have hdst := operOk_dst (hall i o ho)
    have next : ∀ (ρ2 : Ren) (tm2 : TM) (H2 : Heap) (a2 : Act) (w2 : World), Le ρ ρ2 → RelA n ρ2 tm2 a2 → Inv X ρ2 H2 w2 → evOps P X all os K tm2 H2 → wpOps P all (LQ n X ρ Q) (List.range' (i + 1) os.length) a2 w2 :=
      fun ρ2 tm2 H2 a2 w2 hp2 ha2 hi2 h2 => evOps_sound hall os (i + 1) (fun j => by rw [show i + 1 + j = i + (j + 1) by omega, hget (j + 1)]; simp) K ρ2 tm2 H2 a2 w2 hK hp2 ha2 hi2 h2
    rw [List.length_cons, List.range'_succ]
    simp only [wpOps, ho]
    simp only [evOps, gd] at h
    split at h
    · rename_i b hg
      rw [guard_wanted ha hall hg]
      cases b with
      | false =>
        rw [gdb_false] at h
        simp only [Bool.false_eq_true, if_false]
        exact next ρ' _ _ _ _ hp (ha.put (Le.refl _) hdst (v := .t []) (rel_undef _)) hi h
      | true =>
        rw [gdb_true] at h
        simp only [if_true]
        left
        unfold Oper.wp
        unfold evOp at h
        split at h
        · rename_i c hop
          split at h
          · rename_i f hcal
            obtain ⟨hent, hcall⟩ := h
            have hargs := relA_list ha c.args.toList
            have hc := hcall ρ' _ w hargs hi
            have hex : (execOp a.eval o).run P w = .ok (.enter f (c.args.map a.eval)) w := by
              unfold enters at hent
              split at hent
              · rename_i fn hfn
                simp only [Bool.and_eq_true, Bool.not_eq_true', Option.isSome_iff_exists] at hent
                obtain ⟨⟨body, hbody⟩, hname⟩ := hent
                have hn : ¬ fn.name = "runtime.NumGoroutine" := by simpa using hname
                simp [execOp, hop, resolve, hcal, Act.eval, Deferred.ofValue, invoke, callFunc, hfn, hn, hbody]
              · cases hent
            rw [hex, Oper.upon_enter]
            have e : (List.map a.eval c.args.toList).toArray = c.args.map a.eval := by apply Array.ext'; simp only [Array.toList_map]
            rw [e] at hc
            refine hc.mono ?_
            rintro _ w' ⟨v, r, H', ρ2, rfl, hk, hr, hpre, hinv⟩
            exact next ρ2 _ _ _ _ (hp.trans hpre) (ha.put hpre hdst hr) hinv hk
          · rename_i tc hcal
            obtain ⟨f, fst, cap, hv, hent, hc⟩ := cloK_spec ha hi h (relA_list ha c.args.toList)
            rw [clo_run hop hcal hv hent, Oper.upon_enter]
            have e : (List.map a.eval c.args.toList).toArray = c.args.map a.eval := by apply Array.ext'; simp only [Array.toList_map]
            rw [e] at hc
            refine hc.mono ?_
            rintro _ w' ⟨v, r, H', ρ2, rfl, hk, hr, hpre, hinv⟩
            exact next ρ2 _ _ _ _ (hp.trans hpre) (ha.put hpre hdst hr) hinv hk
          · unfold stepG at h
            split at h
            · rename_i cc v W hst
              obtain ⟨hc, hk⟩ := h
              obtain ⟨ρ2, x, w', hpre, _, hr, hinv, hrun⟩ := step_sound ha hi (.inl rfl) hst hc
              rcases hrun with hrun | ⟨hrun, rfl⟩
              · rw [hrun, Oper.upon_value]
                exact next ρ2 _ _ _ _ (hp.trans hpre) (ha.put hpre hdst hr) hinv hk
              · rw [hrun, Oper.upon_skip]
                exact next ρ2 _ _ _ _ (hp.trans hpre) (ha.put hpre hdst hr) hinv hk
            · obtain ⟨x, w', v, H', ρ2, hrun, hr, hpre, hinv, hk⟩ := h n ρ' a w ha hi
              rcases hrun with hrun | ⟨hrun, rfl⟩
              · rw [hrun, Oper.upon_value]
                exact next ρ2 _ _ _ _ (hp.trans hpre) (ha.put hpre hdst hr) hinv hk
              · rw [hrun, Oper.upon_skip]
                exact next ρ2 _ _ _ _ (hp.trans hpre) (ha.put hpre hdst hr) hinv hk
          · unfold stepK at h
            split at h
            · rename_i cc v W hst
              obtain ⟨hc, hk⟩ := h
              obtain ⟨ρ2, x, w', hpre, _, hr, hinv, hrun⟩ := step_sound ha hi (.inl rfl) hst hc
              rcases hrun with hrun | ⟨hrun, rfl⟩
              · rw [hrun, Oper.upon_value]
                exact next ρ2 _ _ _ _ (hp.trans hpre) (ha.put hpre hdst hr) hinv hk
              · rw [hrun, Oper.upon_skip]
                exact next ρ2 _ _ _ _ (hp.trans hpre) (ha.put hpre hdst hr) hinv hk
            · exact h.elim
        · rename_i cnd x y hop
          simp only [gd] at h
          split at h
          · rename_i b hb
            have hcv := relI_bool (rd_rel ha cnd) hb
            have hex : (execOp a.eval o).run P w = .ok (.value (if b then a.eval x else a.eval y)) w := by
              simp [execOp, hop, hcv, asBool]
            rw [hex, Oper.upon_value]
            cases b with
            | true => rw [gdb_true] at h; exact next ρ' _ _ _ _ hp (ha.put (Le.refl _) hdst (rd_rel ha x)) hi h
            | false => rw [gdb_false] at h; exact next ρ' _ _ _ _ hp (ha.put (Le.refl _) hdst (rd_rel ha y)) hi h
          · exact h.elim
        iterate 10
          · obtain ⟨x, w', v, H', ρ2, hrun, hr, hpre, hinv, hk⟩ := h n ρ' a w ha hi
            rcases hrun with hrun | ⟨hrun, rfl⟩
            · rw [hrun, Oper.upon_value]
              exact next ρ2 _ _ _ _ (hp.trans hpre) (ha.put hpre hdst hr) hinv hk
            · rw [hrun, Oper.upon_skip]
              exact next ρ2 _ _ _ _ (hp.trans hpre) (ha.put hpre hdst hr) hinv hk
        · unfold stepK at h
          split at h
          · rename_i c v W hst
            obtain ⟨hc, hk⟩ := h
            obtain ⟨ρ2, x, w', hpre, _, hr, hinv, hrun⟩ := step_sound ha hi (.inl rfl) hst hc
            rcases hrun with hrun | ⟨hrun, rfl⟩
            · rw [hrun, Oper.upon_value]
              exact next ρ2 _ _ _ _ (hp.trans hpre) (ha.put hpre hdst hr) hinv hk
            · rw [hrun, Oper.upon_skip]
              exact next ρ2 _ _ _ _ (hp.trans hpre) (ha.put hpre hdst hr) hinv hk
          · exact h.elim
    · exact h.elim

theorem ev_sound : ∀ (c : Code), codeOk n c = true → ∀ (Q : Exit → TM → Heap → Prop) (tm : TM) (H : Heap), ev P n X c Q tm H → IW P n X c Q tm H
  | .skip, _, Q, tm, H, h => IW_skip h
  | .region id ops d, hok, Q, tm, H, h => by
    cases d with
    | false =>
      intro ρ a w ha hi
      refine wp_region ?_
      have hall : ∀ (j : Nat) (q : Oper), ops[j]? = some q → operOk n q = true := fun j q hj => by
        simp only [codeOk, List.all_eq_true] at hok
        exact hok q (by simpa using Array.mem_of_getElem? hj)
      have := evOps_sound (P := P) (X := X) (ρ := ρ) (Q := Q) hall ops.toList 0 (fun j => by simp) (Q .normal) ρ tm H a w (fun _ _ h => h) (Le.refl _) ha hi h
      simpa [List.range_eq_range'] using this
    | true => exact IW_mono h fun e tm H q => by cases e <;> first | exact q | exact q.elim
  | .seq a b, hok, Q, tm, H, h => by
    simp only [codeOk, Bool.and_eq_true] at hok
    exact IW_seq (K := ev P n X b Q) (fun tm H k => ev_sound b hok.2 Q tm H k) (ev_sound a hok.1 _ tm H h)
  | .cond c a b, hok, Q, tm, H, h => by
    simp only [codeOk, Bool.and_eq_true] at hok
    simp only [ev, gd] at h
    split at h
    · rename_i t ht
      exact IW_cond (b := t) (fun ρ a ha => relI_bool (rd_rel ha c) ht) (fun e => ev_sound a hok.1 Q tm H (h.1 e)) (fun e => ev_sound b hok.2 Q tm H (h.2 e))
    · exact h.elim
  | .block id c, hok, Q, tm, H, h => IW_block (ev_sound c hok _ tm H h)
  | .exit id, _, Q, tm, H, h => IW_exit h
  | .ret, _, Q, tm, H, h => IW_ret h
  | .label l, _, Q, tm, H, h => IW_label h
  | .loop c, _, Q, tm, H, h => h
  | .rangeFunc _ _ _ _, _, Q, tm, H, h => h
  | .scope _, _, Q, tm, H, h => h
  | .goto _, _, Q, tm, H, h => h
  | .refuse _, _, Q, tm, H, h => h
end
end Go.Ev
