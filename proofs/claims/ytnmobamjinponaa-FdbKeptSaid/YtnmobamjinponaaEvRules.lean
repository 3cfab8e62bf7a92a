/- The evaluator's steps as rewriting rules, each fully applied. -/
import Derived.Test.YtnmobamjinponaaEvFun
namespace Go.Ev
section
variable {P : Program} {n : Nat} {X : Ctx} {all ops : Array Oper} {os : List Oper} {o : Oper} {K k : TM → Heap → Prop} {kr : IV → Heap → Prop} {Q : Exit → TM → Heap → Prop} {tm : TM} {H : Heap} {A B : TM → Heap → Prop} {b : Bool} {c : Prop} {v : IV} {d : Option Nat} {a a' : Code} {x y : Operand}
theorem e_nil : evOps P X all [] K tm H = K tm H := rfl
theorem e_cons : evOps P X all (o :: os) K tm H = gd (guardB all tm o.guard) (evOp P X o (evOps P X all os K)) (junkK (evOps P X all os K) o.dst) tm H := rfl
theorem e_gd : gd (some b) A B tm H = gdb b A B tm H := rfl
theorem e_gdt : gdb true A B tm H = A tm H := gdb_true
theorem e_gdf : gdb false A B tm H = B tm H := gdb_false
theorem e_g0 : guardB all tm none = some true := rfl
theorem e_g1 {j : Nat} {w : Bool} : guardB all tm (some (j, w)) = match (all[j]?).bind (·.dst) with
    | some d => match get tm d with
      | .s (.raw (.bool b)) => some (if w then b else !b)
      | .t [] => some false
      | _ => none
    | none => none := rfl
theorem e_op (t : Nat) (p : String) (af : Array Edge) (g : Option (Nat × Bool)) (op : Op) : evOp P X ⟨d, op, t, p, af, g⟩ k tm H = match op with
  | .call c => match c.callee with
    | .value (.func f) => callK P X f (c.args.toList.map (rd tm)) (retK k tm d) H
    | .value (.tmp t) => cloK P X (get tm t) (c.args.toList.map (rd tm)) (retK k tm d) H
    | .builtin _ => stepG (stepE P H.length op tm H) (genK P X ⟨d, op, t, p, af, g⟩ k tm H) k tm d H
    | _ => stepK (stepE P H.length op tm H) k tm d H
  | .pick c x y => gd (boolOf (rd tm c)) (putK k d x) (putK k d y) tm H
  | .range _ _ => genK P X ⟨d, op, t, p, af, g⟩ k tm H
  | .next _ _ => genK P X ⟨d, op, t, p, af, g⟩ k tm H
  | .entry _ => genK P X ⟨d, op, t, p, af, g⟩ k tm H
  | .makeMap _ _ => genK P X ⟨d, op, t, p, af, g⟩ k tm H
  | .lookup _ _ _ _ => genK P X ⟨d, op, t, p, af, g⟩ k tm H
  | .mapUpdate _ _ _ _ => genK P X ⟨d, op, t, p, af, g⟩ k tm H
  | .insert _ _ _ _ => genK P X ⟨d, op, t, p, af, g⟩ k tm H
  | .makeFunc _ _ _ => genK P X ⟨d, op, t, p, af, g⟩ k tm H
  | .makeInterface _ _ => genK P X ⟨d, op, t, p, af, g⟩ k tm H
  | .typeAssert _ _ _ _ => genK P X ⟨d, op, t, p, af, g⟩ k tm H
  | op => stepK (stepE P H.length op tm H) k tm d H := by cases op <;> rfl
theorem e_step {W : List (Nat × Chunk)} : stepK (some (c, v, W)) k tm d H = (c ∧ k (put tm d v) (upd H W)) := rfl
theorem e_stepG {W : List (Nat × Chunk)} {g : Prop} : stepG (some (c, v, W)) g k tm d H = (c ∧ k (put tm d v) (upd H W)) := rfl
theorem e_stepN {g : Prop} : stepG none g k tm d H = g := rfl
theorem e_clo {ch : Nat} {args : List IV} {kr : IV → Heap → Prop} : cloK P X (.s (.ref ch)) args kr H = match H[ch]? with
    | some (.clo (.func f) first cap) => callK P X f (first ++ (args ++ cap)) kr H
    | _ => False := rfl
theorem e_cloF {f : FuncId} {args : List IV} {kr : IV → Heap → Prop} : cloK P X (.s (.raw (.func (.func f) #[] #[]))) args kr H = callK P X f args kr H := by simp [cloK]
theorem e_ret (r : IV) : retK k tm d r H = k (put tm d r) H := rfl
theorem e_put : putK k d x tm H = k (put tm d (rd tm x)) H := rfl
theorem e_junk : junkK k d tm H = k (put tm d (.t [])) H := rfl
theorem e_skip : ev P n X .skip Q tm H = Q .normal tm H := rfl
theorem e_reg {id : Nat} : ev P n X (.region id ops false) Q tm H = evOps P X ops ops.toList (Q .normal) tm H := rfl
theorem e_draw {id : Nat} : ev P n X (.region id ops true) Q tm H = drawK P n X id ops (Q .normal) tm H := rfl
theorem e_seq : ev P n X (.seq a a') Q tm H = ev P n X a (seqQ (ev P n X a' Q) Q) tm H := rfl
theorem e_cond {c : Operand} : ev P n X (.cond c a a') Q tm H = gd (boolOf (rd tm c)) (ev P n X a Q) (ev P n X a' Q) tm H := rfl
theorem e_block {id : Nat} : ev P n X (.block id a) Q tm H = ev P n X a (blockQ id Q) tm H := rfl
theorem e_exit {id : Nat} : ev P n X (.exit id) Q tm H = Q (.exit id) tm H := rfl
theorem e_r : ev P n X .ret Q tm H = Q .ret tm H := rfl
theorem e_label {l : Nat} : ev P n X (.label l) Q tm H = Q .normal tm H := rfl
theorem e_loop : ev P n X (.loop a) Q tm H = loopK P n X a Q tm H := rfl
theorem q_sn : seqQ K Q .normal tm H = K tm H := rfl
theorem q_sr : seqQ K Q .ret tm H = Q .ret tm H := rfl
theorem q_se {i : Nat} : seqQ K Q (.exit i) tm H = Q (.exit i) tm H := rfl
theorem q_bn {id : Nat} : blockQ id Q .normal tm H = Q .normal tm H := rfl
theorem q_br {id : Nat} : blockQ id Q .ret tm H = Q .ret tm H := rfl
theorem q_be {id i : Nat} : blockQ id Q (.exit i) tm H = if i = id then Q .normal tm H else Q (.exit i) tm H := rfl
theorem q_rr {rs : List ResultVar} : retQ P rs kr .ret tm H = resK (resI P tm H rs) kr H := rfl
theorem q_rn {rs : List ResultVar} : retQ P rs kr .normal tm H = resK (resI P tm H rs) kr H := rfl
theorem e_res1 {x : IV} : resK (some [x]) kr H = kr x H := rfl
theorem e_res2 {x y : IV} {l : List IV} : resK (some (x :: y :: l)) kr H = (flat (x :: y :: l) = true ∧ kr (.t (x :: y :: l)) H) := rfl
theorem e_res0 : resK (some []) kr H = (flat [] = true ∧ kr (.t []) H) := rfl
theorem e_b {b : Bool} : boolOf (.s (.raw (.bool b))) = some b := rfl
end
end Go.Ev
