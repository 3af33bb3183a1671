/- Facts and contracts that the claim uses. No condition of its own. -/
import Derived.Test.YtkmkcbkfakoomaaDoorGRingTextsAP
import Derived.Scope
set_option linter.unusedVariables false
set_option linter.unusedSimpArgs false
namespace Go.Proofs.YtkmkcbkfakoomaaDoor
open Go.RowKit
def Vc (p : Prop) : Prop := p
inductive TI where
  | one (z : Value)
  | bool
  | sl (el sz bs : Nat) (zc : List Value)
  | st (sz : Nat) (zc : List Value) (fs : List (Nat × Nat × Bool))
  | ar (len el sz tot : Nat) (zc : List Value)
  | mp (z : Value)
  | gm (kk : KT) (zp : PV)
  | oth
def TI.shape : TI → Option (Bool × Nat)
  | .one _ | .bool | .sl .. | .mp _ | .gm .. => some (false, 1)
  | .st sz _ _ => some (true, sz)
  | .ar _ _ _ tot _ => some (true, tot)
  | .oth => none
def TI.zero : TI → Option (List Value)
  | .one z => some [z]
  | .bool => some [.bool false]
  | .sl .. => some [.slice none 0 0]
  | .st _ zc _ | .ar _ _ _ _ zc => some zc
  | .mp _ => some [.map none]
  | .gm .. => some [.map none]
  | .oth => none
def TOk1 (P : Program) (t : TypeId) : TI → Prop
  | .one z => ElT P t false 1 ∧ ZrT P t [z]
  | .bool => ElT P t false 1 ∧ ZrT P t [.bool false] ∧ P.underlying t = some .bool
  | .sl el sz bs zc => ElT P t false 1 ∧ ZrT P t [.slice none 0 0] ∧ SlT P t el sz bs zc
  | .st sz zc fs => ElT P t true sz ∧ ZrT P t zc ∧ (∀ f x, fs[f]? = some x → ∃ ty, FdT P t f x.1 ty x.2.1 x.2.2) ∧ BdT P t zc (fs.map fun x => (x.1, x.2.1))
  | .ar len el sz tot zc => ElT P t true tot ∧ ZrT P t zc ∧ ArT P t len el sz ∧ BdT P t zc ((List.range len).map fun i => (i * sz, sz))
  | .mp z => ElT P t false 1 ∧ ZrT P t [.map none] ∧ MpT P t z
  | .gm kk zp => ElT P t false 1 ∧ ZrT P t [.map none] ∧ GpT P t kk zp
  | .oth => True
def TOk (P : Program) (T : TypeId → TI) : Prop := ∀ t, TOk1 P t (T t)
theorem TOk.shape {P : Program} {T : TypeId → TI} (h : TOk P T) {t : TypeId} {ag : Bool} {sz : Nat} (e : (T t).shape = some (ag, sz)) : ElT P t ag sz := by
  have := h t
  revert this e
  cases T t <;> simp only [TI.shape, TOk1, Option.some.injEq, Prod.mk.injEq] <;> intro e this
  · obtain ⟨rfl, rfl⟩ := e; exact this.1
  · obtain ⟨rfl, rfl⟩ := e; exact this.1
  · obtain ⟨rfl, rfl⟩ := e; exact this.1
  · obtain ⟨rfl, rfl⟩ := e; exact this.1
  · obtain ⟨rfl, rfl⟩ := e; exact this.1
  · obtain ⟨rfl, rfl⟩ := e; exact this.1
  · obtain ⟨rfl, rfl⟩ := e; exact this.1
  · cases e
theorem TOk.zero {P : Program} {T : TypeId → TI} (h : TOk P T) {t : TypeId} {zc : List Value} (e : (T t).zero = some zc) : ZrT P t zc := by
  have := h t
  revert this e
  cases T t <;> simp only [TI.zero, TOk1, Option.some.injEq] <;> intro e this
  · subst e; exact this.2
  · subst e; exact this.2.1
  · subst e; exact this.2.1
  · subst e; exact this.2.1
  · subst e; exact this.2.1
  · subst e; exact this.2.1
  · subst e; exact this.2.1
  · cases e
structure Hn where
  mt : List Nat := []
  pc : List Nat := []
  rb : List Nat := []
  wc : List Nat := []
  fz : List Nat := []
  al : List Nat := []
  ss : List Nat := []
  rl : List Nat := []
  so : List Nat := []
  am : List Nat := []
  sq : List Nat := []
def inL (l : List Nat) (d : Option Tmp) : Bool := match d with
  | some d => l.any (Nat.beq d)
  | none => false
def clsOf (M : Hn) (o : Oper) : Cls :=
  match o.op with
  | .load .. => if inL M.rb o.dst then .readB else if inL M.pc o.dst then .pure else if inL M.rl o.dst then .readL else .read
  | .box .. => if inL M.mt o.dst then .wr else .pure
  | .buildSlice .. => if inL M.mt o.dst then .wrS else .pure
  | .call c => match c.callee with
    | .builtin .append | .builtin .copy => .wrS
    | .builtin _ => .pure
    | _ => if inL M.wc o.dst then .wrS else if inL M.pc o.dst then .pure else .read
  | .makeSlice .. => .wrS
  | .alloc .. => if inL M.al o.dst then .wrA else if inL M.wc o.dst then .wrS else .wr
  | .store _ x _ => match x with
    | .tmp y => if inL M.ss (some y) then .wrS else if inL M.so (some y) then .wrO else if inL M.sq (some y) then .wrQ else .wr
    | _ => .wr
  | .makeMap .. => if inL M.am o.dst then .wrM else .wr
  | .insert _ x _ _ => match x with
    | .tmp y => if inL M.am (some y) then .wrM else .wr
    | _ => .wr
  | .mapUpdate .. | .range .. => .wr
  | .lookup .. | .entry .. => if inL M.pc o.dst then .pure else .readB
  | .move _ | .assign _ => if inL M.fz o.dst then .wr else .pure
  | _ => .pure
def binX (tb : Prop) (bop : BinOp) (x y : Value) (k : Value → Prop) : Prop :=
  match x, y with
  | .int .i64 a, .int .i64 b =>
    match bop with
    | .add => Vc (in64 (a + b)) ∧ k (.int .i64 (a + b))
    | .sub => Vc (in64 (a - b)) ∧ k (.int .i64 (a - b))
    | .mul => Vc (in64 (a * b)) ∧ k (.int .i64 (a * b))
    | .quo => Vc (b ≠ 0 ∧ -9223372036854775807 ≤ a ∧ a ≤ 9223372036854775807) ∧ k (.int .i64 (a.tdiv b))
    | .rem => Vc (b ≠ 0) ∧ k (.int .i64 (a.tmod b))
    | .eql => k (.bool (decide (a = b)))
    | .neq => k (.bool (!decide (a = b)))
    | .lss => k (.bool (decide (a < b)))
    | .leq => k (.bool (decide (a ≤ b)))
    | .gtr => k (.bool (decide (b < a)))
    | .geq => k (.bool (decide (b ≤ a)))
    | _ => False
  | .bool a, .bool b => tb ∧
    match bop with
    | .eql => k (.bool (a == b))
    | .neq => k (.bool (!(a == b)))
    | _ => False
  | _, _ => False
def CallX (P : Program) (c : Cls) (h : HP) (f : FuncId) (args : List PV) (r : PV) : Prop :=
  (PV.cl.clL args = true ∧ SC P f args r) ∨ ((c = .read ∨ c = .wrS ∨ c = .wr) ∧ PV.cl.clL (args.map (bw h)) = true ∧ SC P f (args.map (bw h)) r ∧ r.flat = true)
def CallO (P : Program) (h : HP) (f : FuncId) (args : List PV) (sz n : Nat) (cs : List PV) : Prop :=
  (PV.cl.clL args = true ∧ SCo P f args sz n cs) ∨ (PV.cl.clL (args.map (bw h)) = true ∧ SCo P f (args.map (bw h)) sz n cs ∧ cs.all PV.bare = true)
theorem CallX.of {P : Program} {c : Cls} {h : HP} {f : FuncId} {args : List PV} {r : PV} (h1 : PV.cl.clL args = true) (h2 : SC P f args r) : CallX P c h f args r := .inl ⟨h1, h2⟩
theorem CallX.bw {P : Program} {c : Cls} {h : HP} {f : FuncId} {args args' : List PV} {r : PV} (e : args.map (Go.Proofs.YtkmkcbkfakoomaaDoor.bw h) = args') (h0 : c = .read ∨ c = .wrS ∨ c = .wr) (h1 : PV.cl.clL args' = true) (h2 : SC P f args' r) (h3 : r.flat = true) : CallX P c h f args r := by
  subst e; exact .inr ⟨h0, h1, h2, h3⟩
def boundX (e : Operand → PV) (x : Option Operand) (dflt : Int) (k : Int → Prop) : Prop :=
  match x with
  | none => k dflt
  | some y => match e y with
    | .sc (.int _ z) => k z
    | _ => False
def lenX (T : TypeId → TI) (c : Cls) (h : HP) (k : PV → HP → Prop) (t : TypeId) (x : PV) : Prop :=
  match T t with
  | .sl .. => match x with
    | .lst _ _ n _ => k (.sc (.int .i64 n)) h
    | .ref _ _ _ n => k (.sc (.int .i64 n)) h
    | _ => False
  | .mp _ => match x with
    | .fmap m => ∃ ks : List Int, ks.Nodup ∧ (∀ q, q ∈ ks ↔ m q ≠ none) ∧ k (.sc (.int .i64 (ks.length : Nat))) h
    | _ => False
  | .gm kk _ => (∃ ks ps, x = .gfm kk ks ps ∧ k (.sc (.int .i64 (ks.length : Nat))) h) ∨ ∃ tk ks ps, c.lkp = true ∧ x = .mref tk ∧ h.sp tk = some (.gmap kk ks ps) ∧ k (.sc (.int .i64 (ks.length : Nat))) h
  | _ => False
def capX (T : TypeId → TI) (h : HP) (k : PV → HP → Prop) (t : TypeId) (x : PV) : Prop :=
  match T t with
  | .sl .. => match x with
    | .lst true _ n _ => k (.sc (.int .i64 n)) h
    | _ => False
  | _ => False
def minX (h : HP) (k : PV → HP → Prop) (x y : PV) : Prop :=
  match x with
  | .sc (.int .i64 a) => match y with
    | .sc (.int .i64 b) => k (.sc (.int .i64 (if b < a then b else a))) h
    | _ => False
  | _ => False
def maxX (h : HP) (k : PV → HP → Prop) (x y : PV) : Prop :=
  match x with
  | .sc (.int .i64 a) => match y with
    | .sc (.int .i64 b) => k (.sc (.int .i64 (if a < b then b else a))) h
    | _ => False
  | _ => False
def appX (T : TypeId → TI) (c : Cls) (h : HP) (k : PV → HP → Prop) (t : TypeId) (x y : PV) : Prop :=
  match T t with
  | .sl _ sz bs _ => match x with
    | .ref tk off sz' n => ∃ cs m cs2, h.blk tk = some cs ∧ srcA h y sz m cs2 ∧ sz' = sz ∧ (c = .wr ∨ c = .wrS ∧ tk % 2 = 0) ∧ Vc (off + n * sz ≤ cs.length) ∧ (∀ p ∈ cs2, p.one = true) ∧ Vc ((n + m) * bs ≤ 140737488355328 ∧ n + m ≤ 140737488355328) ∧
        k (.ref (h.tok false) 0 sz (n + m)) ((h.kill tk).add false ((cs.drop off).take (n * sz) ++ cs2))
    | .lst cl sz' n cs => ∃ m cs2, srcA h y sz m cs2 ∧ (m = 0 → (c = .read ∨ c = .wrS ∨ c = .wr) ∧ k (.lst cl sz' n cs) h) ∧ (m ≠ 0 → cl = true ∧ (sz' = sz ∨ n = 0) ∧ (c = .wr ∨ c = .wrS) ∧ Vc ((n + m) * bs ≤ 140737488355328 ∧ n + m ≤ 140737488355328) ∧
        k (.ref (h.tok false) 0 sz (n + m)) (h.add false (cs ++ cs2)))
    | _ => False
  | _ => False
def cpyX (T : TypeId → TI) (c : Cls) (h : HP) (k : PV → HP → Prop) (t : TypeId) (x y : PV) : Prop :=
  match T t with
  | .sl _ sz _ _ => match x with
    | .ref tk off sz' n => ∃ cs m cs2, h.blk tk = some cs ∧ lenA y = some m ∧ srcA h (cutA (min n m) y) sz (min n m) cs2 ∧ sz' = sz ∧ (c = .wr ∨ c = .wrS ∧ tk % 2 = 0) ∧ Vc (off + n * sz ≤ cs.length) ∧ (∀ p ∈ cs2, p.one = true) ∧
        k (.sc (.int .i64 (min n m : Nat))) (h.set tk (cs.take off ++ cs2 ++ cs.drop (off + min n m * sz)))
    | _ => False
  | _ => False
def mkmX (T : TypeId → TI) (c : Cls) (h : HP) (k : PV → HP → Prop) (t : TypeId) (hint : Option Operand) : Prop :=
  match T t with
  | .mp _ => hint = none ∧ c = .wr ∧ k (.mref (h.tok true)) (h.addS true (.map fun _ => none))
  | .gm kk _ => hint = none ∧ c = .wr ∧ k (.mref (h.tok true)) (h.addS true (.gmap kk [] []))
  | _ => False
def mkmAX (T : TypeId → TI) (c : Cls) (h : HP) (k : PV → HP → Prop) (dst : Option Tmp) (t : TypeId) (hint : Option Operand) : Prop :=
  match T t with
  | .mp _ => hint = none ∧ c = .wrM ∧ ∃ tk d, dst = some d ∧ tk % 1024 = d ∧ h.win tk = true ∧ k (.mref tk) (h.putS tk (.map fun _ => none))
  | _ => False
def insAX (T : TypeId → TI) (c : Cls) (h : HP) (k : PV → HP → Prop) (t : TypeId) (o : Operand) (x y v : PV) : Prop :=
  match T t with
  | .mp _ => c = .wrM ∧ ∃ tk y0 m kk vv, o = .tmp y0 ∧ x = .mref tk ∧ tk % 1024 = y0 ∧ y = .sc (.int .i64 kk) ∧ v = .sc vv ∧ h.sp tk = some (.map m) ∧ m kk = none ∧ k .junk (h.setS tk (.map fun y => if y = kk then some vv else m y))
  | _ => False
def mupX (T : TypeId → TI) (c : Cls) (h : HP) (k : PV → HP → Prop) (t : TypeId) (x y v : PV) : Prop :=
  match T t with
  | .mp _ => match x with
    | .mref tk => match y with
      | .sc (.int .i64 kk) => match v with
        | .sc vv => c = .wr ∧ ∃ m, h.sp tk = some (.map m) ∧ k .junk (h.setS tk (.map fun y => if y = kk then some vv else m y))
        | _ => False
      | _ => False
    | _ => False
  | .gm kk _ => c = .wr ∧ ∃ tk ks ps key, x = .mref tk ∧ h.sp tk = some (.gmap kk ks ps) ∧ y = kpv kk key ∧ kk.ok key ∧ k .junk (h.setS tk (.gmap kk (insK ks key) (insP ks ps key v)))
  | _ => False
def lkX (T : TypeId → TI) (c : Cls) (h : HP) (k : PV → HP → Prop) (t : TypeId) (x y : PV) (cm : Bool) : Prop :=
  match T t with
  | .mp z => match y with
    | .sc (.int .i64 kk) => match x with
      | .fmap m => k (lkR cm m z kk) h
      | .mref tk => c.lkp = true ∧ ∃ m, h.sp tk = some (.map m) ∧ k (lkR cm m z kk) h
      | _ => False
    | _ => False
  | .gm kk zp => (∃ ks ps key, x = .gfm kk ks ps ∧ y = kpv kk key ∧ kk.ok key ∧ k (lkG cm ks ps zp key) h) ∨ ∃ tk ks ps key, c.lkp = true ∧ x = .mref tk ∧ h.sp tk = some (.gmap kk ks ps) ∧ y = kpv kk key ∧ kk.ok key ∧ k (lkG cm ks ps zp key) h
  | _ => False
def rngX (T : TypeId → TI) (c : Cls) (h : HP) (k : PV → HP → Prop) (t : TypeId) (x : PV) : Prop :=
  match T t with
  | .mp _ => match x with
    | .fmap m => c = .wr ∧ k (.itr (h.tok true)) (h.addS true (.iter m []))
    | _ => False
  | .gm kk _ => c = .wr ∧ ∃ ks ps, x = .gfm kk ks ps ∧ k (.itr (h.tok true)) (h.addS true (.giter kk ks ps []))
  | _ => False
def entX (c : Cls) (h : HP) (k : PV → HP → Prop) (x : PV) : Prop :=
  match x with
  | .itr tk => c.lkp = true ∧ ((∃ m pre kk v, h.sp tk = some (.iter m (pre ++ [(kk, v)])) ∧ k (.tup [.sc (.int .i64 kk), .sc v]) h) ∨ ∃ kk ks ps pre i, h.sp tk = some (.giter kk ks ps (pre ++ [i])) ∧ i < ps.length ∧ k (.tup [kpv kk (ks.getD i []), ps.getD i .junk]) h)
  | _ => False
def biX (T : TypeId → TI) (c : Cls) (h : HP) (k : PV → HP → Prop) (b : Builtin) (xs : List PV) (ts : List TypeId) : Prop :=
  match xs with
  | [x] => match ts with
    | [t] => match b with
      | .len => lenX T c h k t x
      | .cap => capX T h k t x
      | _ => False
    | _ => False
  | [x, y] => match b with
    | .min => minX h k x y
    | .max => maxX h k x y
    | .append => match ts with
      | [t, t'] => t = t' ∧ appX T c h k t x y
      | _ => False
    | .copy => match ts with
      | [t, t'] => t = t' ∧ cpyX T c h k t x y
      | _ => False
    | _ => False
  | _ => False
def callX (P : Program) (T : TypeId → TI) (c : Cls) (e : Operand → PV) (h : HP) (k : PV → HP → Prop) (cc : Call) : Prop :=
  match cc.callee with
  | .builtin b => biX T c h k b (cc.args.toList.map e) cc.argTypes.toList
  | .value (.tmp y) => match e (.tmp y) with
    | .clo f cap => ∃ r, PV.cl.clL (cc.args.toList.map e ++ cap) = true ∧ SC P f (cc.args.toList.map e ++ cap) r ∧ k r h
    | _ => False
  | .value (.func f) => (∃ x rs tk off cs zs us ys, (c = .wr ∨ c = .wrS ∧ tk % 2 = 0) ∧ cc.args.toList = x :: rs ∧ e x = .ref tk off 1 (List.length zs) ∧ h.blk tk = some cs ∧ (cs.drop off).take (List.length zs) = List.map (fun z => .sc (.int .i64 z)) zs ∧ 0 < List.length zs ∧ rs.map e = List.map .sc us ∧ SCm P f zs us ys ∧ k (.ref tk off 1 ys.length) (h.set tk (List.replicate off .junk ++ ys.map fun y => .sc (.int .i64 y)))) ∨ (∃ sz n cs, (c = .wr ∨ c = .wrS) ∧ CallO P h f (cc.args.toList.map e) sz n cs ∧ k (.ref (h.tok false) 0 sz n) (h.add false cs)) ∨ (∃ r, CallX P c h f (cc.args.toList.map e) r ∧ k r h) ∨ ∃ r h', c = .wr ∧ SCh P f (cc.args.toList.map e) h r h' ∧ k r h'
  | _ => False
def ixX (T : TypeId → TI) (h : HP) (k : PV → HP → Prop) (t : TypeId) (x ix : PV) : Prop :=
  match ix with
  | .sc (.int _ i) => match x with
    | .lst _ sz' n cs => match T t with
      | .sl _ sz _ _ => sz' = sz ∧ Vc (0 ≤ i ∧ i < n) ∧ k (.lptr (cs.drop (i.toNat * sz))) h
      | _ => False
    | .ref tk off sz' n => match T t with
      | .sl _ sz _ _ => sz' = sz ∧ Vc (0 ≤ i ∧ i < n) ∧ k (.ptr tk (off + i.toNat * sz)) h
      | _ => False
    | .ptr tk off => match T t with
      | .ar len _ sz _ _ => Vc (0 ≤ i ∧ i < len) ∧ k (.ptr tk (off + i.toNat * sz)) h
      | _ => False
    | .lptr cs => match T t with
      | .ar len _ sz _ _ => Vc (0 ≤ i ∧ i < len) ∧ k (.lptr (cs.drop (i.toNat * sz))) h
      | _ => False
    | _ => False
  | _ => False
def ldX (T : TypeId → TI) (c : Cls) (h : HP) (k : PV → HP → Prop) (t : TypeId) (x : PV) : Prop :=
  match x with
  | .lptr cs => match (T t).shape with
    | some (false, 1) => ∃ p, cs[0]? = some p ∧ k p h
    | some (true, sz) => Vc (sz ≤ cs.length) ∧ k (.agg (cs.take sz)) h
    | _ => False
  | .ptr tk off => (c = .read ∨ c = .wrS ∨ c = .wr ∨ c = .readB ∧ tk % 2 = 1 ∨ c = .readL ∧ tk % 2 = 0) ∧ match (T t).shape with
    | some (false, 1) => ∃ cs p, h.blk tk = some cs ∧ cs[off]? = some p ∧ k p h
    | some (true, sz) => ∃ cs, h.blk tk = some cs ∧ Vc (off + sz ≤ cs.length) ∧ k (.agg ((cs.drop off).take sz)) h
    | _ => False
  | _ => False
def stX (T : TypeId → TI) (c : Cls) (h : HP) (k : PV → HP → Prop) (t : TypeId) (x y : PV) : Prop :=
  match x with
  | .ptr tk off => (c = .wr ∨ c = .wrS ∧ tk % 2 = 0 ∨ c = .wrO ∧ tk % 2 = 1 ∨ c = .wrQ) ∧ match (T t).shape with
    | some (false, 1) => ∃ cs, h.blk tk = some cs ∧ Vc (off < cs.length) ∧ y.one = true ∧ k .junk (h.set tk (cs.set off y))
    | some (true, sz) => match y with
      | .agg vs => ∃ cs, h.blk tk = some cs ∧ vs.length = sz ∧ Vc (off + sz ≤ cs.length) ∧ (∀ p ∈ vs, p.one = true) ∧ k .junk (h.set tk (cs.take off ++ vs ++ cs.drop (off + sz)))
      | _ => False
    | _ => False
  | _ => False
def faX (T : TypeId → TI) (h : HP) (k : PV → HP → Prop) (t : TypeId) (x : PV) (f : Nat) : Prop :=
  match T t with
  | .st _ _ fs => match fs[f]? with
    | some (off, _, _) => match x with
      | .lptr cs => k (.lptr (cs.drop off)) h
      | .ptr tk kk => k (.ptr tk (kk + off)) h
      | _ => False
    | none => False
  | _ => False
def fdX (T : TypeId → TI) (h : HP) (k : PV → HP → Prop) (t : TypeId) (x : PV) (f : Nat) : Prop :=
  match T t with
  | .st _ _ fs => match x with
    | .agg cs => match fs[f]? with
      | some (off, _, false) => ∃ p, cs[off]? = some p ∧ k p h
      | some (off, sz, true) => Vc (off + sz ≤ cs.length) ∧ k (.agg ((cs.drop off).take sz)) h
      | none => False
    | _ => False
  | _ => False
def boxX (M : Hn) (c : Cls) (h : HP) (k : PV → HP → Prop) (d : Option Tmp) (x : PV) : Prop :=
  match x with
  | .agg cs => (inL M.mt d = true → c = .wr ∧ k (.ptr (h.tok true) 0) (h.add true cs)) ∧ (inL M.mt d = false → k (.lptr cs) h)
  | p => p.one = true ∧ (inL M.mt d = true → c = .wr ∧ k (.ptr (h.tok true) 0) (h.add true [p])) ∧ (inL M.mt d = false → k (.lptr [p]) h)
def mkX (T : TypeId → TI) (c : Cls) (h : HP) (k : PV → HP → Prop) (t : TypeId) (x y : PV) : Prop :=
  match x with
  | .sc (.int _ a) => match y with
    | .sc (.int _ b) => match T t with
      | .sl _ sz bs zc => (c = .wr ∨ c = .wrS) ∧ Vc (0 ≤ a ∧ a ≤ b ∧ bs * b ≤ 140737488355328 ∧ b ≤ 140737488355328) ∧ k (.ref (h.tok false) 0 sz a.toNat) (h.add false ((List.replicate a.toNat (zc.map ofConst.ofCell)).flatten))
      | _ => False
    | _ => False
  | _ => False
def slX (T : TypeId → TI) (e : Operand → PV) (h : HP) (k : PV → HP → Prop) (t : TypeId) (x : PV) (lo hi mx : Option Operand) : Prop :=
  match T t with
  | .sl _ sz _ _ => match x with
    | .lst cl sz' n cs => (sz' = sz ∨ n = 0) ∧ match mx with
      | none => boundX e lo 0 fun zl => boundX e hi n fun zh => Vc (0 ≤ zl ∧ zl ≤ zh ∧ zh ≤ n) ∧ k (.lst (cl && hi.isNone) sz (zh.toNat - zl.toNat) ((cs.drop (zl.toNat * sz)).take ((zh.toNat - zl.toNat) * sz))) h
      | some mx => match hi with
        | none => False
        | some hi => boundX e lo 0 fun zl => boundX e (some hi) n fun zh => boundX e (some mx) n fun zm => zm = zh ∧ Vc (0 ≤ zl ∧ zl ≤ zh ∧ zh ≤ n) ∧
          k (.lst true sz (zh.toNat - zl.toNat) ((cs.drop (zl.toNat * sz)).take ((zh.toNat - zl.toNat) * sz))) h
    | .ref tk off sz' n => match mx with
      | none => sz' = sz ∧ boundX e lo 0 fun zl => boundX e hi n fun zh => Vc (0 ≤ zl ∧ zl ≤ zh ∧ zh ≤ n) ∧ k (.ref tk (off + zl.toNat * sz) sz (zh.toNat - zl.toNat)) h
      | some mx => match hi with
        | none => False
        | some hi => sz' = sz ∧ boundX e lo 0 fun zl => boundX e (some hi) n fun zh => boundX e (some mx) n fun zm => zm = zh ∧ Vc (0 ≤ zl ∧ zl ≤ zh ∧ zh ≤ n) ∧ k (.ref tk (off + zl.toNat * sz) sz (zh.toNat - zl.toNat)) h
    | _ => False
  | .ar len _ sz _ _ => match x with
    | .lptr cs => match lo with
      | none => match hi with
        | some hi => match mx with
          | none => match e hi with
            | .sc (.int _ zh) => (sz = 1 ∧ cs.length = len) ∧ Vc (0 ≤ zh ∧ zh ≤ len ∧ len ≤ 1000000) ∧ k (.lst false 1 zh.toNat (cs.take zh.toNat)) h
            | _ => False
          | _ => False
        | _ => False
      | _ => False
    | _ => False
  | _ => False
def bdX (T : TypeId → TI) (e : Operand → PV) (h : HP) (k : PV → HP → Prop) (t : TypeId) (parts : List (Nat × Operand)) : Prop :=
  match T t with
  | .st _ zc fs => ∃ cs, fillA (fun i => (fs.map fun x => (x.1, x.2.1))[i]?) (zc.map ofConst.ofCell) (parts.map fun x => (x.1, e x.2)) = some cs ∧ k (.agg cs) h
  | .ar len _ sz _ zc => ∃ cs, fillA (fun i => ((List.range len).map fun i => (i * sz, sz))[i]?) (zc.map ofConst.ofCell) (parts.map fun x => (x.1, e x.2)) = some cs ∧ k (.agg cs) h
  | _ => False
def bsX (T : TypeId → TI) (M : Hn) (c : Cls) (e : Operand → PV) (h : HP) (k : PV → HP → Prop) (d : Option Tmp) (t : TypeId) (len : Nat) (parts : List (Nat × Operand)) : Prop :=
  match T t with
  | .sl _ sz _ zc => Vc (len * sz ≤ 16777216) ∧ ∃ cs, fillA (fun i => some (i * sz, sz)) ((List.replicate len (zc.map ofConst.ofCell)).flatten) (parts.map fun x => (x.1, e x.2)) = some cs ∧
      (inL M.mt d = true → (c = .wr ∨ c = .wrS) ∧ k (.ref (h.tok false) 0 sz len) (h.add false cs)) ∧ (inL M.mt d = false → k (.lst true sz len cs) h)
  | _ => False
def scX (x : PV) (k : Value → Prop) : Prop := match x with
  | .sc v => k v
  | _ => False
def unX (uop : UnOp) (v : Value) (k : Value → Prop) : Prop :=
  match v with
  | .int .i64 a => match uop with
    | .neg => (Vc (in64 (0 - a)) ∧ k (.int .i64 (0 - a))) ∨ k (.int .i64 (IntKind.i64.wrap (0 - a)))
    | _ => False
  | .bool b => match uop with
    | .not => k (.bool (!b))
    | _ => False
  | _ => False
def isNilC : Operand → Bool
  | .const (.slice none 0 0) => true
  | _ => false
theorem isNilC_spec {y : Operand} (h : isNilC y = true) : y = .const (.slice none 0 0) := by
  unfold isNilC at h
  split at h
  · rfl
  · cases h
def DX (P : Program) (T : TypeId → TI) (M : Hn) (c : Cls) (e : Operand → PV) (o : Oper) (h : HP) (k : PV → HP → Prop) : Prop :=
  match o.op with
  | .move x | .assign x => k (e x) h ∨ (c = .wr ∧ match e x with
    | .mref tk => ∃ m, h.sp tk = some (.map m) ∧ k (.fmap m) (h.killS tk)
    | _ => False)
  | .pick x y z => scX (e x) fun v => match v with
    | .bool b => k (if b then e y else e z) h
    | _ => False
  | .binOp bop t x y _ => (∃ vx vy v, flv (e x) = some vx ∧ flv (e y) = some vy ∧ (∀ w, (do eqGuard bop t x y vx vy; binOp bop t vx vy : Sem Value).run P w = .ok v w) ∧ k (.sc v) h) ∨
    ((isNilC y = true → (bop = .eql ∨ bop = .neq) ∧ match T t, e x with
      | .sl _ sz _ _, .lst _ sz' n _ => (sz' = sz ∨ n = 0) ∧ k (if n = 0 then .anyB else .sc (.bool (isNeq bop))) h
      | _, _ => False) ∧
    (isNilC y = false → scX (e x) fun vx => scX (e y) fun vy => binX (T t = .bool) bop vx vy fun v => k (.sc v) h))
  | .unOp uop _ x => scX (e x) fun v => unX uop v fun v => k (.sc v) h
  | .call cc => callX P T c e h k cc
  | .makeFunc f first xs => match f, first with
    | .func f, ⟨[]⟩ => k (.clo f (xs.toList.map e)) h
    | _, _ => False
  | .indexAddr t x ix => ixX T h k t (e x) (e ix)
  | .load t x => ldX T c h k t (e x)
  | .store t x y => stX T c h k t (e x) (e y)
  | .fieldAddr t x f => faX T h k t (e x) f
  | .field t x f => fdX T h k t (e x) f
  | .extract x i => match e x with
    | .tup vs => ∃ p, vs[i]? = some p ∧ k p h
    | _ => False
  | .nilCheck x => (e x).isP = true ∧ k (e x) h
  | .box _ x => boxX M c h k o.dst (e x)
  | .alloc t => match (T t).zero with
    | some zc => (c = .wr ∧ k (.ptr (h.tok true) 0) (h.add true (zc.map ofConst.ofCell))) ∨ (c = .wrA ∧ ∃ tk, h.win tk = true ∧ k (.ptr tk 0) (h.put tk (zc.map ofConst.ofCell))) ∨ (c = .wrS ∧ k (.ptr (h.tok false) 0) (h.add false (zc.map ofConst.ofCell)))
    | none => False
  | .makeSlice t x y => mkX T c h k t (e x) (e y)
  | .slice t x lo hi mx => slX T e h k t (e x) lo hi mx
  | .build t parts => bdX T e h k t parts.toList
  | .buildSlice t len parts => bsX T M c e h k o.dst t len parts.toList
  | .makeMap t hint => mkmX T c h k t hint ∨ mkmAX T c h k o.dst t hint
  | .mapUpdate t x y v => mupX T c h k t (e x) (e y) (e v)
  | .insert t x y v => mupX T c h k t (e x) (e y) (e v) ∨ insAX T c h k t x (e x) (e y) (e v)
  | .lookup t x y cm => lkX T c h k t (e x) (e y) cm
  | .range t x => rngX T c h k t (e x)
  | .entry x => entX c h k (e x)
  | .convert s d x => ∃ vx v, e x = .sc vx ∧ (∀ w, (convert s d vx).run P w = .ok v w) ∧ k (.sc v) h
  | _ => False
theorem run_binI {P : Program} {bop : BinOp} {T : TypeId} {x y : Operand} {a b : Int} {v : Value} (w : World) (h : (binOp bop T (.int .i64 a) (.int .i64 b)).run P w = .ok v w) :
    (do eqGuard bop T x y (.int .i64 a) (.int .i64 b); binOp bop T (.int .i64 a) (.int .i64 b) : Sem Value).run P w = .ok v w := by
  have : (eqGuard bop T x y (.int .i64 a) (.int .i64 b)).run P w = .ok () w := by cases bop <;> rfl
  rw [Sem.run_bind, this]
  exact h
theorem run_binB {P : Program} {bop : BinOp} {T : TypeId} {x y : Operand} {a b : Bool} {v : Value} (w : World) (h : (binOp bop T (.bool a) (.bool b)).run P w = .ok v w) :
    (do eqGuard bop T x y (.bool a) (.bool b); binOp bop T (.bool a) (.bool b) : Sem Value).run P w = .ok v w := by
  have : (eqGuard bop T x y (.bool a) (.bool b)).run P w = .ok () w := by cases bop <;> rfl
  rw [Sem.run_bind, this]
  exact h
theorem wrap_in {z : Int} (h : in64 z) : IntKind.i64.wrap z = z := by rw [IntKind.wrap_i64]; unfold in64 at h; omega
theorem binX_sound {P : Program} {e : Operand → PV} {c : Cls} {o : Oper} {h : HP} {bop : BinOp} {t t2 : TypeId} {x y : Operand} {vx vy : Value} {k : Value → Prop} {tb : Prop} (hbool : tb → P.underlying t = some .bool)
    (ho : o.op = .binOp bop t x y t2) (hx : e x = .sc vx) (hy : e y = .sc vy) (hb : binX tb bop vx vy k) : ∃ v, D P e c o h (.sc v) h ∧ k v := by
  unfold binX at hb
  split at hb
  · rename_i a b
    have go : ∀ v, (∀ w, (binOp bop t (.int .i64 a) (.int .i64 b)).run P w = .ok v w) → D P e c o h (.sc v) h := fun v hv => D.bin ho (by rw [hx]; rfl) (by rw [hy]; rfl) (fun w => run_binI w (hv w))
    cases bop <;> simp only at hb
    case add => exact ⟨_, go _ (fun w => by simp [binOp, Op.intArith, wrap_in hb.1]), hb.2⟩
    case sub => exact ⟨_, go _ (fun w => by simp [binOp, Op.intArith, wrap_in hb.1]), hb.2⟩
    case mul => exact ⟨_, go _ (fun w => by simp [binOp, Op.intArith, wrap_in hb.1]), hb.2⟩
    case quo =>
      obtain ⟨⟨h1, h2, h3⟩, h4⟩ := hb
      refine ⟨_, go _ (fun w => ?_), h4⟩
      have hin : in64 (a.tdiv b) := by
        have := Int.natAbs_tdiv_le_natAbs a b
        unfold in64; omega
      simp [binOp, Op.intDiv, h1, wrap_in hin]
    case rem => exact ⟨_, go _ (fun w => by simp [binOp, Op.intDiv, show b ≠ 0 from hb.1]), hb.2⟩
    case eql => exact ⟨_, go _ (fun w => by simp [binOp, Op.intCmp]; by_cases h : a = b <;> simp [h]), hb⟩
    case neq => exact ⟨_, go _ (fun w => by simp [binOp, Op.intCmp]; by_cases h : a = b <;> simp [h]), hb⟩
    case lss => exact ⟨_, go _ (fun w => by simp [binOp, Op.intCmp]), hb⟩
    case leq => exact ⟨_, go _ (fun w => by simp [binOp, Op.intCmp]), hb⟩
    case gtr => exact ⟨_, go _ (fun w => by simp [binOp, Op.intCmp]), hb⟩
    case geq => exact ⟨_, go _ (fun w => by simp [binOp, Op.intCmp]), hb⟩
  · rename_i a b
    obtain ⟨htb, hb⟩ := hb
    have hu := hbool htb
    have go : ∀ v, (∀ w, (binOp bop t (.bool a) (.bool b)).run P w = .ok v w) → D P e c o h (.sc v) h := fun v hv => D.bin ho (by rw [hx]; rfl) (by rw [hy]; rfl) (fun w => run_binB w (hv w))
    cases bop <;> simp only at hb
    case eql => exact ⟨_, go _ (fun w => by simp [binOp, run_equal_bool w t a b hu]), hb⟩
    case neq => exact ⟨_, go _ (fun w => by simp [binOp, run_equal_bool w t a b hu]), hb⟩
  · exact hb.elim
theorem boundX_spec {e : Operand → PV} {x : Option Operand} {d : Int} {k : Int → Prop} (h : boundX e x d k) : ∃ z, bndI e x d z ∧ k z := by
  unfold boundX at h
  cases x with
  | none => exact ⟨d, rfl, h⟩
  | some y =>
    simp only at h
    split at h
    · rename_i kk z hz
      exact ⟨z, ⟨kk, hz⟩, h⟩
    · exact h.elim
theorem toList_one {α : Type} {a : Array α} {x : α} (h : a.toList = [x]) : a = #[x] := by cases a; simp_all
theorem toList_two {α : Type} {a : Array α} {x y : α} (h : a.toList = [x, y]) : a = #[x, y] := by cases a; simp_all
variable {P : Program} {T : TypeId → TI} {M : Hn} {c : Cls} {e : Operand → PV} {o : Oper} {h : HP} {k : PV → HP → Prop}
theorem min_sc {x y : Operand} {ats : Array TypeId} {a b : Int} (ho : o.op = .call ⟨.builtin .min, #[x, y], ats⟩) (hx : e x = .sc (.int .i64 a)) (hy : e y = .sc (.int .i64 b)) : D P e c o h (.sc (.int .i64 (if b < a then b else a))) h :=
  .bi2 ho hx hy (fun cs w => by simp [builtin, Builtin.min_, Builtin.min2])
theorem max_sc {x y : Operand} {ats : Array TypeId} {a b : Int} (ho : o.op = .call ⟨.builtin .max, #[x, y], ats⟩) (hx : e x = .sc (.int .i64 a)) (hy : e y = .sc (.int .i64 b)) : D P e c o h (.sc (.int .i64 (if a < b then b else a))) h :=
  .bi2 ho hx hy (fun cs w => by simp [builtin, Builtin.max_, Builtin.max2])
theorem biX_sound (hT : TOk P T) {b : Builtin} {xs : Array Operand} {ts : Array TypeId} (ho : o.op = .call ⟨.builtin b, xs, ts⟩) (hb : biX T c h k b (xs.toList.map e) ts.toList) : ∃ v h', D P e c o h v h' ∧ k v h' := by
  unfold biX at hb
  cases hxs : xs.toList with
  | nil => simp [hxs] at hb
  | cons x r1 =>
    cases r1 with
    | nil =>
      simp only [hxs, List.map_cons, List.map_nil] at hb
      cases hts : ts.toList with
      | nil => simp [hts] at hb
      | cons t r2 =>
        cases r2 with
        | cons _ _ => simp [hts] at hb
        | nil =>
          simp only [hts] at hb
          cases b <;> simp only at hb
          case len =>
            rw [toList_one hxs, toList_one hts] at ho
            unfold lenX at hb
            have ht := hT t
            split at hb
            · rename_i el sz bs zc hte
              rw [hte] at ht
              haveI := ht.2.2
              split at hb
              · rename_i hx; exact ⟨_, _, .lenl ho hx, hb⟩
              · rename_i hx; exact ⟨_, _, .lenr ho hx, hb⟩
              · exact hb.elim
            · rename_i z hte
              rw [hte] at ht
              haveI : MpT P t z := ht.2.2
              split at hb
              · rename_i hx
                obtain ⟨ks, k1, k2, hb⟩ := hb
                exact ⟨_, _, .lenm ho hx k1 k2, hb⟩
              · exact hb.elim
            · rename_i kk zp hte
              rw [hte] at ht
              haveI : GpT P t kk zp := ht.2.2
              rcases hb with ⟨ks, ps, hx, hb⟩ | ⟨tk, ks, ps, hc, hx, hm, hb⟩
              · exact ⟨_, _, .glen ho hx, hb⟩
              · exact ⟨_, _, .glenm hc ho hx hm, hb⟩
            · exact hb.elim
          case cap =>
            rw [toList_one hxs, toList_one hts] at ho
            unfold capX at hb
            have ht := hT t
            split at hb
            · rename_i el sz bs zc hte
              rw [hte] at ht
              haveI := ht.2.2
              split at hb
              · rename_i hx; exact ⟨_, _, .capl ho hx, hb⟩
              · exact hb.elim
            · exact hb.elim
    | cons y r2 =>
      cases r2 with
      | cons _ _ => simp [hxs] at hb
      | nil =>
        simp only [hxs, List.map_cons, List.map_nil] at hb
        rw [toList_two hxs] at ho
        cases b <;> simp only at hb
        case min =>
          unfold minX at hb
          split at hb
          · rename_i a hx
            split at hb
            · rename_i b hy; exact ⟨_, _, min_sc ho hx hy, hb⟩
            · exact hb.elim
          · exact hb.elim
        case max =>
          unfold maxX at hb
          split at hb
          · rename_i a hx
            split at hb
            · rename_i b hy; exact ⟨_, _, max_sc ho hx hy, hb⟩
            · exact hb.elim
          · exact hb.elim
        case append =>
          cases hts : ts.toList with
          | nil => simp [hts] at hb
          | cons t r3 =>
            cases r3 with
            | nil => simp [hts] at hb
            | cons t' r4 =>
              cases r4 with
              | cons _ _ => simp [hts] at hb
              | nil =>
                simp only [hts] at hb
                obtain ⟨rfl, hb⟩ := hb
                rw [toList_two hts] at ho
                unfold appX at hb
                have ht := hT t
                split at hb
                · rename_i el sz bs zc hte
                  rw [hte] at ht
                  haveI := ht.2.2
                  split at hb
                  · rename_i tk off sz' n hx
                    obtain ⟨cs, m, cs2, q1, q2, rfl, q4, q5, q6, q7, q8⟩ := hb
                    exact ⟨_, _, .apr q4 ho hx q1 q5 q2 q6 q7.1 q7.2, q8⟩
                  · rename_i cl sz' n cs hx
                    obtain ⟨m, cs2, q1, q2, q3⟩ := hb
                    by_cases hm : m = 0
                    · subst hm
                      exact ⟨_, _, .ap0 (q2 rfl).1 ho hx q1, (q2 rfl).2⟩
                    · obtain ⟨rfl, r2, r3, r4, r5⟩ := q3 hm
                      exact ⟨_, _, .apl r3 ho hx r2 q1 (by omega) r4.1 r4.2, r5⟩
                  · exact hb.elim
                · exact hb.elim
        case copy =>
          cases hts : ts.toList with
          | nil => simp [hts] at hb
          | cons t r3 =>
            cases r3 with
            | nil => simp [hts] at hb
            | cons t' r4 =>
              cases r4 with
              | cons _ _ => simp [hts] at hb
              | nil =>
                simp only [hts] at hb
                obtain ⟨rfl, hb⟩ := hb
                rw [toList_two hts] at ho
                unfold cpyX at hb
                have ht := hT t
                split at hb
                · rename_i el sz bs zc hte
                  rw [hte] at ht
                  haveI := ht.2.2
                  split at hb
                  · rename_i tk off sz' n hx
                    obtain ⟨cs, m, cs2, q1, q2, q3, rfl, q5, q6, q7, q8⟩ := hb
                    exact ⟨_, _, .cpy q5 ho hx q1 q6 q2 q3 q7, q8⟩
                  · exact hb.elim
                · exact hb.elim
theorem mvX_sound {x : Operand} (ho : o.op = .move x ∨ o.op = .assign x) (hd : k (e x) h ∨ (c = .wr ∧ match e x with
    | .mref tk => ∃ m, h.sp tk = some (.map m) ∧ k (.fmap m) (h.killS tk)
    | _ => False)) : ∃ v h', D P e c o h v h' ∧ k v h' := by
  rcases hd with hd | ⟨rfl, hd⟩
  · exact ⟨_, _, .move ho, hd⟩
  · split at hd
    · rename_i tk hx
      obtain ⟨m, q1, q2⟩ := hd
      exact ⟨_, _, .mvz ho hx q1, q2⟩
    · exact hd.elim
theorem mupX_sound (hT : TOk P T) {t : TypeId} {x y v : Operand} (ho : o.op = .mapUpdate t x y v ∨ o.op = .insert t x y v) (hd : mupX T c h k t (e x) (e y) (e v)) : ∃ v h', D P e c o h v h' ∧ k v h' := by
  unfold mupX at hd
  have ht := hT t
  split at hd
  · rename_i z hte
    rw [hte] at ht
    haveI := ht.2.2
    split at hd
    · rename_i tk hx
      split at hd
      · rename_i kk hy
        split at hd
        · rename_i vv hv
          obtain ⟨rfl, m, q1, q2⟩ := hd
          exact ⟨_, _, .mup ho hx q1 hy hv, q2⟩
        · exact hd.elim
      · exact hd.elim
    · exact hd.elim
  · rename_i kk zp hte
    rw [hte] at ht
    haveI := ht.2.2
    obtain ⟨rfl, tk, ks, ps, key, hx, hm, hy, hok, q⟩ := hd
    exact ⟨_, _, .gup ho hx hm hy hok, q⟩
  · exact hd.elim
set_option maxHeartbeats 1000000 in
theorem DX_sound (hT : TOk P T) (hd : DX P T M c e o h k) : ∃ v h', D P e c o h v h' ∧ k v h' := by
  unfold DX at hd
  split at hd
  · rename_i x ho; exact mvX_sound (.inl ho) hd
  · rename_i x ho; exact mvX_sound (.inr ho) hd
  · rename_i x y z ho
    unfold scX at hd
    split at hd
    · rename_i v hx
      split at hd
      · exact ⟨_, _, .pick ho hx, hd⟩
      · exact hd.elim
    · exact hd.elim
  · rename_i bop t x y t2 ho
    rcases hd with ⟨vx, vy, v, q1, q2, q3, q4⟩ | hd
    · exact ⟨_, _, .bin ho q1 q2 q3, q4⟩
    obtain ⟨g1, g2⟩ := hd
    by_cases hn : isNilC y = true
    · obtain rfl := isNilC_spec hn
      obtain ⟨hb, hd⟩ := g1 hn
      have ht := hT t
      split at hd
      · rename_i hte hx; rw [hte] at ht; haveI := ht.2.2
        exact ⟨_, _, .eqn hb ho hx hd.1, hd.2⟩
      · exact hd.elim
    have hd := g2 (by simpa using hn)
    unfold scX at hd
    split at hd
    · rename_i vx hx
      split at hd
      · rename_i vy hy
        obtain ⟨v, q1, q2⟩ := binX_sound (P := P) (c := c) (h := h) (fun hb => by have := hT t; rw [hb] at this; exact this.2.2) ho hx hy hd
        exact ⟨_, _, q1, q2⟩
      · exact hd.elim
    · exact hd.elim
  · rename_i uop t x ho
    unfold scX at hd
    split at hd
    · rename_i v hx
      unfold unX at hd
      split at hd
      · split at hd
        · rcases hd with hd | hd
          · exact ⟨_, _, .un ho hx (fun w => by simp [Op.unary, Op.intArith, ← Int.zero_sub, wrap_in hd.1]), hd.2⟩
          · exact ⟨_, _, .un ho hx (fun w => by simp [Op.unary, Op.intArith, ← Int.zero_sub]), hd⟩
        · exact hd.elim
      · split at hd
        · exact ⟨_, _, .un ho hx (fun w => by simp [Op.unary]), hd⟩
        · exact hd.elim
      · exact hd.elim
    · exact hd.elim
  · rename_i cc ho
    obtain ⟨callee, xs, ts⟩ := cc
    unfold callX at hd
    split at hd
    · rename_i b hb
      simp only at hb; subst hb
      exact biX_sound hT ho hd
    · rename_i y hy
      simp only at hy; subst hy
      split at hd
      · rename_i f cap hc
        obtain ⟨r, q1, q2, q3⟩ := hd
        exact ⟨_, _, .callv ho hc rfl q1 q2, q3⟩
      · exact hd.elim
    · rename_i f hf
      simp only at hf; subst hf
      rcases hd with ⟨x, rs, tk, off, cs, zs, us, ys, m1, m2, m3, m4, m5, m6, m7, m8, m9⟩ | ⟨sz, n, cs, hcc, hr, hk⟩ | ⟨r, hr, hk⟩ | ⟨r, h', rfl, hr, hk⟩
      · exact ⟨_, _, .callm m1 ho m2 m3 m4 m5 m6 m7 m8, m9⟩
      · rcases hr with ⟨h1, h2⟩ | ⟨h1, h2, h3⟩
        · exact ⟨_, _, .callo hcc ho rfl h1 h2, hk⟩
        · exact ⟨_, _, .callob hcc ho (by rw [List.map_map]; rfl) h1 h2 h3, hk⟩
      · rcases hr with ⟨h1, h2⟩ | ⟨h0, h1, h2, h3⟩
        · exact ⟨_, _, .call ho rfl h1 h2, hk⟩
        · exact ⟨_, _, .callb h0 ho (by rw [List.map_map]; rfl) h1 h2 h3, hk⟩
      · exact ⟨_, _, .callh ho rfl hr, hk⟩
    · exact hd.elim
  · rename_i f first xs ho
    split at hd
    · exact ⟨_, _, .mkf ho, hd⟩
    · exact hd.elim
  · rename_i t x ix ho
    unfold ixX at hd
    have ht := hT t
    split at hd
    · rename_i kk i hi
      split at hd
      · rename_i hx
        split at hd
        · rename_i hte; rw [hte] at ht; haveI := ht.2.2
          obtain ⟨rfl, ⟨q1, q2⟩, q3⟩ := hd
          exact ⟨_, _, .ixl ho hx hi q1 q2, q3⟩
        · exact hd.elim
      · rename_i hx
        split at hd
        · rename_i hte; rw [hte] at ht; haveI := ht.2.2
          obtain ⟨rfl, ⟨q1, q2⟩, q3⟩ := hd
          exact ⟨_, _, .ixr ho hx hi q1 q2, q3⟩
        · exact hd.elim
      · rename_i hx
        split at hd
        · rename_i hte; rw [hte] at ht; haveI := ht.2.2.1
          obtain ⟨⟨q1, q2⟩, q3⟩ := hd
          exact ⟨_, _, .ixap ho hx hi q1 q2, q3⟩
        · exact hd.elim
      · rename_i hx
        split at hd
        · rename_i hte; rw [hte] at ht; haveI := ht.2.2.1
          obtain ⟨⟨q1, q2⟩, q3⟩ := hd
          exact ⟨_, _, .ixal ho hx hi q1 q2, q3⟩
        · exact hd.elim
      · exact hd.elim
    · exact hd.elim
  · rename_i t x ho
    unfold ldX at hd
    split at hd
    · rename_i cs hx
      split at hd
      · rename_i hs; haveI := hT.shape hs
        obtain ⟨p, q1, q2⟩ := hd
        exact ⟨_, _, .ldl ho hx q1, q2⟩
      · rename_i hs; haveI := hT.shape hs
        exact ⟨_, _, .ldla ho hx hd.1, hd.2⟩
      · exact hd.elim
    · rename_i tk off hx
      obtain ⟨hc, hd⟩ := hd
      split at hd
      · rename_i hs; haveI := hT.shape hs
        obtain ⟨cs, p, q1, q2, q3⟩ := hd
        exact ⟨_, _, .ldm hc ho hx q1 q2, q3⟩
      · rename_i hs; haveI := hT.shape hs
        obtain ⟨cs, q1, q2, q3⟩ := hd
        exact ⟨_, _, .ldma hc ho hx q1 q2, q3⟩
      · exact hd.elim
    · exact hd.elim
  · rename_i t x y ho
    unfold stX at hd
    split at hd
    · rename_i tk off hx
      obtain ⟨hcc, hd⟩ := hd
      split at hd
      · rename_i hs; haveI := hT.shape hs
        obtain ⟨cs, q1, q2, q3, q4⟩ := hd
        exact ⟨_, _, .st hcc ho hx q1 q2 q3, q4⟩
      · rename_i hs; haveI := hT.shape hs
        split at hd
        · rename_i vs hy
          obtain ⟨cs, q1, q2, q3, q4, q5⟩ := hd
          exact ⟨_, _, .sta hcc ho hx q1 hy q2 q3 q4, q5⟩
        · exact hd.elim
      · exact hd.elim
    · exact hd.elim
  · rename_i t x f ho
    unfold faX at hd
    have ht := hT t
    split at hd
    · rename_i sz zc fs hte
      rw [hte] at ht
      split at hd
      · rename_i off s2 ag hf
        obtain ⟨ty, hty⟩ := ht.2.2.1 f _ hf
        haveI := hty
        split at hd
        · rename_i hx; exact ⟨_, _, .fal ho hx, hd⟩
        · rename_i hx; exact ⟨_, _, .fam ho hx, hd⟩
        · exact hd.elim
      · exact hd.elim
    · exact hd.elim
  · rename_i t x f ho
    unfold fdX at hd
    have ht := hT t
    split at hd
    · rename_i sz zc fs hte
      rw [hte] at ht
      split at hd
      · rename_i cs hx
        split at hd
        · rename_i off s2 hf
          obtain ⟨ty, hty⟩ := ht.2.2.1 f _ hf
          haveI := hty
          obtain ⟨p, q1, q2⟩ := hd
          exact ⟨_, _, .fd ho hx q1, q2⟩
        · rename_i off s2 hf
          obtain ⟨ty, hty⟩ := ht.2.2.1 f _ hf
          haveI := hty
          exact ⟨_, _, .fda ho hx hd.1, hd.2⟩
        · exact hd.elim
      · exact hd.elim
    · exact hd.elim
  · rename_i x i ho
    split at hd
    · rename_i vs hx
      obtain ⟨p, q1, q2⟩ := hd
      exact ⟨_, _, .ext ho hx q1, q2⟩
    · exact hd.elim
  · rename_i x ho
    exact ⟨_, _, .nck ho hd.1, hd.2⟩
  · rename_i t x ho
    have key : ∀ {p : PV}, e x = p → (p.one = true ∧ (inL M.mt o.dst = true → c = .wr ∧ k (.ptr (h.tok true) 0) (h.add true [p])) ∧ (inL M.mt o.dst = false → k (.lptr [p]) h)) → ∃ v h', D P e c o h v h' ∧ k v h' := by
      rintro p rfl ⟨q0, q1, q2⟩
      cases hi : inL M.mt o.dst with
      | true =>
        obtain ⟨rfl, q4⟩ := q1 hi
        exact ⟨_, _, .boxn ho q0, q4⟩
      | false => exact ⟨_, _, .boxs ho q0, q2 hi⟩
    unfold boxX at hd
    split at hd
    · rename_i cs hx
      obtain ⟨q1, q2⟩ := hd
      cases hi : inL M.mt o.dst with
      | true =>
        obtain ⟨rfl, q4⟩ := q1 hi
        exact ⟨_, _, .boxm ho hx, q4⟩
      | false => exact ⟨_, _, .boxl ho hx, q2 hi⟩
    · exact key rfl hd
  · rename_i t ho
    split at hd
    · rename_i zc hz
      haveI := hT.zero hz
      rcases hd with ⟨rfl, q⟩ | ⟨hca, tk, hw, q⟩ | ⟨hca, q⟩
      · exact ⟨_, _, .allo ho, q⟩
      · exact ⟨_, _, .alloA hca ho hw, q⟩
      · exact ⟨_, _, .alloS hca ho, q⟩
    · exact hd.elim
  · rename_i t x y ho
    unfold mkX at hd
    have ht := hT t
    split at hd
    · rename_i k1 a hx
      split at hd
      · rename_i k2 b hy
        split at hd
        · rename_i el sz bs zc hte
          rw [hte] at ht; haveI := ht.2.2
          obtain ⟨hcc, ⟨q1, q2, q3, q4⟩, q5⟩ := hd
          obtain ⟨n, rfl⟩ : ∃ n : Nat, a = n := ⟨a.toNat, by omega⟩
          obtain ⟨m, rfl⟩ : ∃ m : Nat, b = m := ⟨b.toNat, by omega⟩
          have q3' : bs * m ≤ 140737488355328 := by
            have : ((bs * m : Nat) : Int) ≤ 140737488355328 := by rw [Int.natCast_mul]; exact q3
            omega
          exact ⟨_, _, .mk hcc ho hx hy (by omega) q3' (by omega), by simpa using q5⟩
        · exact hd.elim
      · exact hd.elim
    · exact hd.elim
  · rename_i t x lo hi mx ho
    unfold slX at hd
    have ht := hT t
    split at hd
    · rename_i el sz bs zc hte
      rw [hte] at ht; haveI := ht.2.2
      split at hd
      · rename_i cl sz' n cs hx
        obtain ⟨hs, hd⟩ := hd
        cases mx with
        | none =>
          simp only at hd
          obtain ⟨zl, g1, hd⟩ := boundX_spec hd
          obtain ⟨zh, g2, hd⟩ := boundX_spec hd
          obtain ⟨⟨q1, q2, q3⟩, q4⟩ := hd
          exact ⟨_, _, .sll ho hx hs g1 g2 q1 q2 q3, q4⟩
        | some mx =>
          simp only at hd
          cases hi with
          | none => exact hd.elim
          | some hi =>
            simp only at hd
            obtain ⟨zl, g1, hd⟩ := boundX_spec hd
            obtain ⟨zh, g2, hd⟩ := boundX_spec hd
            obtain ⟨zm, g3, hd⟩ := boundX_spec hd
            obtain ⟨rfl, ⟨q1, q2, q3⟩, q4⟩ := hd
            exact ⟨_, _, .sll3 ho hx hs g1 g2 g3 q1 q2 q3, q4⟩
      · rename_i tk off sz' n hx
        cases mx with
        | some mx =>
          simp only at hd
          cases hi with
          | none => exact hd.elim
          | some hi =>
            simp only at hd
            obtain ⟨rfl, hd⟩ := hd
            obtain ⟨zl, g1, hd⟩ := boundX_spec hd
            obtain ⟨zh, g2, hd⟩ := boundX_spec hd
            obtain ⟨zm, g3, hd⟩ := boundX_spec hd
            obtain ⟨rfl, ⟨q1, q2, q3⟩, q4⟩ := hd
            exact ⟨_, _, .slr3 ho hx g1 g2 g3 q1 q2 q3, q4⟩
        | none =>
          obtain ⟨rfl, hd⟩ := hd
          obtain ⟨zl, g1, hd⟩ := boundX_spec hd
          obtain ⟨zh, g2, hd⟩ := boundX_spec hd
          obtain ⟨⟨q1, q2, q3⟩, q4⟩ := hd
          exact ⟨_, _, .slr ho hx g1 g2 q1 q2 q3, q4⟩
      · exact hd.elim
    · rename_i len el sz tot zc hte
      rw [hte] at ht; haveI := ht.2.2.1
      split at hd
      · rename_i cs hx
        split at hd
        · split at hd
          · rename_i hi
            split at hd
            · split at hd
              · rename_i kk zh hy
                obtain ⟨⟨rfl, hc⟩, ⟨q1, q2, q3⟩, q4⟩ := hd
                exact ⟨_, _, .slp ho hx hy hc q3 q1 q2, q4⟩
              · exact hd.elim
            · exact hd.elim
          · exact hd.elim
        · exact hd.elim
      · exact hd.elim
    · exact hd.elim
  · rename_i t parts ho
    unfold bdX at hd
    have ht := hT t
    split at hd
    · rename_i sz zc fs hte
      rw [hte] at ht
      haveI := ht.2.2.2
      obtain ⟨cs, q1, q2⟩ := hd
      exact ⟨_, _, .bld ho q1, q2⟩
    · rename_i len el sz tot zc hte
      rw [hte] at ht
      haveI := ht.2.2.2
      obtain ⟨cs, q1, q2⟩ := hd
      exact ⟨_, _, .bld ho q1, q2⟩
    · exact hd.elim
  · rename_i t len parts ho
    unfold bsX at hd
    have ht := hT t
    split at hd
    · rename_i el sz bs zc hte
      rw [hte] at ht; haveI := ht.2.2
      obtain ⟨q0, cs, q1, q2, q3⟩ := hd
      cases hi : inL M.mt o.dst with
      | true =>
        obtain ⟨hcc, q4⟩ := q2 hi
        exact ⟨_, _, .bslm hcc ho q0 q1, q4⟩
      | false => exact ⟨_, _, .bsl ho q0 q1, q3 hi⟩
    · exact hd.elim
  · rename_i t hint ho
    have ht := hT t
    rcases hd with hd | hd
    · unfold mkmX at hd
      split at hd
      · rename_i z hte
        rw [hte] at ht
        haveI := ht.2.2
        obtain ⟨rfl, rfl, q⟩ := hd
        exact ⟨_, _, .mkm ho, q⟩
      · rename_i kk zp hte
        rw [hte] at ht
        haveI := ht.2.2
        obtain ⟨rfl, rfl, q⟩ := hd
        exact ⟨_, _, .gmk ho, q⟩
      · exact hd.elim
    · unfold mkmAX at hd
      split at hd
      · rename_i z hte
        rw [hte] at ht
        haveI := ht.2.2
        obtain ⟨rfl, hc, tk, d, q1, q2, q3, q⟩ := hd
        exact ⟨_, _, .mkmA hc ho q1 q2 q3, q⟩
      · exact hd.elim
  · rename_i t x y v ho; exact mupX_sound hT (.inl ho) hd
  · rename_i t x y v ho
    rcases hd with hd | hd
    · exact mupX_sound hT (.inr ho) hd
    · unfold insAX at hd
      have ht := hT t
      split at hd
      · rename_i z hte
        rw [hte] at ht
        haveI := ht.2.2
        obtain ⟨hc, tk, y0, m, kk, vv, rfl, q1, q2, q3, q4, q5, q6, q⟩ := hd
        exact ⟨_, _, .insA hc ho q1 q2 q5 q3 q4 q6, q⟩
      · exact hd.elim
  · rename_i t x y cm ho
    unfold lkX at hd
    have ht := hT t
    split at hd
    · rename_i z hte
      rw [hte] at ht
      haveI := ht.2.2
      split at hd
      · rename_i kk hy
        split at hd
        · rename_i m hx
          exact ⟨_, _, .mlk ho hx hy, hd⟩
        · rename_i tk hx
          obtain ⟨q0, m, q1, q2⟩ := hd
          exact ⟨_, _, .mlkm q0 ho hx q1 hy, q2⟩
        · exact hd.elim
      · exact hd.elim
    · rename_i kk zp hte
      rw [hte] at ht
      haveI := ht.2.2
      rcases hd with ⟨ks, ps, key, hx, hy, hok, hd⟩ | ⟨tk, ks, ps, key, hc, hx, hm, hy, hok, hd⟩
      · exact ⟨_, _, .glk ho hx hy hok, hd⟩
      · exact ⟨_, _, .glkm hc ho hx hm hy hok, hd⟩
    · exact hd.elim
  · rename_i t x ho
    unfold rngX at hd
    have ht := hT t
    split at hd
    · rename_i z hte
      rw [hte] at ht
      haveI := ht.2.2
      split at hd
      · rename_i m hx
        obtain ⟨rfl, q⟩ := hd
        exact ⟨_, _, .rng ho hx, q⟩
      · exact hd.elim
    · rename_i kk zp hte
      rw [hte] at ht
      haveI := ht.2.2
      obtain ⟨rfl, ks, ps, hx, q⟩ := hd
      exact ⟨_, _, .grng ho hx, q⟩
    · exact hd.elim
  · rename_i x ho
    unfold entX at hd
    split at hd
    · rename_i tk hx
      rcases hd with ⟨q0, ⟨m, pre, kk, v, q1, q2⟩ | ⟨kk, ks, ps, pre, i, q1, q2, q3⟩⟩
      · exact ⟨_, _, .ent q0 ho hx q1, q2⟩
      · exact ⟨_, _, .gent q0 ho hx q1 q2, q3⟩
    · exact hd.elim
  · rename_i s d x ho
    obtain ⟨vx, v, q1, q2, q3⟩ := hd
    exact ⟨_, _, .conv ho q1 q2, q3⟩
  · exact hd.elim
end Go.Proofs.YtkmkcbkfakoomaaDoor
