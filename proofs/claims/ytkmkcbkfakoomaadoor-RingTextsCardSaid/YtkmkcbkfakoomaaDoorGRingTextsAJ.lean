/- Facts and contracts that the claim uses. No condition of its own. -/
import Derived.Test.YtkmkcbkfakoomaaDoorGRingTextsAI
set_option linter.unusedVariables false
set_option linter.unusedSimpArgs false
namespace Go.Proofs.YtkmkcbkfakoomaaDoor
open Go.RowKit
inductive Cls where | pure | read | readB | wrS | wr | wrA | readL | wrO | wrM | wrQ
  deriving DecidableEq
def Cls.lkp : Cls → Bool
  | .pure | .readL | .wrM | .wrQ => false
  | _ => true
def isAggD : TypeDesc → Bool
  | .struct _ | .array _ _ => true
  | _ => false
class ElT (P : Program) (t : TypeId) (ag : outParam Bool) (sz : outParam Nat) : Prop where
  und : ∃ d, P.underlying t = some d ∧ isAggD d = ag
  info : ∃ i, P.info? t = some i ∧ i.size = sz
class ZrT (P : Program) (t : TypeId) (zc : outParam (List Value)) : Prop where
  info : ∃ i z, P.info? t = some i ∧ i.zero = some z ∧ z.cells.toList = zc
class SlT (P : Program) (t : TypeId) (el sz bs : outParam Nat) (zc : outParam (List Value)) : Prop where
  und : P.underlying t = some (.slice el)
  info : ∃ i z, P.info? el = some i ∧ i.size = sz ∧ i.bytes = bs ∧ i.zero = some z ∧ z.cells.toList = zc
  zlen : zc.length = sz
  pos : 0 < sz
class ArT (P : Program) (t : TypeId) (len el sz : outParam Nat) : Prop where
  und : P.underlying t = some (.array len el)
  info : ∃ i, P.info? el = some i ∧ i.size = sz
class FdT (P : Program) (t : TypeId) (f : Nat) (off ty sz : outParam Nat) (ag : outParam Bool) : Prop where
  und : ∃ fs, P.underlying t = some (.struct fs) ∧ ∃ fd, fs[f]? = some fd ∧ fd.offset = off ∧ fd.type = ty
  el : ElT P ty ag sz
  pos : 0 < sz
class MpT (P : Program) (t : TypeId) (z : outParam Value) : Prop where
  und : ∃ kt el q, P.underlying t = some (.map kt el) ∧ P.underlying kt = some (.int q) ∧ ∃ i, P.info? el = some i ∧ i.zero = some z
def kpv : KT → List Int → PV
  | .int, k => .sc (.int .i64 (k.headD 0))
  | .arr _, k => .agg (k.map fun x => .sc (.int .i64 x))
  | .str, k => .sc (.string (bytesOf k))
class GpT (P : Program) (t : TypeId) (kk : outParam KT) (zp : outParam PV) : Prop where
  und : ∃ kt el, P.underlying t = some (.map kt el) ∧ KTy P kt kk ∧ ∃ i z, P.info? el = some i ∧ i.zero = some z ∧ ofConst z = zp
def lkG (cm : Bool) (ks : List (List Int)) (ps : List PV) (zp : PV) (key : List Int) : PV := if cm then .tup [getP ks ps key zp, .sc (.bool (decide (key ∈ ks)))] else getP ks ps key zp
def PV.one : PV → Bool
  | .sc v => v.oneCell'
  | .junk | .agg _ | .tup _ => false
  | _ => true
theorem V.one {ρ : Pl} {Z : Nat → Prop} {w : World} {pv : PV} {v : Value} (h : V ρ Z w pv v) (ho : pv.one = true) : v.oneCell' = true := by
  cases h <;> simp_all [PV.one, Value.oneCell']
def PV.bare : PV → Bool
  | .sc _ | .junk => true
  | _ => false
def PV.flat : PV → Bool
  | .sc _ | .junk => true
  | .tup vs => vs.all PV.bare
  | .agg vs => vs.all PV.bare
  | _ => false
def PV.cl : PV → Bool
  | .ref .. | .ptr .. | .mref .. | .itr .. => false
  | .lst _ _ _ cs => clL cs
  | .lptr cs => clL cs
  | .agg cs => clL cs
  | .tup cs => clL cs
  | .clo _ cs => clL cs
  | .gfm _ _ cs => clL cs
  | .junk | .sc _ | .anyB | .fmap _ | .obj .. | .siz _ => true
where clL : List PV → Bool
  | [] => true
  | c :: cs => PV.cl c && clL cs
def Callable (P : Program) (f : FuncId) : Prop := ∃ fn, P.funcs[f]? = some fn ∧ (fn.name == "runtime.NumGoroutine") = false ∧ fn.body.isNone = false
def SC (P : Program) (f : FuncId) (args : List PV) (r : PV) : Prop :=
  Callable P f ∧ ∀ (Z : Nat → Prop) (w : World) (vs : Array Value), (∀ b, Z b → b < w.heap.size) → vs.size = args.length →
    (∀ i, i < args.length → V (fun _ => none) Z w (args.getD i .junk) (vs.getD i undef)) →
    Calls P f vs w fun e w' => ∃ u, e = .returned u ∧ V (fun _ => none) Z w' r u ∧ Below w.heap.size w w'
def SCo (P : Program) (f : FuncId) (args : List PV) (sz n : Nat) (cs : List PV) : Prop :=
  Callable P f ∧ ∀ (Z : Nat → Prop) (w : World) (vs : Array Value), (∀ b, Z b → b < w.heap.size) → vs.size = args.length →
    (∀ i, i < args.length → V (fun _ => none) Z w (args.getD i .junk) (vs.getD i undef)) →
    Calls P f vs w fun e w' => ∃ A cap, e = .returned (.slice A n cap) ∧ n ≤ cap ∧ cap ≤ maxLen ∧ Below w.heap.size w w' ∧ (cap = 0 → cs = []) ∧
      (cap ≠ 0 → ∃ (b o : Nat) (arr : Array Value) (T : TypeId), A = some ⟨b, o, none⟩ ∧ w.heap.size ≤ b ∧ w'.heap[b]? = some (.cells arr T (0, 0)) ∧ o + cap * sz ≤ arr.size ∧ o + cs.length ≤ arr.size ∧
        ∀ i, i < cs.length → V (fun _ => none) (fun k => Z k ∨ k = b) w' (cs.getD i .junk) (arr.getD (o + i) undef))
def SCm (P : Program) (f : FuncId) (zs : List Int) (us : List Value) (ys : List Int) : Prop :=
  Callable P f ∧ ∀ (w : World) (b k cap : Nat) (arr : Array Value) (T : TypeId), w.heap[b]? = some (.cells arr T (0, 0)) → k + cap ≤ arr.size → zs.length ≤ cap → cap ≤ maxLen →
    (∀ i, i < zs.length → arr.getD (k + i) undef = .int .i64 (zs.getD i 0)) →
    Calls P f (.slice (some ⟨b, k, none⟩) zs.length cap :: us).toArray w fun e w' => e = .returned (.slice (some ⟨b, k, none⟩) ys.length cap) ∧ ys.length ≤ cap ∧
      ∃ arr' : Array Value, arr'.size = arr.size ∧ Below (w.setRow b arr').heap.size (w.setRow b arr') w' ∧ ∀ i, i < ys.length → arr'.getD (k + i) undef = .int .i64 (ys.getD i 0)
def SCh (P : Program) (f : FuncId) (args : List PV) (h : HP) (r : PV) (h' : HP) : Prop :=
  Callable P f ∧ ∀ (w0 : World) (Z0 : Nat → Prop) (ρ : Pl) (w : World) (vs : Array Value), HRel w0 Z0 ρ h w → vs.size = args.length →
    (∀ i, i < args.length → V ρ (Zof Z0 ρ h) w (args.getD i .junk) (vs.getD i undef)) →
    Calls P f vs w fun e w' => ∃ u ρ', e = .returned u ∧ HRel w0 Z0 ρ' h' w' ∧ V ρ' (Zof Z0 ρ' h') w' r u ∧ ∀ pv x, V ρ (Zof Z0 ρ h) w pv x → V ρ' (Zof Z0 ρ' h') w' pv x
def bw (h : HP) : PV → PV
  | .ref t off sz n => match h.blk t with
    | some cs => if off + n * sz ≤ cs.length then .lst false sz n ((cs.drop off).take (n * sz)) else .junk
    | none => .junk
  | .mref t => match h.sp t with
    | some (.map m) => .fmap m
    | _ => .junk
  | p => p
def bndI (e : Operand → PV) (x : Option Operand) (dflt z : Int) : Prop :=
  match x with
  | none => z = dflt
  | some y => ∃ k, e y = .sc (.int k z)
def PV.cells : PV → List PV
  | .agg cs => cs
  | p => [p]
def PV.okp : PV → Bool
  | .junk | .tup _ => false
  | .sc v => v.oneCell'
  | _ => true
def setsA (cells : List PV) (off : Nat) : List PV → List PV
  | [] => cells
  | c :: cs => setsA (cells.set off c) (off + 1) cs
def fillA (place : Nat → Option (Nat × Nat)) : List PV → List (Nat × PV) → Option (List PV)
  | cells, [] => some cells
  | cells, (i, p) :: rest =>
    match place i with
    | none => none
    | some (off, size) => if p.okp && Nat.beq p.cells.length size && Nat.ble (off + size) cells.length then fillA place (setsA cells off p.cells) rest else none
class BdT (P : Program) (t : TypeId) (zc : outParam (List Value)) (pl : outParam (List (Nat × Nat))) : Prop where
  zero : ∃ i z, P.info? t = some i ∧ i.zero = some z ∧ z.cells.toList = zc
  und : (∃ fs, P.underlying t = some (.struct fs) ∧ fs.toList.map (·.offset) = pl.map (·.1) ∧ fs.toList.map (fun f => (P.info? f.type).map (·.size)) = pl.map (fun x => some x.2)) ∨
    ∃ len el sz, P.underlying t = some (.array len el) ∧ (∃ i, P.info? el = some i ∧ i.size = sz) ∧ pl = (List.range len).map fun i => (i * sz, sz)
def srcA (h : HP) (p : PV) (sz m : Nat) (cs : List PV) : Prop :=
  match p with
  | .lst _ sz' m' cs' => m' = m ∧ cs' = cs ∧ (m = 0 ∨ sz' = sz)
  | .ref tk off sz' m' => m' = m ∧ sz' = sz ∧ ∃ c, h.blk tk = some c ∧ off + m * sz ≤ c.length ∧ cs = (c.drop off).take (m * sz)
  | _ => False
def isNeq : BinOp → Bool
  | .neq => true
  | _ => false
def flvs : List PV → Option (List Value)
  | [] => some []
  | .sc v :: l => (flvs l).map (v :: ·)
  | _ => none
def flv : PV → Option Value
  | .sc v => some v
  | .agg cs => (flvs cs).map fun l => .agg l.toArray
  | _ => none
def cutA (q : Nat) : PV → PV
  | .lst _ sz _ cs => .lst false sz q (cs.take (q * sz))
  | .ref tk off sz _ => .ref tk off sz q
  | p => p
def lenA : PV → Option Nat
  | .lst _ _ n _ => some n
  | .ref _ _ _ n => some n
  | _ => none
def lkR (cm : Bool) (m : MF) (z : Value) (k : Int) : PV := if cm then .tup [.sc ((m k).getD z), .sc (.bool (m k).isSome)] else .sc ((m k).getD z)
def PV.isP : PV → Bool
  | .ptr .. | .lptr _ => true
  | _ => false
inductive D (P : Program) (e : Operand → PV) : Cls → Oper → HP → PV → HP → Prop
  | move {c o h x} (ho : o.op = .move x ∨ o.op = .assign x) : D P e c o h (e x) h
  | bin {c o h bop T x y T2 vx vy v} (ho : o.op = .binOp bop T x y T2) (hx : flv (e x) = some vx) (hy : flv (e y) = some vy)
      (hr : ∀ w, (do eqGuard bop T x y vx vy; binOp bop T vx vy : Sem Value).run P w = .ok v w) : D P e c o h (.sc v) h
  | eqn {c o h bop t x t2 cl sz' sz n cs el bs zc} [SlT P t el sz bs zc] (hb : bop = .eql ∨ bop = .neq) (ho : o.op = .binOp bop t x (.const (.slice none 0 0)) t2) (hx : e x = .lst cl sz' n cs) (hs : sz' = sz ∨ n = 0) :
      D P e c o h (if n = 0 then .anyB else .sc (.bool (isNeq bop))) h
  | capl {c o h x t sz n cs el sz' bs zc} [SlT P t el sz' bs zc] (ho : o.op = .call ⟨.builtin .cap, #[x], #[t]⟩) (hx : e x = .lst true sz n cs) : D P e c o h (.sc (.int .i64 n)) h
  | callv {c o h y f cap xs ats args r} (ho : o.op = .call ⟨.value y, xs, ats⟩) (hy : e y = .clo f cap) (ha : xs.toList.map e ++ cap = args) (hcl : PV.cl.clL args = true) (hs : SC P f args r) : D P e c o h r h
  | mkf {c o h f xs} (ho : o.op = .makeFunc (.func f) #[] xs) : D P e c o h (.clo f (xs.toList.map e)) h
  | pick {c o h x y z b} (ho : o.op = .pick x y z) (hx : e x = .sc (.bool b)) : D P e c o h (if b then e y else e z) h
  | un {c o h uop T x vx v} (ho : o.op = .unOp uop T x) (hx : e x = .sc vx) (hr : ∀ w, (Op.unary uop vx).run P w = .ok v w) : D P e c o h (.sc v) h
  | conv {c o h s d x vx v} (ho : o.op = .convert s d x) (hx : e x = .sc vx) (hr : ∀ w, (convert s d vx).run P w = .ok v w) : D P e c o h (.sc v) h
  | bi2 {c o h b x y ats vx vy v} (ho : o.op = .call ⟨.builtin b, #[x, y], ats⟩) (hx : e x = .sc vx) (hy : e y = .sc vy)
      (hr : ∀ cs w, (builtin b ats o.type cs #[vx, vy]).run P w = .ok (.value v) w) : D P e c o h (.sc v) h
  | bi1 {c o h b x ats vx v} (ho : o.op = .call ⟨.builtin b, #[x], ats⟩) (hx : e x = .sc vx)
      (hr : ∀ cs w, (builtin b ats o.type cs #[vx]).run P w = .ok (.value v) w) : D P e c o h (.sc v) h
  | index {c o h t x ix vx vi v} (ho : o.op = .index t x ix) (hx : e x = .sc vx) (hi : e ix = .sc vi) (hr : ∀ w, (Instr.index t vx vi).run P w = .ok v w) : D P e c o h (.sc v) h
  | slstr {c o h t x lo hi mx vx vl vh v} (ho : o.op = .slice t x lo hi mx) (hx : e x = .sc vx) (hl : lo.map e = vl.map PV.sc) (hh : hi.map e = vh.map PV.sc) (hm : mx = none)
      (hr : ∀ w, (Instr.sliceAt t vx vl vh none).run P w = .ok v w) : D P e c o h (.sc v) h
  | lenl {c o h x t cl sz n cs el sz' bs zc} [SlT P t el sz' bs zc] (ho : o.op = .call ⟨.builtin .len, #[x], #[t]⟩) (hx : e x = .lst cl sz n cs) : D P e c o h (.sc (.int .i64 n)) h
  | lenr {c o h x t tk off sz n el sz' bs zc} [SlT P t el sz' bs zc] (ho : o.op = .call ⟨.builtin .len, #[x], #[t]⟩) (hx : e x = .ref tk off sz n) : D P e c o h (.sc (.int .i64 n)) h
  | ixl {c o h t x ix cl sz n cs k i el bs zc} [SlT P t el sz bs zc] (ho : o.op = .indexAddr t x ix) (hx : e x = .lst cl sz n cs) (hi : e ix = .sc (.int k i)) (h0 : 0 ≤ i) (h1 : i < n) :
      D P e c o h (.lptr (cs.drop (i.toNat * sz))) h
  | ixr {c o h t x ix tk off sz n k i el bs zc} [SlT P t el sz bs zc] (ho : o.op = .indexAddr t x ix) (hx : e x = .ref tk off sz n) (hi : e ix = .sc (.int k i)) (h0 : 0 ≤ i) (h1 : i < n) :
      D P e c o h (.ptr tk (off + i.toNat * sz)) h
  | ixap {c o h t x ix tk off len el sz k i} [ArT P t len el sz] (ho : o.op = .indexAddr t x ix) (hx : e x = .ptr tk off) (hi : e ix = .sc (.int k i)) (h0 : 0 ≤ i) (h1 : i < len) :
      D P e c o h (.ptr tk (off + i.toNat * sz)) h
  | ixal {c o h t x ix cs len el sz k i} [ArT P t len el sz] (ho : o.op = .indexAddr t x ix) (hx : e x = .lptr cs) (hi : e ix = .sc (.int k i)) (h0 : 0 ≤ i) (h1 : i < len) :
      D P e c o h (.lptr (cs.drop (i.toNat * sz))) h
  | slp {c o h t x hi cs len el k zh} [ArT P t len el 1] (ho : o.op = .slice t x none (some hi) none) (hx : e x = .lptr cs) (hi : e hi = .sc (.int k zh)) (hc : cs.length = len) (hm : len ≤ 1000000) (h0 : 0 ≤ zh) (h1 : zh ≤ len) :
      D P e c o h (.lst false 1 zh.toNat (cs.take zh.toNat)) h
  | ldl {c o h t x p cs} [ElT P t false 1] (ho : o.op = .load t x) (hx : e x = .lptr cs) (hp : cs[0]? = some p) : D P e c o h p h
  | ldla {c o h t x cs sz} [ElT P t true sz] (ho : o.op = .load t x) (hx : e x = .lptr cs) (hp : sz ≤ cs.length) : D P e c o h (.agg (cs.take sz)) h
  | ldm {c o h t x tk off cs p} [ElT P t false 1] (hc : c = .read ∨ c = .wrS ∨ c = .wr ∨ c = .readB ∧ tk % 2 = 1 ∨ c = .readL ∧ tk % 2 = 0) (ho : o.op = .load t x) (hx : e x = .ptr tk off) (hb : h.blk tk = some cs) (hp : cs[off]? = some p) : D P e c o h p h
  | ldma {c o h t x tk off cs sz} [ElT P t true sz] (hc : c = .read ∨ c = .wrS ∨ c = .wr ∨ c = .readB ∧ tk % 2 = 1 ∨ c = .readL ∧ tk % 2 = 0) (ho : o.op = .load t x) (hx : e x = .ptr tk off) (hb : h.blk tk = some cs) (hp : off + sz ≤ cs.length) :
      D P e c o h (.agg ((cs.drop off).take sz)) h
  | st {c o h t x y tk off cs} [ElT P t false 1] (hc : c = .wr ∨ c = .wrS ∧ tk % 2 = 0 ∨ c = .wrO ∧ tk % 2 = 1 ∨ c = .wrQ) (ho : o.op = .store t x y) (hx : e x = .ptr tk off) (hb : h.blk tk = some cs) (hp : off < cs.length) (hy : (e y).one = true) :
      D P e c o h .junk (h.set tk (cs.set off (e y)))
  | sta {c o h t x y tk off cs vs sz} [ElT P t true sz] (hc : c = .wr ∨ c = .wrS ∧ tk % 2 = 0 ∨ c = .wrO ∧ tk % 2 = 1 ∨ c = .wrQ) (ho : o.op = .store t x y) (hx : e x = .ptr tk off) (hb : h.blk tk = some cs) (hy : e y = .agg vs) (hl : vs.length = sz)
      (hp : off + sz ≤ cs.length) (h1 : ∀ p ∈ vs, p.one = true) : D P e c o h .junk (h.set tk (cs.take off ++ vs ++ cs.drop (off + sz)))
  | fal {c o h t x f off ty sz ag cs} [FdT P t f off ty sz ag] (ho : o.op = .fieldAddr t x f) (hx : e x = .lptr cs) : D P e c o h (.lptr (cs.drop off)) h
  | fam {c o h t x f off ty sz ag tk k} [FdT P t f off ty sz ag] (ho : o.op = .fieldAddr t x f) (hx : e x = .ptr tk k) : D P e c o h (.ptr tk (k + off)) h
  | fd {c o h t x f off ty sz cs p} [FdT P t f off ty sz false] (ho : o.op = .field t x f) (hx : e x = .agg cs) (hp : cs[off]? = some p) : D P e c o h p h
  | fda {c o h t x f off ty sz cs} [FdT P t f off ty sz true] (ho : o.op = .field t x f) (hx : e x = .agg cs) (hp : off + sz ≤ cs.length) : D P e c o h (.agg ((cs.drop off).take sz)) h
  | nck {c o h x} (ho : o.op = .nilCheck x) (hx : (e x).isP = true) : D P e c o h (e x) h
  | ext {c o h x i vs p} (ho : o.op = .extract x i) (hx : e x = .tup vs) (hp : vs[i]? = some p) : D P e c o h p h
  | boxl {c o h t x cs} (ho : o.op = .box t x) (hx : e x = .agg cs) : D P e c o h (.lptr cs) h
  | boxs {c o h t x} (ho : o.op = .box t x) (hx : (e x).one = true) : D P e c o h (.lptr [e x]) h
  | boxm {o h t x cs} (ho : o.op = .box t x) (hx : e x = .agg cs) : D P e .wr o h (.ptr (h.tok true) 0) (h.add true cs)
  | boxn {o h t x} (ho : o.op = .box t x) (hx : (e x).one = true) : D P e .wr o h (.ptr (h.tok true) 0) (h.add true [e x])
  | allo {o h t zc} [ZrT P t zc] (ho : o.op = .alloc t) : D P e .wr o h (.ptr (h.tok true) 0) (h.add true (zc.map ofConst.ofCell))
  | alloS {c o h t zc} [ZrT P t zc] (hc : c = .wrS) (ho : o.op = .alloc t) : D P e c o h (.ptr (h.tok false) 0) (h.add false (zc.map ofConst.ofCell))
  | alloA {c o h t zc tk} [ZrT P t zc] (hc : c = .wrA) (ho : o.op = .alloc t) (hw : h.win tk = true) : D P e c o h (.ptr tk 0) (h.put tk (zc.map ofConst.ofCell))
  | mk {c o h t x y k1 k2 el sz bs zc} {n m : Nat} [SlT P t el sz bs zc] (hc : c = .wr ∨ c = .wrS) (ho : o.op = .makeSlice t x y) (hx : e x = .sc (.int k1 n)) (hy : e y = .sc (.int k2 m)) (hnm : n ≤ m) (hm : bs * m ≤ 140737488355328) (hm2 : m ≤ 140737488355328) :
      D P e c o h (.ref (h.tok false) 0 sz n) (h.add false ((List.replicate n (zc.map ofConst.ofCell)).flatten))
  | sll {c o h t x lo hi cl sz' sz n cs zl zh el bs zc} [SlT P t el sz bs zc] (ho : o.op = .slice t x lo hi none) (hx : e x = .lst cl sz' n cs) (hs : sz' = sz ∨ n = 0) (hl : bndI e lo 0 zl) (hh : bndI e hi n zh)
      (h0 : 0 ≤ zl) (h1 : zl ≤ zh) (h2 : zh ≤ n) : D P e c o h (.lst (cl && hi.isNone) sz (zh.toNat - zl.toNat) ((cs.drop (zl.toNat * sz)).take ((zh.toNat - zl.toNat) * sz))) h
  | sll3 {c o h t x lo hi mx cl sz' sz n cs zl zh el bs zc} [SlT P t el sz bs zc] (ho : o.op = .slice t x lo (some hi) (some mx)) (hx : e x = .lst cl sz' n cs) (hs : sz' = sz ∨ n = 0) (hl : bndI e lo 0 zl)
      (hh : bndI e (some hi) n zh) (hm : bndI e (some mx) n zh) (h0 : 0 ≤ zl) (h1 : zl ≤ zh) (h2 : zh ≤ n) :
      D P e c o h (.lst true sz (zh.toNat - zl.toNat) ((cs.drop (zl.toNat * sz)).take ((zh.toNat - zl.toNat) * sz))) h
  | slr {c o h t x lo hi tk off sz n zl zh el bs zc} [SlT P t el sz bs zc] (ho : o.op = .slice t x lo hi none) (hx : e x = .ref tk off sz n) (hl : bndI e lo 0 zl) (hh : bndI e hi n zh)
      (h0 : 0 ≤ zl) (h1 : zl ≤ zh) (h2 : zh ≤ n) : D P e c o h (.ref tk (off + zl.toNat * sz) sz (zh.toNat - zl.toNat)) h
  | slr3 {c o h t x lo hi mx tk off sz n zl zh el bs zc} [SlT P t el sz bs zc] (ho : o.op = .slice t x lo (some hi) (some mx)) (hx : e x = .ref tk off sz n) (hl : bndI e lo 0 zl)
      (hh : bndI e (some hi) n zh) (hm : bndI e (some mx) n zh) (h0 : 0 ≤ zl) (h1 : zl ≤ zh) (h2 : zh ≤ n) : D P e c o h (.ref tk (off + zl.toNat * sz) sz (zh.toNat - zl.toNat)) h
  | apr {c o h t x y tk off sz n cs m cs2 el bs zc} [SlT P t el sz bs zc] (hc : c = .wr ∨ c = .wrS ∧ tk % 2 = 0) (ho : o.op = .call ⟨.builtin .append, #[x, y], #[t, t]⟩) (hx : e x = .ref tk off sz n) (hb : h.blk tk = some cs) (hle : off + n * sz ≤ cs.length)
      (hy : srcA h (e y) sz m cs2) (h1 : ∀ p ∈ cs2, p.one = true) (hb1 : (n + m) * bs ≤ 140737488355328) (hb2 : n + m ≤ 140737488355328) :
      D P e c o h (.ref (h.tok false) 0 sz (n + m)) ((h.kill tk).add false ((cs.drop off).take (n * sz) ++ cs2))
  | apl {c o h t x y sz' sz n cs m cs2 el bs zc} [SlT P t el sz bs zc] (hc : c = .wr ∨ c = .wrS) (ho : o.op = .call ⟨.builtin .append, #[x, y], #[t, t]⟩) (hx : e x = .lst true sz' n cs) (hs : sz' = sz ∨ n = 0)
      (hy : srcA h (e y) sz m cs2) (hm : 0 < m) (hb1 : (n + m) * bs ≤ 140737488355328) (hb2 : n + m ≤ 140737488355328) :
      D P e c o h (.ref (h.tok false) 0 sz (n + m)) (h.add false (cs ++ cs2))
  | ap0 {c o h t x y cl sz' sz n cs cs2 el bs zc} [SlT P t el sz bs zc] (hc : c = .read ∨ c = .wrS ∨ c = .wr) (ho : o.op = .call ⟨.builtin .append, #[x, y], #[t, t]⟩) (hx : e x = .lst cl sz' n cs) (hy : srcA h (e y) sz 0 cs2) :
      D P e c o h (.lst cl sz' n cs) h
  | bld {c o h t parts zc pl cs} [BdT P t zc pl] (ho : o.op = .build t parts) (hf : fillA (fun i => pl[i]?) (zc.map ofConst.ofCell) (parts.toList.map fun x => (x.1, e x.2)) = some cs) : D P e c o h (.agg cs) h
  | bsl {c o h t len parts el sz bs zc cs} [SlT P t el sz bs zc] (ho : o.op = .buildSlice t len parts) (hb : len * sz ≤ 16777216)
      (hf : fillA (fun i => some (i * sz, sz)) ((List.replicate len (zc.map ofConst.ofCell)).flatten) (parts.toList.map fun x => (x.1, e x.2)) = some cs) : D P e c o h (.lst true sz len cs) h
  | bslm {c o h t len parts el sz bs zc cs} [SlT P t el sz bs zc] (hc : c = .wr ∨ c = .wrS) (ho : o.op = .buildSlice t len parts) (hb : len * sz ≤ 16777216)
      (hf : fillA (fun i => some (i * sz, sz)) ((List.replicate len (zc.map ofConst.ofCell)).flatten) (parts.toList.map fun x => (x.1, e x.2)) = some cs) : D P e c o h (.ref (h.tok false) 0 sz len) (h.add false cs)
  | call {c o h f xs ats args r} (ho : o.op = .call ⟨.value (.func f), xs, ats⟩) (ha : xs.toList.map e = args) (hcl : PV.cl.clL args = true) (hs : SC P f args r) : D P e c o h r h
  | callo {c o h f xs ats args sz n cs} (hc : c = .wr ∨ c = .wrS) (ho : o.op = .call ⟨.value (.func f), xs, ats⟩) (ha : xs.toList.map e = args) (hcl : PV.cl.clL args = true) (hs : SCo P f args sz n cs) : D P e c o h (.ref (h.tok false) 0 sz n) (h.add false cs)
  | callob {c o h f xs ats args sz n cs} (hc : c = .wr ∨ c = .wrS) (ho : o.op = .call ⟨.value (.func f), xs, ats⟩) (ha : xs.toList.map (fun x => bw h (e x)) = args) (hcl : PV.cl.clL args = true) (hs : SCo P f args sz n cs) (hf : cs.all PV.bare = true) : D P e c o h (.ref (h.tok false) 0 sz n) (h.add false cs)
  | callm {c o h f x rs xs ats tk off cs zs us ys} (hc : c = .wr ∨ c = .wrS ∧ tk % 2 = 0) (ho : o.op = .call ⟨.value (.func f), xs, ats⟩) (hxs : xs.toList = x :: rs) (hx : e x = .ref tk off 1 zs.length) (hb : h.blk tk = some cs) (hz : (cs.drop off).take zs.length = zs.map (fun z => .sc (.int .i64 z))) (hn : 0 < zs.length) (hr : rs.map e = us.map .sc) (hs : SCm P f zs us ys) :
      D P e c o h (.ref tk off 1 ys.length) (h.set tk (List.replicate off .junk ++ ys.map fun y => .sc (.int .i64 y)))
  | callb {c o h f xs ats args r} (hc : c = .read ∨ c = .wrS ∨ c = .wr) (ho : o.op = .call ⟨.value (.func f), xs, ats⟩) (ha : xs.toList.map (fun x => bw h (e x)) = args) (hcl : PV.cl.clL args = true) (hs : SC P f args r) (hf : r.flat = true) : D P e c o h r h
  | callh {o h f xs ats args r h'} (ho : o.op = .call ⟨.value (.func f), xs, ats⟩) (ha : xs.toList.map e = args) (hs : SCh P f args h r h') : D P e .wr o h r h'
  | mkm {o h t z} [MpT P t z] (ho : o.op = .makeMap t none) : D P e .wr o h (.mref (h.tok true)) (h.addS true (.map fun _ => none))
  | mup {o h t x k v tk m kk vv z} [MpT P t z] (ho : o.op = .mapUpdate t x k v ∨ o.op = .insert t x k v) (hx : e x = .mref tk) (hm : h.sp tk = some (.map m)) (hk : e k = .sc (.int .i64 kk)) (hv : e v = .sc vv) :
      D P e .wr o h .junk (h.setS tk (.map fun y => if y = kk then some vv else m y))
  | mkmA {c o h t z tk d} [MpT P t z] (hc : c = .wrM) (ho : o.op = .makeMap t none) (hd : o.dst = some d) (ht : tk % 1024 = d) (hw : h.win tk = true) : D P e c o h (.mref tk) (h.putS tk (.map fun _ => none))
  | insA {c o h t y k v tk m kk vv z} [MpT P t z] (hc : c = .wrM) (ho : o.op = .insert t (.tmp y) k v) (hx : e (.tmp y) = .mref tk) (ht : tk % 1024 = y) (hm : h.sp tk = some (.map m)) (hk : e k = .sc (.int .i64 kk)) (hv : e v = .sc vv) (hn : m kk = none) :
      D P e c o h .junk (h.setS tk (.map fun y => if y = kk then some vv else m y))
  | mvz {o h x tk m} (ho : o.op = .move x ∨ o.op = .assign x) (hx : e x = .mref tk) (hm : h.sp tk = some (.map m)) : D P e .wr o h (.fmap m) (h.killS tk)
  | lenm {c o h x t m z} {ks : List Int} [MpT P t z] (ho : o.op = .call ⟨.builtin .len, #[x], #[t]⟩) (hx : e x = .fmap m) (hn : ks.Nodup) (hm : ∀ k : Int, k ∈ ks ↔ m k ≠ none) : D P e c o h (.sc (.int .i64 (ks.length : Nat))) h
  | mlk {c o h t x k cm m kk z} [MpT P t z] (ho : o.op = .lookup t x k cm) (hx : e x = .fmap m) (hk : e k = .sc (.int .i64 kk)) : D P e c o h (lkR cm m z kk) h
  | mlkm {c o h t x k cm tk m kk z} [MpT P t z] (hc : c.lkp = true) (ho : o.op = .lookup t x k cm) (hx : e x = .mref tk) (hm : h.sp tk = some (.map m)) (hk : e k = .sc (.int .i64 kk)) : D P e c o h (lkR cm m z kk) h
  | rng {o h t x m z} [MpT P t z] (ho : o.op = .range t x) (hx : e x = .fmap m) : D P e .wr o h (.itr (h.tok true)) (h.addS true (.iter m []))
  | ent {c o h x tk m pre k v} (hc : c.lkp = true) (ho : o.op = .entry x) (hx : e x = .itr tk) (hs : h.sp tk = some (.iter m (pre ++ [(k, v)]))) : D P e c o h (.tup [.sc (.int .i64 k), .sc v]) h
  | gmk {o h t kk zp} [GpT P t kk zp] (ho : o.op = .makeMap t none) : D P e .wr o h (.mref (h.tok true)) (h.addS true (.gmap kk [] []))
  | gup {o h t x k v tk kk zp ks ps key} [GpT P t kk zp] (ho : o.op = .mapUpdate t x k v ∨ o.op = .insert t x k v) (hx : e x = .mref tk) (hm : h.sp tk = some (.gmap kk ks ps)) (hk : e k = kpv kk key) (hok : kk.ok key) :
      D P e .wr o h .junk (h.setS tk (.gmap kk (insK ks key) (insP ks ps key (e v))))
  | glk {c o h t x k cm kk zp ks ps key} [GpT P t kk zp] (ho : o.op = .lookup t x k cm) (hx : e x = .gfm kk ks ps) (hk : e k = kpv kk key) (hok : kk.ok key) : D P e c o h (lkG cm ks ps zp key) h
  | glkm {c o h t x k cm tk kk zp ks ps key} [GpT P t kk zp] (hc : c.lkp = true) (ho : o.op = .lookup t x k cm) (hx : e x = .mref tk) (hm : h.sp tk = some (.gmap kk ks ps)) (hk : e k = kpv kk key) (hok : kk.ok key) : D P e c o h (lkG cm ks ps zp key) h
  | grng {o h t x kk zp ks ps} [GpT P t kk zp] (ho : o.op = .range t x) (hx : e x = .gfm kk ks ps) : D P e .wr o h (.itr (h.tok true)) (h.addS true (.giter kk ks ps []))
  | gent {c o h x tk kk ks ps pre i} (hc : c.lkp = true) (ho : o.op = .entry x) (hx : e x = .itr tk) (hs : h.sp tk = some (.giter kk ks ps (pre ++ [i]))) (hi : i < ps.length) : D P e c o h (.tup [kpv kk (ks.getD i []), ps.getD i .junk]) h
  | glen {c o h x t kk zp ks ps} [GpT P t kk zp] (ho : o.op = .call ⟨.builtin .len, #[x], #[t]⟩) (hx : e x = .gfm kk ks ps) : D P e c o h (.sc (.int .i64 (ks.length : Nat))) h
  | glenm {c o h x t tk kk zp ks ps} [GpT P t kk zp] (hc : c.lkp = true) (ho : o.op = .call ⟨.builtin .len, #[x], #[t]⟩) (hx : e x = .mref tk) (hm : h.sp tk = some (.gmap kk ks ps)) : D P e c o h (.sc (.int .i64 (ks.length : Nat))) h
  | cpy {c o h t x y tk off sz n cs m cs2 el bs zc} [SlT P t el sz bs zc] (hc : c = .wr ∨ c = .wrS ∧ tk % 2 = 0) (ho : o.op = .call ⟨.builtin .copy, #[x, y], #[t, t]⟩) (hx : e x = .ref tk off sz n) (hb : h.blk tk = some cs) (hle : off + n * sz ≤ cs.length)
      (hm : lenA (e y) = some m) (hy : srcA h (cutA (min n m) (e y)) sz (min n m) cs2) (h1 : ∀ p ∈ cs2, p.one = true) :
      D P e c o h (.sc (.int .i64 (min n m : Nat))) (h.set tk (cs.take off ++ cs2 ++ cs.drop (off + min n m * sz)))
end Go.Proofs.YtkmkcbkfakoomaaDoor
