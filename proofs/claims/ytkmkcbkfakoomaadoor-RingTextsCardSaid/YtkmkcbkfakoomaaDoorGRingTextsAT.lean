/- Facts and contracts that the claim uses. No condition of its own. -/
import Derived.Test.YtkmkcbkfakoomaaDoorGRingTextsAS
set_option linter.unusedVariables false
set_option linter.unusedSimpArgs false
namespace Go.Proofs.YtkmkcbkfakoomaaDoor
open Go.RowKit
variable {P : Program} {T : TypeId → TI} {M : Hn} {cl : Oper → Cls} {ops : Array Oper} {l : List Oper} {t : Nat → PV} {h : HP} {K : AS → Prop} {d : Nat} {ty : TypeId} {pos : String} {aft : Array Edge} {n : Nat} {Q : Exit → AS → Prop}
theorem AX.nil {s : AS} (hk : K s) : AX P T M cl ops [] s K := hk
theorem AX.move {x : Operand} {v : PV} (hx : evA t x = v) (hk : AX P T M cl ops l ⟨upd t d v, h⟩ K) : AX P T M cl ops (⟨some d, .move x, ty, pos, aft, none⟩ :: l) ⟨t, h⟩ K := by subst hx; exact .inl hk
theorem AX.assign {x : Operand} {v : PV} (hx : evA t x = v) (hk : AX P T M cl ops l ⟨upd t d v, h⟩ K) : AX P T M cl ops (⟨some d, .assign x, ty, pos, aft, none⟩ :: l) ⟨t, h⟩ K := by subst hx; exact .inl hk
theorem AX.pick {x y z : Operand} {b : Bool} {v : PV} (hx : evA t x = .sc (.bool b)) (hv : (if b then evA t y else evA t z) = v) (hk : AX P T M cl ops l ⟨upd t d v, h⟩ K) : AX P T M cl ops (⟨some d, .pick x y z, ty, pos, aft, none⟩ :: l) ⟨t, h⟩ K := by
  subst hv; unfold AX; simp only [GX, DX, scX, hx]; exact hk
theorem AX.bin {bop : BinOp} {tt t2 : TypeId} {x y : Operand} {vx vy : Value} (hx : evA t x = .sc vx) (hy : evA t y = .sc vy) (hk : binX (T tt = .bool) bop vx vy fun v => AX P T M cl ops l ⟨upd t d (.sc v), h⟩ K) :
    AX P T M cl ops (⟨some d, .binOp bop tt x y t2, ty, pos, aft, none⟩ :: l) ⟨t, h⟩ K := by
  have hn : isNilC y = false := by
    cases hc : isNilC y with
    | false => rfl
    | true =>
      obtain rfl := isNilC_spec hc
      rw [show evA t (.const (.slice none 0 0)) = .lst true 0 0 [] from rfl] at hy
      cases hy
  unfold AX
  simp only [GX, DX, hn, scX, hx, hy]
  exact .inr ⟨fun hh => (by cases hh), fun _ => hk⟩
theorem AX.binf {bop : BinOp} {tt t2 : TypeId} {x y : Operand} {vx vy v : Value} (hx : flv (evA t x) = some vx) (hy : flv (evA t y) = some vy) (hr : ∀ w, (do eqGuard bop tt x y vx vy; binOp bop tt vx vy : Sem Value).run P w = .ok v w) (hk : AX P T M cl ops l ⟨upd t d (.sc v), h⟩ K) : AX P T M cl ops (⟨some d, .binOp bop tt x y t2, ty, pos, aft, none⟩ :: l) ⟨t, h⟩ K := .inl ⟨vx, vy, v, hx, hy, hr, hk⟩
section bins
variable {tt t2 : TypeId} {x y : Operand} {a b : Int} (hx : evA t x = .sc (.int .i64 a)) (hy : evA t y = .sc (.int .i64 b))
include hx hy
theorem AX.add (hb : in64 (a + b)) (hk : AX P T M cl ops l ⟨upd t d (.sc (.int .i64 (a + b))), h⟩ K) : AX P T M cl ops (⟨some d, .binOp .add tt x y t2, ty, pos, aft, none⟩ :: l) ⟨t, h⟩ K := .bin hx hy ⟨hb, hk⟩
theorem AX.sub (hb : in64 (a - b)) (hk : AX P T M cl ops l ⟨upd t d (.sc (.int .i64 (a - b))), h⟩ K) : AX P T M cl ops (⟨some d, .binOp .sub tt x y t2, ty, pos, aft, none⟩ :: l) ⟨t, h⟩ K := .bin hx hy ⟨hb, hk⟩
theorem AX.mul (hb : in64 (a * b)) (hk : AX P T M cl ops l ⟨upd t d (.sc (.int .i64 (a * b))), h⟩ K) : AX P T M cl ops (⟨some d, .binOp .mul tt x y t2, ty, pos, aft, none⟩ :: l) ⟨t, h⟩ K := .bin hx hy ⟨hb, hk⟩
theorem AX.quo (hb : b ≠ 0 ∧ -9223372036854775807 ≤ a ∧ a ≤ 9223372036854775807) (hk : AX P T M cl ops l ⟨upd t d (.sc (.int .i64 (a.tdiv b))), h⟩ K) : AX P T M cl ops (⟨some d, .binOp .quo tt x y t2, ty, pos, aft, none⟩ :: l) ⟨t, h⟩ K := .bin hx hy ⟨hb, hk⟩
theorem AX.rem (hb : b ≠ 0) (hk : AX P T M cl ops l ⟨upd t d (.sc (.int .i64 (a.tmod b))), h⟩ K) : AX P T M cl ops (⟨some d, .binOp .rem tt x y t2, ty, pos, aft, none⟩ :: l) ⟨t, h⟩ K := .bin hx hy ⟨hb, hk⟩
theorem AX.eql (hk : AX P T M cl ops l ⟨upd t d (.sc (.bool (decide (a = b)))), h⟩ K) : AX P T M cl ops (⟨some d, .binOp .eql tt x y t2, ty, pos, aft, none⟩ :: l) ⟨t, h⟩ K := .bin hx hy hk
theorem AX.neq (hk : AX P T M cl ops l ⟨upd t d (.sc (.bool (!decide (a = b)))), h⟩ K) : AX P T M cl ops (⟨some d, .binOp .neq tt x y t2, ty, pos, aft, none⟩ :: l) ⟨t, h⟩ K := .bin hx hy hk
theorem AX.lss (hk : AX P T M cl ops l ⟨upd t d (.sc (.bool (decide (a < b)))), h⟩ K) : AX P T M cl ops (⟨some d, .binOp .lss tt x y t2, ty, pos, aft, none⟩ :: l) ⟨t, h⟩ K := .bin hx hy hk
theorem AX.leq (hk : AX P T M cl ops l ⟨upd t d (.sc (.bool (decide (a ≤ b)))), h⟩ K) : AX P T M cl ops (⟨some d, .binOp .leq tt x y t2, ty, pos, aft, none⟩ :: l) ⟨t, h⟩ K := .bin hx hy hk
theorem AX.gtr (hk : AX P T M cl ops l ⟨upd t d (.sc (.bool (decide (b < a)))), h⟩ K) : AX P T M cl ops (⟨some d, .binOp .gtr tt x y t2, ty, pos, aft, none⟩ :: l) ⟨t, h⟩ K := .bin hx hy hk
theorem AX.geq (hk : AX P T M cl ops l ⟨upd t d (.sc (.bool (decide (b ≤ a)))), h⟩ K) : AX P T M cl ops (⟨some d, .binOp .geq tt x y t2, ty, pos, aft, none⟩ :: l) ⟨t, h⟩ K := .bin hx hy hk
end bins
theorem AX.neg {tt : TypeId} {x : Operand} {a : Int} (hx : evA t x = .sc (.int .i64 a)) (hb : in64 (-a)) (hk : AX P T M cl ops l ⟨upd t d (.sc (.int .i64 (-a))), h⟩ K) : AX P T M cl ops (⟨some d, .unOp .neg tt x, ty, pos, aft, none⟩ :: l) ⟨t, h⟩ K := by
  unfold AX; simp only [GX, DX, scX, unX, hx, Int.zero_sub]; exact .inl ⟨hb, hk⟩
theorem AX.not {tt : TypeId} {x : Operand} {a : Bool} (hx : evA t x = .sc (.bool a)) (hk : AX P T M cl ops l ⟨upd t d (.sc (.bool (!a))), h⟩ K) : AX P T M cl ops (⟨some d, .unOp .not tt x, ty, pos, aft, none⟩ :: l) ⟨t, h⟩ K := by
  unfold AX; simp only [GX, DX, scX, unX, hx]; exact hk
theorem AX.lenl {tt : TypeId} {x : Operand} {el sz bs m sz' : Nat} {zc : List Value} {c : Bool} {cs : List PV} (hx : evA t x = .lst c sz' m cs) (ht : T tt = .sl el sz bs zc) (hk : AX P T M cl ops l ⟨upd t d (.sc (.int .i64 m)), h⟩ K) :
    AX P T M cl ops (⟨some d, .call ⟨.builtin .len, #[x], #[tt]⟩, ty, pos, aft, none⟩ :: l) ⟨t, h⟩ K := by
  unfold AX; simp only [GX, DX, callX, biX, lenX, hx, ht, List.map_cons, List.map_nil]; exact hk
theorem AX.lenr {tt : TypeId} {x : Operand} {el sz bs m sz' tk off : Nat} {zc : List Value} (hx : evA t x = .ref tk off sz' m) (ht : T tt = .sl el sz bs zc) (hk : AX P T M cl ops l ⟨upd t d (.sc (.int .i64 m)), h⟩ K) :
    AX P T M cl ops (⟨some d, .call ⟨.builtin .len, #[x], #[tt]⟩, ty, pos, aft, none⟩ :: l) ⟨t, h⟩ K := by
  unfold AX; simp only [GX, DX, callX, biX, lenX, hx, ht, List.map_cons, List.map_nil]; exact hk
theorem AX.lenm {tt : TypeId} {x : Operand} {m : MF} {z : Value} {ks : List Int} (hx : evA t x = .fmap m) (ht : T tt = .mp z) (h1 : ks.Nodup) (h2 : ∀ q, q ∈ ks ↔ m q ≠ none) (hk : AX P T M cl ops l ⟨upd t d (.sc (.int .i64 (ks.length : Nat))), h⟩ K) :
    AX P T M cl ops (⟨some d, .call ⟨.builtin .len, #[x], #[tt]⟩, ty, pos, aft, none⟩ :: l) ⟨t, h⟩ K := by
  unfold AX; simp only [GX, DX, callX, biX, lenX, hx, ht, List.map_cons, List.map_nil]; exact ⟨ks, h1, h2, hk⟩
theorem AX.min {ats : Array TypeId} {x y : Operand} {a b : Int} (hx : evA t x = .sc (.int .i64 a)) (hy : evA t y = .sc (.int .i64 b)) (hk : AX P T M cl ops l ⟨upd t d (.sc (.int .i64 (if b < a then b else a))), h⟩ K) :
    AX P T M cl ops (⟨some d, .call ⟨.builtin .min, #[x, y], ats⟩, ty, pos, aft, none⟩ :: l) ⟨t, h⟩ K := by
  unfold AX; simp only [GX, DX, callX, biX, minX, hx, hy, List.map_cons, List.map_nil]; exact hk
theorem AX.max {ats : Array TypeId} {x y : Operand} {a b : Int} (hx : evA t x = .sc (.int .i64 a)) (hy : evA t y = .sc (.int .i64 b)) (hk : AX P T M cl ops l ⟨upd t d (.sc (.int .i64 (if a < b then b else a))), h⟩ K) :
    AX P T M cl ops (⟨some d, .call ⟨.builtin .max, #[x, y], ats⟩, ty, pos, aft, none⟩ :: l) ⟨t, h⟩ K := by
  unfold AX; simp only [GX, DX, callX, biX, maxX, hx, hy, List.map_cons, List.map_nil]; exact hk
theorem AX.eqn {bop : BinOp} {tt t2 : TypeId} {x : Operand} {el sz bs m sz' : Nat} {zc : List Value} {c : Bool} {cs : List PV} {v : PV} (hb : bop = .eql ∨ bop = .neq) (hx : evA t x = .lst c sz' m cs) (ht : T tt = .sl el sz bs zc) (hs : sz' = sz ∨ m = 0) (hv : (if m = 0 then PV.anyB else .sc (.bool (isNeq bop))) = v) (hk : AX P T M cl ops l ⟨upd t d v, h⟩ K) :
    AX P T M cl ops (⟨some d, .binOp bop tt x (.const (.slice none 0 0)) t2, ty, pos, aft, none⟩ :: l) ⟨t, h⟩ K := by
  subst hv; unfold AX; simp only [GX, DX, hx, ht]; exact .inr ⟨fun _ => ⟨hb, hs, hk⟩, fun hh => (by cases hh)⟩
theorem AX.cap {tt : TypeId} {x : Operand} {el sz bs m sz' : Nat} {zc : List Value} {cs : List PV} (hx : evA t x = .lst true sz' m cs) (ht : T tt = .sl el sz bs zc) (hk : AX P T M cl ops l ⟨upd t d (.sc (.int .i64 m)), h⟩ K) :
    AX P T M cl ops (⟨some d, .call ⟨.builtin .cap, #[x], #[tt]⟩, ty, pos, aft, none⟩ :: l) ⟨t, h⟩ K := by
  unfold AX; simp only [GX, DX, callX, biX, capX, hx, ht, List.map_cons, List.map_nil]; exact hk
theorem AX.mkf {f : FuncId} {xs : Array Operand} {ps : List PV} (hp : xs.toList.map (evA t) = ps) (hk : AX P T M cl ops l ⟨upd t d (.clo f ps), h⟩ K) : AX P T M cl ops (⟨some d, .makeFunc (.func f) #[] xs, ty, pos, aft, none⟩ :: l) ⟨t, h⟩ K := by
  subst hp; unfold AX; simp only [GX, DX]; exact hk
theorem AX.callv {y : Tmp} {f : FuncId} {cap : List PV} {xs : Array Operand} {ats : Array TypeId} {args : List PV} {r : PV} (hy : evA t (.tmp y) = .clo f cap) (ha : xs.toList.map (evA t) ++ cap = args) (hc : PV.cl.clL args = true) (hs : SC P f args r) (hk : AX P T M cl ops l ⟨upd t d r, h⟩ K) :
    AX P T M cl ops (⟨some d, .call ⟨.value (.tmp y), xs, ats⟩, ty, pos, aft, none⟩ :: l) ⟨t, h⟩ K := by
  subst ha; unfold AX; simp only [GX, DX, callX, hy]; exact ⟨r, hc, hs, hk⟩
theorem AX.call {f : FuncId} {xs : Array Operand} {ats : Array TypeId} {args : List PV} {r : PV} (ha : xs.toList.map (evA t) = args) (hc : PV.cl.clL args = true) (hs : SC P f args r) (hk : AX P T M cl ops l ⟨upd t d r, h⟩ K) :
    AX P T M cl ops (⟨some d, .call ⟨.value (.func f), xs, ats⟩, ty, pos, aft, none⟩ :: l) ⟨t, h⟩ K := by
  unfold AX; simp only [GX, DX, callX]; exact .inr (.inr (.inl ⟨r, .of (by rw [ha]; exact hc) (by rw [ha]; exact hs), hk⟩))
theorem AX.callo {f : FuncId} {xs : Array Operand} {ats : Array TypeId} {args : List PV} {sz m : Nat} {cs : List PV} (ha : xs.toList.map (evA t) = args) (h0 : cl ⟨some d, .call ⟨.value (.func f), xs, ats⟩, ty, pos, aft, none⟩ = .wr ∨ cl ⟨some d, .call ⟨.value (.func f), xs, ats⟩, ty, pos, aft, none⟩ = .wrS) (hc : PV.cl.clL args = true) (hs : SCo P f args sz m cs) (hk : AX P T M cl ops l ⟨upd t d (.ref (h.tok false) 0 sz m), h.add false cs⟩ K) :
    AX P T M cl ops (⟨some d, .call ⟨.value (.func f), xs, ats⟩, ty, pos, aft, none⟩ :: l) ⟨t, h⟩ K := by
  unfold AX; simp only [GX, DX, callX]; exact .inr (.inl ⟨sz, m, cs, h0, .inl ⟨by rw [ha]; exact hc, by rw [ha]; exact hs⟩, hk⟩)
theorem AX.callob {f : FuncId} {xs : Array Operand} {ats : Array TypeId} {args : List PV} {sz m : Nat} {cs : List PV} (ha : xs.toList.map (fun x => bw h (evA t x)) = args) (h0 : cl ⟨some d, .call ⟨.value (.func f), xs, ats⟩, ty, pos, aft, none⟩ = .wr ∨ cl ⟨some d, .call ⟨.value (.func f), xs, ats⟩, ty, pos, aft, none⟩ = .wrS) (hc : PV.cl.clL args = true) (hs : SCo P f args sz m cs) (hf : cs.all PV.bare = true) (hk : AX P T M cl ops l ⟨upd t d (.ref (h.tok false) 0 sz m), h.add false cs⟩ K) :
    AX P T M cl ops (⟨some d, .call ⟨.value (.func f), xs, ats⟩, ty, pos, aft, none⟩ :: l) ⟨t, h⟩ K := by
  unfold AX; simp only [GX, DX, callX]; exact .inr (.inl ⟨sz, m, cs, h0, .inr ⟨by rw [List.map_map]; rw [show ((bw h ∘ evA t) : Operand → PV) = fun x => bw h (evA t x) from rfl, ha]; exact hc, by rw [List.map_map, show ((bw h ∘ evA t) : Operand → PV) = fun x => bw h (evA t x) from rfl, ha]; exact hs, hf⟩, hk⟩)
theorem AX.callm {f : FuncId} {xs : Array Operand} {x : Operand} {rs : List Operand} {ats : Array TypeId} {tk : Nat} {cs : List PV} {zs ys : List Int} {us : List Value} (hxs : xs.toList = x :: rs) (hx : evA t x = .ref tk 0 1 zs.length) (h0 : cl ⟨some d, .call ⟨.value (.func f), xs, ats⟩, ty, pos, aft, none⟩ = .wr ∨ cl ⟨some d, .call ⟨.value (.func f), xs, ats⟩, ty, pos, aft, none⟩ = .wrS ∧ tk % 2 = 0) (hb : h.blk tk = some cs) (hz : cs.take zs.length = zs.map (fun z => .sc (.int .i64 z))) (hn : 0 < zs.length) (hr : rs.map (evA t) = us.map .sc) (hs : SCm P f zs us ys)
    (hk : AX P T M cl ops l ⟨upd t d (.ref tk 0 1 ys.length), h.set tk (ys.map fun y => .sc (.int .i64 y))⟩ K) : AX P T M cl ops (⟨some d, .call ⟨.value (.func f), xs, ats⟩, ty, pos, aft, none⟩ :: l) ⟨t, h⟩ K := by
  unfold AX; simp only [GX, DX, callX]; exact .inl ⟨x, rs, tk, 0, cs, zs, us, ys, h0, hxs, hx, hb, hz, hn, hr, hs, hk⟩
theorem AX.callh {f : FuncId} {xs : Array Operand} {ats : Array TypeId} {args : List PV} {r : PV} {h' : HP} (ha : xs.toList.map (evA t) = args) (h0 : cl ⟨some d, .call ⟨.value (.func f), xs, ats⟩, ty, pos, aft, none⟩ = .wr) (hs : SCh P f args h r h') (hk : AX P T M cl ops l ⟨upd t d r, h'⟩ K) :
    AX P T M cl ops (⟨some d, .call ⟨.value (.func f), xs, ats⟩, ty, pos, aft, none⟩ :: l) ⟨t, h⟩ K := by
  unfold AX; simp only [GX, DX, callX]; exact .inr (.inr (.inr ⟨r, h', h0, by rw [ha]; exact hs, hk⟩))
theorem AX.callb {f : FuncId} {xs : Array Operand} {ats : Array TypeId} {args : List PV} {r : PV} (ha : xs.toList.map (fun x => bw h (evA t x)) = args) (h0 : cl ⟨some d, .call ⟨.value (.func f), xs, ats⟩, ty, pos, aft, none⟩ = .read ∨ cl ⟨some d, .call ⟨.value (.func f), xs, ats⟩, ty, pos, aft, none⟩ = .wrS ∨ cl ⟨some d, .call ⟨.value (.func f), xs, ats⟩, ty, pos, aft, none⟩ = .wr) (hc : PV.cl.clL args = true) (hs : SC P f args r) (hf : r.flat = true)
    (hk : AX P T M cl ops l ⟨upd t d r, h⟩ K) : AX P T M cl ops (⟨some d, .call ⟨.value (.func f), xs, ats⟩, ty, pos, aft, none⟩ :: l) ⟨t, h⟩ K := by
  unfold AX; simp only [GX, DX, callX]; exact .inr (.inr (.inl ⟨r, .bw (args' := args) (by rw [List.map_map]; exact ha) h0 hc hs hf, hk⟩))
theorem AX.ixl {tt : TypeId} {x ix : Operand} {c : Bool} {el sz bs m : Nat} {zc : List Value} {cs : List PV} {k : IntKind} {i : Int} (hx : evA t x = .lst c sz m cs) (hi : evA t ix = .sc (.int k i)) (ht : T tt = .sl el sz bs zc) (hb : 0 ≤ i ∧ i < m)
    (hk : AX P T M cl ops l ⟨upd t d (.lptr (cs.drop (i.toNat * sz))), h⟩ K) : AX P T M cl ops (⟨some d, .indexAddr tt x ix, ty, pos, aft, none⟩ :: l) ⟨t, h⟩ K := by
  unfold AX; simp only [GX, DX, ixX, hx, hi, ht]; exact ⟨trivial, hb, hk⟩
theorem AX.ixr {tt : TypeId} {x ix : Operand} {el sz bs m tk off : Nat} {zc : List Value} {k : IntKind} {i : Int} (hx : evA t x = .ref tk off sz m) (hi : evA t ix = .sc (.int k i)) (ht : T tt = .sl el sz bs zc) (hb : 0 ≤ i ∧ i < m)
    (hk : AX P T M cl ops l ⟨upd t d (.ptr tk (off + i.toNat * sz)), h⟩ K) : AX P T M cl ops (⟨some d, .indexAddr tt x ix, ty, pos, aft, none⟩ :: l) ⟨t, h⟩ K := by
  unfold AX; simp only [GX, DX, ixX, hx, hi, ht]; exact ⟨trivial, hb, hk⟩
theorem AX.ixap {tt : TypeId} {x ix : Operand} {len el sz tot tk off : Nat} {zc : List Value} {k : IntKind} {i : Int} (hx : evA t x = .ptr tk off) (hi : evA t ix = .sc (.int k i)) (ht : T tt = .ar len el sz tot zc) (hb : 0 ≤ i ∧ i < len)
    (hk : AX P T M cl ops l ⟨upd t d (.ptr tk (off + i.toNat * sz)), h⟩ K) : AX P T M cl ops (⟨some d, .indexAddr tt x ix, ty, pos, aft, none⟩ :: l) ⟨t, h⟩ K := by
  unfold AX; simp only [GX, DX, ixX, hx, hi, ht]; exact ⟨hb, hk⟩
theorem AX.ixal {tt : TypeId} {x ix : Operand} {len el sz tot : Nat} {zc : List Value} {cs : List PV} {k : IntKind} {i : Int} (hx : evA t x = .lptr cs) (hi : evA t ix = .sc (.int k i)) (ht : T tt = .ar len el sz tot zc) (hb : 0 ≤ i ∧ i < len)
    (hk : AX P T M cl ops l ⟨upd t d (.lptr (cs.drop (i.toNat * sz))), h⟩ K) : AX P T M cl ops (⟨some d, .indexAddr tt x ix, ty, pos, aft, none⟩ :: l) ⟨t, h⟩ K := by
  unfold AX; simp only [GX, DX, ixX, hx, hi, ht]; exact ⟨hb, hk⟩
theorem AX.ldl {tt : TypeId} {x : Operand} {cs : List PV} {p : PV} (hx : evA t x = .lptr cs) (ht : (T tt).shape = some (false, 1)) (hp : cs[0]? = some p) (hk : AX P T M cl ops l ⟨upd t d p, h⟩ K) : AX P T M cl ops (⟨some d, .load tt x, ty, pos, aft, none⟩ :: l) ⟨t, h⟩ K := by
  unfold AX; simp only [GX, DX, ldX, hx, ht]; exact ⟨p, hp, hk⟩
theorem AX.ldla {tt : TypeId} {x : Operand} {cs r : List PV} {sz : Nat} (hx : evA t x = .lptr cs) (ht : (T tt).shape = some (true, sz)) (hp : sz ≤ cs.length) (hr : cs.take sz = r) (hk : AX P T M cl ops l ⟨upd t d (.agg r), h⟩ K) : AX P T M cl ops (⟨some d, .load tt x, ty, pos, aft, none⟩ :: l) ⟨t, h⟩ K := by
  subst hr; unfold AX; simp only [GX, DX, ldX, hx, ht]; exact ⟨hp, hk⟩
theorem AX.ldm {tt : TypeId} {x : Operand} {tk off : Nat} {cs : List PV} {p : PV} (hx : evA t x = .ptr tk off) (h0 : cl ⟨some d, .load tt x, ty, pos, aft, none⟩ = .read ∨ cl ⟨some d, .load tt x, ty, pos, aft, none⟩ = .wrS ∨ cl ⟨some d, .load tt x, ty, pos, aft, none⟩ = .wr ∨ cl ⟨some d, .load tt x, ty, pos, aft, none⟩ = .readB ∧ tk % 2 = 1 ∨ cl ⟨some d, .load tt x, ty, pos, aft, none⟩ = .readL ∧ tk % 2 = 0) (ht : (T tt).shape = some (false, 1)) (hb : h.blk tk = some cs) (hp : cs[off]? = some p) (hk : AX P T M cl ops l ⟨upd t d p, h⟩ K) : AX P T M cl ops (⟨some d, .load tt x, ty, pos, aft, none⟩ :: l) ⟨t, h⟩ K := by
  unfold AX; simp only [GX, DX, ldX, hx, ht]; exact ⟨h0, cs, p, hb, hp, hk⟩
theorem AX.ldma {tt : TypeId} {x : Operand} {tk off sz : Nat} {cs r : List PV} (hx : evA t x = .ptr tk off) (h0 : cl ⟨some d, .load tt x, ty, pos, aft, none⟩ = .read ∨ cl ⟨some d, .load tt x, ty, pos, aft, none⟩ = .wrS ∨ cl ⟨some d, .load tt x, ty, pos, aft, none⟩ = .wr ∨ cl ⟨some d, .load tt x, ty, pos, aft, none⟩ = .readB ∧ tk % 2 = 1 ∨ cl ⟨some d, .load tt x, ty, pos, aft, none⟩ = .readL ∧ tk % 2 = 0) (ht : (T tt).shape = some (true, sz)) (hb : h.blk tk = some cs) (hp : off + sz ≤ cs.length) (hr : (cs.drop off).take sz = r) (hk : AX P T M cl ops l ⟨upd t d (.agg r), h⟩ K) : AX P T M cl ops (⟨some d, .load tt x, ty, pos, aft, none⟩ :: l) ⟨t, h⟩ K := by
  subst hr; unfold AX; simp only [GX, DX, ldX, hx, ht]; exact ⟨h0, cs, hb, hp, hk⟩
theorem AX.st {tt : TypeId} {x y : Operand} {tk off : Nat} {cs : List PV} {v : PV} (hx : evA t x = .ptr tk off) (h0 : cl ⟨none, .store tt x y, ty, pos, aft, none⟩ = .wr ∨ cl ⟨none, .store tt x y, ty, pos, aft, none⟩ = .wrS ∧ tk % 2 = 0 ∨ cl ⟨none, .store tt x y, ty, pos, aft, none⟩ = .wrO ∧ tk % 2 = 1 ∨ cl ⟨none, .store tt x y, ty, pos, aft, none⟩ = .wrQ) (hy : evA t y = v) (ht : (T tt).shape = some (false, 1)) (hb : h.blk tk = some cs) (hl : off < cs.length) (h1 : v.one = true)
    (hk : AX P T M cl ops l ⟨t, h.set tk (cs.set off v)⟩ K) : AX P T M cl ops (⟨none, .store tt x y, ty, pos, aft, none⟩ :: l) ⟨t, h⟩ K := by
  subst hy; unfold AX; simp only [GX, DX, stX, hx, ht]; exact ⟨h0, cs, hb, hl, h1, hk⟩
theorem AX.sta {tt : TypeId} {x y : Operand} {tk off sz : Nat} {cs vs : List PV} (hx : evA t x = .ptr tk off) (h0 : cl ⟨none, .store tt x y, ty, pos, aft, none⟩ = .wr ∨ cl ⟨none, .store tt x y, ty, pos, aft, none⟩ = .wrS ∧ tk % 2 = 0 ∨ cl ⟨none, .store tt x y, ty, pos, aft, none⟩ = .wrO ∧ tk % 2 = 1 ∨ cl ⟨none, .store tt x y, ty, pos, aft, none⟩ = .wrQ) (hy : evA t y = .agg vs) (ht : (T tt).shape = some (true, sz)) (hb : h.blk tk = some cs) (hv : vs.length = sz) (hl : off + sz ≤ cs.length) (h1 : ∀ p ∈ vs, p.one = true)
    (hk : AX P T M cl ops l ⟨t, h.set tk (cs.take off ++ vs ++ cs.drop (off + sz))⟩ K) : AX P T M cl ops (⟨none, .store tt x y, ty, pos, aft, none⟩ :: l) ⟨t, h⟩ K := by
  unfold AX; simp only [GX, DX, stX, hx, hy, ht]; exact ⟨h0, cs, hb, hv, hl, h1, hk⟩
theorem AX.fal {tt : TypeId} {x : Operand} {f sz off s2 : Nat} {ag : Bool} {zc : List Value} {fs : List (Nat × Nat × Bool)} {cs r : List PV} (hx : evA t x = .lptr cs) (ht : T tt = .st sz zc fs) (hf : fs[f]? = some (off, s2, ag)) (hr : cs.drop off = r) (hk : AX P T M cl ops l ⟨upd t d (.lptr r), h⟩ K) :
    AX P T M cl ops (⟨some d, .fieldAddr tt x f, ty, pos, aft, none⟩ :: l) ⟨t, h⟩ K := by
  subst hr; unfold AX; simp only [GX, DX, faX, hx, ht, hf]; exact hk
theorem AX.fam {tt : TypeId} {x : Operand} {f sz off s2 tk k k' : Nat} {ag : Bool} {zc : List Value} {fs : List (Nat × Nat × Bool)} (hx : evA t x = .ptr tk k) (ht : T tt = .st sz zc fs) (hf : fs[f]? = some (off, s2, ag)) (hk' : k + off = k') (hk : AX P T M cl ops l ⟨upd t d (.ptr tk k'), h⟩ K) :
    AX P T M cl ops (⟨some d, .fieldAddr tt x f, ty, pos, aft, none⟩ :: l) ⟨t, h⟩ K := by
  subst hk'; unfold AX; simp only [GX, DX, faX, hx, ht, hf]; exact hk
theorem AX.fd {tt : TypeId} {x : Operand} {f sz off s2 : Nat} {zc : List Value} {fs : List (Nat × Nat × Bool)} {cs : List PV} {p : PV} (hx : evA t x = .agg cs) (ht : T tt = .st sz zc fs) (hf : fs[f]? = some (off, s2, false)) (hp : cs[off]? = some p) (hk : AX P T M cl ops l ⟨upd t d p, h⟩ K) :
    AX P T M cl ops (⟨some d, .field tt x f, ty, pos, aft, none⟩ :: l) ⟨t, h⟩ K := by
  unfold AX; simp only [GX, DX, fdX, hx, ht, hf]; exact ⟨p, hp, hk⟩
theorem AX.nck {x : Operand} {v : PV} (hx : evA t x = v) (hp : v.isP = true) (hk : AX P T M cl ops l ⟨upd t d v, h⟩ K) : AX P T M cl ops (⟨some d, .nilCheck x, ty, pos, aft, none⟩ :: l) ⟨t, h⟩ K := by
  subst hx; unfold AX; simp only [GX, DX]; exact ⟨hp, hk⟩
theorem AX.ext {x : Operand} {i : Nat} {vs : List PV} {p : PV} (hx : evA t x = .tup vs) (hp : vs[i]? = some p) (hk : AX P T M cl ops l ⟨upd t d p, h⟩ K) : AX P T M cl ops (⟨some d, .extract x i, ty, pos, aft, none⟩ :: l) ⟨t, h⟩ K := by
  unfold AX; simp only [GX, DX, hx]; exact ⟨p, hp, hk⟩
theorem AX.boxl {tt : TypeId} {x : Operand} {cs : List PV} (hm : inL M.mt (some d) = false) (hx : evA t x = .agg cs) (hk : AX P T M cl ops l ⟨upd t d (.lptr cs), h⟩ K) : AX P T M cl ops (⟨some d, .box tt x, ty, pos, aft, none⟩ :: l) ⟨t, h⟩ K := by
  unfold AX; simp only [GX, DX, boxX, hx]; exact ⟨fun hh => by rw [hm] at hh; (cases hh), fun _ => hk⟩
theorem AX.boxs {tt : TypeId} {x : Operand} {v : Value} (hm : inL M.mt (some d) = false) (hx : evA t x = .sc v) (h1 : v.oneCell' = true) (hk : AX P T M cl ops l ⟨upd t d (.lptr [.sc v]), h⟩ K) : AX P T M cl ops (⟨some d, .box tt x, ty, pos, aft, none⟩ :: l) ⟨t, h⟩ K := by
  unfold AX; simp only [GX, DX, boxX, hx]; exact ⟨h1, fun hh => by rw [hm] at hh; (cases hh), fun _ => hk⟩
theorem AX.boxm {tt : TypeId} {x : Operand} {cs : List PV} (hm : inL M.mt (some d) = true) (h0 : cl ⟨some d, .box tt x, ty, pos, aft, none⟩ = .wr) (hx : evA t x = .agg cs) (hk : AX P T M cl ops l ⟨upd t d (.ptr (h.tok true) 0), h.add true cs⟩ K) : AX P T M cl ops (⟨some d, .box tt x, ty, pos, aft, none⟩ :: l) ⟨t, h⟩ K := by
  unfold AX; simp only [GX, DX, boxX, hx]; exact ⟨fun _ => ⟨h0, hk⟩, fun hh => by rw [hm] at hh; (cases hh)⟩
theorem AX.alloc {tt : TypeId} {zc : List Value} {cs : List PV} (h0 : cl ⟨some d, .alloc tt, ty, pos, aft, none⟩ = .wr) (hz : (T tt).zero = some zc) (hc : zc.map ofConst.ofCell = cs) (hk : AX P T M cl ops l ⟨upd t d (.ptr (h.tok true) 0), h.add true cs⟩ K) : AX P T M cl ops (⟨some d, .alloc tt, ty, pos, aft, none⟩ :: l) ⟨t, h⟩ K := by
  subst hc; unfold AX; simp only [GX, DX, hz]; exact .inl ⟨h0, hk⟩
theorem AX.alloA {tt : TypeId} {zc : List Value} {cs : List PV} (tk : Nat) (h0 : cl ⟨some d, .alloc tt, ty, pos, aft, none⟩ = .wrA) (hz : (T tt).zero = some zc) (hc : zc.map ofConst.ofCell = cs) (hw : h.win tk = true) (hk : AX P T M cl ops l ⟨upd t d (.ptr tk 0), h.put tk cs⟩ K) : AX P T M cl ops (⟨some d, .alloc tt, ty, pos, aft, none⟩ :: l) ⟨t, h⟩ K := by
  subst hc; unfold AX; simp only [GX, DX, hz]; exact .inr (.inl ⟨h0, tk, hw, hk⟩)
theorem AX.alloS {tt : TypeId} {zc : List Value} {cs : List PV} (h0 : cl ⟨some d, .alloc tt, ty, pos, aft, none⟩ = .wrS) (hz : (T tt).zero = some zc) (hc : zc.map ofConst.ofCell = cs) (hk : AX P T M cl ops l ⟨upd t d (.ptr (h.tok false) 0), h.add false cs⟩ K) : AX P T M cl ops (⟨some d, .alloc tt, ty, pos, aft, none⟩ :: l) ⟨t, h⟩ K := by
  subst hc; unfold AX; simp only [GX, DX, hz]; exact .inr (.inr ⟨h0, hk⟩)
theorem AX.slp {tt : TypeId} {x hi : Operand} {len el tot : Nat} {zc : List Value} {cs : List PV} {k : IntKind} {zh : Int} (hx : evA t x = .lptr cs) (ht : T tt = .ar len el 1 tot zc) (hy : evA t hi = .sc (.int k zh)) (hc : cs.length = len) (hb : 0 ≤ zh ∧ zh ≤ len ∧ len ≤ 1000000)
    (hk : AX P T M cl ops l ⟨upd t d (.lst false 1 zh.toNat (cs.take zh.toNat)), h⟩ K) : AX P T M cl ops (⟨some d, .slice tt x none (some hi) none, ty, pos, aft, none⟩ :: l) ⟨t, h⟩ K := by
  unfold AX; simp only [GX, DX, slX, hx, ht, hy]; exact ⟨⟨trivial, hc⟩, hb, hk⟩
theorem AX.sll {tt : TypeId} {x : Operand} {lo hi : Option Operand} {c : Bool} {el sz' sz bs m : Nat} {zc : List Value} {cs : List PV} {zl zh : Int} (hx : evA t x = .lst c sz' m cs) (ht : T tt = .sl el sz bs zc) (hs : sz' = sz ∨ m = 0) (hl : bndI (evA t) lo 0 zl) (hh : bndI (evA t) hi m zh) (hb : 0 ≤ zl ∧ zl ≤ zh ∧ zh ≤ m)
    (hk : AX P T M cl ops l ⟨upd t d (.lst (c && hi.isNone) sz (zh.toNat - zl.toNat) ((cs.drop (zl.toNat * sz)).take ((zh.toNat - zl.toNat) * sz))), h⟩ K) : AX P T M cl ops (⟨some d, .slice tt x lo hi none, ty, pos, aft, none⟩ :: l) ⟨t, h⟩ K := by
  unfold AX; simp only [GX, DX, slX, hx, ht]
  refine ⟨hs, ?_⟩
  have b1 : ∀ {e : Operand → PV} {x : Option Operand} {d z : Int} {k : Int → Prop}, bndI e x d z → k z → boundX e x d k := by
    intro e x d z k h1 h2
    unfold boundX
    cases x with
    | none => simp only [bndI] at h1; subst h1; exact h2
    | some y => obtain ⟨kk, h1⟩ := h1; simp only [h1]; exact h2
  exact b1 hl (b1 hh ⟨hb, hk⟩)
theorem AX.sll3 {tt : TypeId} {x hi mx : Operand} {lo : Option Operand} {c : Bool} {el sz' sz bs m : Nat} {zc : List Value} {cs : List PV} {zl zh : Int} (hx : evA t x = .lst c sz' m cs) (ht : T tt = .sl el sz bs zc) (hs : sz' = sz ∨ m = 0) (hl : bndI (evA t) lo 0 zl) (hh : bndI (evA t) (some hi) m zh) (hm : bndI (evA t) (some mx) m zh) (hb : 0 ≤ zl ∧ zl ≤ zh ∧ zh ≤ m)
    (hk : AX P T M cl ops l ⟨upd t d (.lst true sz (zh.toNat - zl.toNat) ((cs.drop (zl.toNat * sz)).take ((zh.toNat - zl.toNat) * sz))), h⟩ K) : AX P T M cl ops (⟨some d, .slice tt x lo (some hi) (some mx), ty, pos, aft, none⟩ :: l) ⟨t, h⟩ K := by
  unfold AX; simp only [GX, DX, slX, hx, ht]
  refine ⟨hs, ?_⟩
  have b1 : ∀ {e : Operand → PV} {x : Option Operand} {d z : Int} {k : Int → Prop}, bndI e x d z → k z → boundX e x d k := by
    intro e x d z k h1 h2
    unfold boundX
    cases x with
    | none => simp only [bndI] at h1; subst h1; exact h2
    | some y => obtain ⟨kk, h1⟩ := h1; simp only [h1]; exact h2
  exact b1 hl (b1 hh (b1 hm ⟨rfl, hb, hk⟩))
theorem AX.slr {tt : TypeId} {x : Operand} {lo hi : Option Operand} {el sz bs m tk off : Nat} {zc : List Value} {zl zh : Int} (hx : evA t x = .ref tk off sz m) (ht : T tt = .sl el sz bs zc) (hl : bndI (evA t) lo 0 zl) (hh : bndI (evA t) hi m zh) (hb : 0 ≤ zl ∧ zl ≤ zh ∧ zh ≤ m)
    (hk : AX P T M cl ops l ⟨upd t d (.ref tk (off + zl.toNat * sz) sz (zh.toNat - zl.toNat)), h⟩ K) : AX P T M cl ops (⟨some d, .slice tt x lo hi none, ty, pos, aft, none⟩ :: l) ⟨t, h⟩ K := by
  unfold AX; simp only [GX, DX, slX, hx, ht]
  refine ⟨trivial, ?_⟩
  have b1 : ∀ {e : Operand → PV} {x : Option Operand} {d z : Int} {k : Int → Prop}, bndI e x d z → k z → boundX e x d k := by
    intro e x d z k h1 h2
    unfold boundX
    cases x with
    | none => simp only [bndI] at h1; subst h1; exact h2
    | some y => obtain ⟨kk, h1⟩ := h1; simp only [h1]; exact h2
  exact b1 hl (b1 hh ⟨hb, hk⟩)
theorem AX.bld {tt : TypeId} {parts : Array (Nat × Operand)} {sz : Nat} {zc : List Value} {fs : List (Nat × Nat × Bool)} {cs r : List PV} {ps : List (Nat × PV)} (ht : T tt = .st sz zc fs) (hp : (parts.toList.map fun x => (x.1, evA t x.2)) = ps) (hf : fillA (fun i => (fs.map fun x => (x.1, x.2.1))[i]?) (zc.map ofConst.ofCell) ps = some cs) (hr : cs = r)
    (hk : AX P T M cl ops l ⟨upd t d (.agg r), h⟩ K) : AX P T M cl ops (⟨some d, .build tt parts, ty, pos, aft, none⟩ :: l) ⟨t, h⟩ K := by
  subst hp; subst hr; unfold AX; simp only [GX, DX, bdX, ht]; exact ⟨cs, hf, hk⟩
theorem AX.bsl {tt : TypeId} {len : Nat} {parts : Array (Nat × Operand)} {el sz bs : Nat} {zc : List Value} {cs r : List PV} {ps : List (Nat × PV)} (hm : inL M.mt (some d) = false) (ht : T tt = .sl el sz bs zc) (hb : len * sz ≤ 16777216) (hp : (parts.toList.map fun x => (x.1, evA t x.2)) = ps)
    (hf : fillA (fun i => some (i * sz, sz)) ((List.replicate len (zc.map ofConst.ofCell)).flatten) ps = some cs) (hr : cs = r) (hk : AX P T M cl ops l ⟨upd t d (.lst true sz len r), h⟩ K) : AX P T M cl ops (⟨some d, .buildSlice tt len parts, ty, pos, aft, none⟩ :: l) ⟨t, h⟩ K := by
  subst hp; subst hr; unfold AX; simp only [GX, DX, bsX, ht]; exact ⟨hb, cs, hf, fun hh => by rw [hm] at hh; (cases hh), fun _ => hk⟩
theorem AX.bslm {tt : TypeId} {len : Nat} {parts : Array (Nat × Operand)} {el sz bs : Nat} {zc : List Value} {cs r : List PV} {ps : List (Nat × PV)} (hm : inL M.mt (some d) = true) (h0 : cl ⟨some d, .buildSlice tt len parts, ty, pos, aft, none⟩ = .wr ∨ cl ⟨some d, .buildSlice tt len parts, ty, pos, aft, none⟩ = .wrS) (ht : T tt = .sl el sz bs zc) (hb : len * sz ≤ 16777216) (hp : (parts.toList.map fun x => (x.1, evA t x.2)) = ps)
    (hf : fillA (fun i => some (i * sz, sz)) ((List.replicate len (zc.map ofConst.ofCell)).flatten) ps = some cs) (hr : cs = r) (hk : AX P T M cl ops l ⟨upd t d (.ref (h.tok false) 0 sz len), h.add false r⟩ K) : AX P T M cl ops (⟨some d, .buildSlice tt len parts, ty, pos, aft, none⟩ :: l) ⟨t, h⟩ K := by
  subst hp; subst hr; unfold AX; simp only [GX, DX, bsX, ht]; exact ⟨hb, cs, hf, fun _ => ⟨h0, hk⟩, fun hh => by rw [hm] at hh; (cases hh)⟩
theorem AX.app {tt : TypeId} {x y : Operand} {el sz bs m m2 tk off : Nat} {zc : List Value} {cs cs2 r : List PV} (hx : evA t x = .ref tk off sz m) (h0 : cl ⟨some d, .call ⟨.builtin .append, #[x, y], #[tt, tt]⟩, ty, pos, aft, none⟩ = .wr ∨ cl ⟨some d, .call ⟨.builtin .append, #[x, y], #[tt, tt]⟩, ty, pos, aft, none⟩ = .wrS ∧ tk % 2 = 0) (ht : T tt = .sl el sz bs zc) (hb : h.blk tk = some cs) (hy : srcA h (evA t y) sz m2 cs2)
    (hl : off + m * sz ≤ cs.length) (h1 : ∀ p ∈ cs2, p.one = true) (hbd : (m + m2) * bs ≤ 140737488355328 ∧ m + m2 ≤ 140737488355328) (hr : (cs.drop off).take (m * sz) ++ cs2 = r) {q : Nat} (hn : m + m2 = q) (hk : AX P T M cl ops l ⟨upd t d (.ref (h.tok false) 0 sz q), (h.kill tk).add false r⟩ K) :
    AX P T M cl ops (⟨some d, .call ⟨.builtin .append, #[x, y], #[tt, tt]⟩, ty, pos, aft, none⟩ :: l) ⟨t, h⟩ K := by
  subst hr; subst hn; unfold AX; simp only [GX, DX, callX, biX, appX, hx, ht, List.map_cons, List.map_nil]; exact ⟨trivial, cs, m2, cs2, hb, hy, trivial, h0, hl, h1, hbd, hk⟩
theorem AX.ap0 {tt : TypeId} {x y : Operand} {el sz bs m sz' : Nat} {c : Bool} {zc : List Value} {cs cs2 : List PV} (h0 : cl ⟨some d, .call ⟨.builtin .append, #[x, y], #[tt, tt]⟩, ty, pos, aft, none⟩ = .read ∨ cl ⟨some d, .call ⟨.builtin .append, #[x, y], #[tt, tt]⟩, ty, pos, aft, none⟩ = .wrS ∨ cl ⟨some d, .call ⟨.builtin .append, #[x, y], #[tt, tt]⟩, ty, pos, aft, none⟩ = .wr)
    (hx : evA t x = .lst c sz' m cs) (ht : T tt = .sl el sz bs zc) (hy : srcA h (evA t y) sz 0 cs2) (hk : AX P T M cl ops l ⟨upd t d (.lst c sz' m cs), h⟩ K) :
    AX P T M cl ops (⟨some d, .call ⟨.builtin .append, #[x, y], #[tt, tt]⟩, ty, pos, aft, none⟩ :: l) ⟨t, h⟩ K := by
  unfold AX; simp only [GX, DX, callX, biX, appX, hx, ht, List.map_cons, List.map_nil]
  exact ⟨trivial, 0, cs2, hy, fun _ => ⟨h0, hk⟩, fun hh => absurd rfl hh⟩
theorem AX.mvz {x : Operand} {tk : Nat} {m : MF} (hf : inL M.fz (some d) = true) (hx : evA t x = .mref tk) (h0 : cl ⟨some d, .move x, ty, pos, aft, none⟩ = .wr) (hm : h.sp tk = some (.map m)) (hk : AX P T M cl ops l ⟨upd t d (.fmap m), h.killS tk⟩ K) : AX P T M cl ops (⟨some d, .move x, ty, pos, aft, none⟩ :: l) ⟨t, h⟩ K := by
  refine .inr ⟨h0, ?_⟩; simp only [hx]; exact ⟨m, hm, hk⟩
theorem AX.mkm {tt : TypeId} {z : Value} (h0 : cl ⟨some d, .makeMap tt none, ty, pos, aft, none⟩ = .wr) (ht : T tt = .mp z) (hk : AX P T M cl ops l ⟨upd t d (.mref (h.tok true)), h.addS true (.map fun _ => none)⟩ K) : AX P T M cl ops (⟨some d, .makeMap tt none, ty, pos, aft, none⟩ :: l) ⟨t, h⟩ K := by
  unfold AX; simp only [GX, DX, mkmX, ht]; exact .inl ⟨trivial, h0, hk⟩
theorem AX.mup {tt : TypeId} {x y v : Operand} {tk : Nat} {m m' : MF} {kk : Int} {vv z : Value} (hx : evA t x = .mref tk) (hy : evA t y = .sc (.int .i64 kk)) (hv : evA t v = .sc vv) (h0 : cl ⟨none, .mapUpdate tt x y v, ty, pos, aft, none⟩ = .wr) (ht : T tt = .mp z) (hm : h.sp tk = some (.map m)) (hr : (fun y => if y = kk then some vv else m y) = m') (hk : AX P T M cl ops l ⟨t, h.setS tk (.map m')⟩ K) : AX P T M cl ops (⟨none, .mapUpdate tt x y v, ty, pos, aft, none⟩ :: l) ⟨t, h⟩ K := by
  subst hr; unfold AX; simp only [GX, DX, mupX, hx, hy, hv, ht]; exact ⟨h0, m, hm, hk⟩
theorem AX.mkmA {tt : TypeId} {z : Value} (tk : Nat) (h0 : cl ⟨some d, .makeMap tt none, ty, pos, aft, none⟩ = .wrM) (ht : T tt = .mp z) (hd : tk % 1024 = d) (hw : h.win tk = true) (hk : AX P T M cl ops l ⟨upd t d (.mref tk), h.putS tk (.map fun _ => none)⟩ K) : AX P T M cl ops (⟨some d, .makeMap tt none, ty, pos, aft, none⟩ :: l) ⟨t, h⟩ K := by
  unfold AX; simp only [GX, DX, mkmAX, ht]; exact .inr ⟨trivial, h0, tk, d, rfl, hd, hw, hk⟩
theorem AX.insA {tt : TypeId} {x0 : Nat} {y v : Operand} {tk : Nat} {m m' : MF} {kk : Int} {vv z : Value} (hx : evA t (.tmp x0) = .mref tk) (hy : evA t y = .sc (.int .i64 kk)) (hv : evA t v = .sc vv) (h0 : cl ⟨none, .insert tt (.tmp x0) y v, ty, pos, aft, none⟩ = .wrM) (ht : T tt = .mp z) (hd : tk % 1024 = x0) (hm : h.sp tk = some (.map m)) (hn : m kk = none) (hr : (fun y => if y = kk then some vv else m y) = m') (hk : AX P T M cl ops l ⟨t, h.setS tk (.map m')⟩ K) : AX P T M cl ops (⟨none, .insert tt (.tmp x0) y v, ty, pos, aft, none⟩ :: l) ⟨t, h⟩ K := by
  subst hr; unfold AX; simp only [GX, DX, insAX, ht]; exact .inr ⟨h0, tk, x0, m, kk, vv, rfl, hx, hd, hy, hv, hm, hn, hk⟩
theorem AX.mlk {tt : TypeId} {x y : Operand} {cm : Bool} {m : MF} {kk : Int} {z : Value} {p : PV} (hx : evA t x = .fmap m) (hy : evA t y = .sc (.int .i64 kk)) (ht : T tt = .mp z) (hr : lkR cm m z kk = p) (hk : AX P T M cl ops l ⟨upd t d p, h⟩ K) : AX P T M cl ops (⟨some d, .lookup tt x y cm, ty, pos, aft, none⟩ :: l) ⟨t, h⟩ K := by
  subst hr; unfold AX; simp only [GX, DX, lkX, hx, hy, ht]; exact hk
theorem AX.mlkm {tt : TypeId} {x y : Operand} {cm : Bool} {tk : Nat} {m : MF} {kk : Int} {z : Value} {p : PV} (hx : evA t x = .mref tk) (hy : evA t y = .sc (.int .i64 kk)) (h0 : (cl ⟨some d, .lookup tt x y cm, ty, pos, aft, none⟩).lkp = true) (ht : T tt = .mp z) (hm : h.sp tk = some (.map m)) (hr : lkR cm m z kk = p) (hk : AX P T M cl ops l ⟨upd t d p, h⟩ K) : AX P T M cl ops (⟨some d, .lookup tt x y cm, ty, pos, aft, none⟩ :: l) ⟨t, h⟩ K := by
  subst hr; unfold AX; simp only [GX, DX, lkX, hx, hy, ht]; exact ⟨h0, m, hm, hk⟩
theorem AX.rng {tt : TypeId} {x : Operand} {m : MF} {z : Value} (hx : evA t x = .fmap m) (h0 : cl ⟨some d, .range tt x, ty, pos, aft, none⟩ = .wr) (ht : T tt = .mp z) (hk : AX P T M cl ops l ⟨upd t d (.itr (h.tok true)), h.addS true (.iter m [])⟩ K) : AX P T M cl ops (⟨some d, .range tt x, ty, pos, aft, none⟩ :: l) ⟨t, h⟩ K := by
  unfold AX; simp only [GX, DX, rngX, hx, ht]; exact ⟨h0, hk⟩
theorem AX.ent {x : Operand} {tk : Nat} {m : MF} {pre : List (Int × Value)} {k : Int} {v : Value} (hx : evA t x = .itr tk) (h0 : (cl ⟨some d, .entry x, ty, pos, aft, none⟩).lkp = true) (hm : h.sp tk = some (.iter m (pre ++ [(k, v)]))) (hk : AX P T M cl ops l ⟨upd t d (.tup [.sc (.int .i64 k), .sc v]), h⟩ K) : AX P T M cl ops (⟨some d, .entry x, ty, pos, aft, none⟩ :: l) ⟨t, h⟩ K := by
  unfold AX; simp only [GX, DX, entX, hx]; exact ⟨h0, .inl ⟨m, pre, k, v, hm, hk⟩⟩
theorem AX.gmk {tt : TypeId} {kk : KT} {zp : PV} (h0 : cl ⟨some d, .makeMap tt none, ty, pos, aft, none⟩ = .wr) (ht : T tt = .gm kk zp) (hk : AX P T M cl ops l ⟨upd t d (.mref (h.tok true)), h.addS true (.gmap kk [] [])⟩ K) : AX P T M cl ops (⟨some d, .makeMap tt none, ty, pos, aft, none⟩ :: l) ⟨t, h⟩ K := by
  unfold AX; simp only [GX, DX, mkmX, ht]; exact .inl ⟨trivial, h0, hk⟩
theorem AX.gup {tt : TypeId} {x y v : Operand} {tk : Nat} {kk : KT} {zp p : PV} {ks : List (List Int)} {ps : List PV} {key : List Int} (hx : evA t x = .mref tk) (hy : evA t y = kpv kk key) (hv : evA t v = p) (hok : kk.ok key) (h0 : cl ⟨none, .mapUpdate tt x y v, ty, pos, aft, none⟩ = .wr) (ht : T tt = .gm kk zp) (hm : h.sp tk = some (.gmap kk ks ps)) (hk : AX P T M cl ops l ⟨t, h.setS tk (.gmap kk (insK ks key) (insP ks ps key p))⟩ K) : AX P T M cl ops (⟨none, .mapUpdate tt x y v, ty, pos, aft, none⟩ :: l) ⟨t, h⟩ K := by
  subst hv; unfold AX; simp only [GX, DX, mupX, hx, ht]; exact ⟨h0, tk, ks, ps, key, rfl, hm, hy, hok, hk⟩
theorem AX.glk {tt : TypeId} {x y : Operand} {cm : Bool} {kk : KT} {zp p : PV} {ks : List (List Int)} {ps : List PV} {key : List Int} (hx : evA t x = .gfm kk ks ps) (hy : evA t y = kpv kk key) (hok : kk.ok key) (ht : T tt = .gm kk zp) (hr : lkG cm ks ps zp key = p) (hk : AX P T M cl ops l ⟨upd t d p, h⟩ K) : AX P T M cl ops (⟨some d, .lookup tt x y cm, ty, pos, aft, none⟩ :: l) ⟨t, h⟩ K := by
  subst hr; unfold AX; simp only [GX, DX, lkX, hx, ht]; exact .inl ⟨ks, ps, key, rfl, hy, hok, hk⟩
theorem AX.glkm {tt : TypeId} {x y : Operand} {cm : Bool} {tk : Nat} {kk : KT} {zp p : PV} {ks : List (List Int)} {ps : List PV} {key : List Int} (hx : evA t x = .mref tk) (hy : evA t y = kpv kk key) (hok : kk.ok key) (h0 : (cl ⟨some d, .lookup tt x y cm, ty, pos, aft, none⟩).lkp = true) (ht : T tt = .gm kk zp) (hm : h.sp tk = some (.gmap kk ks ps)) (hr : lkG cm ks ps zp key = p) (hk : AX P T M cl ops l ⟨upd t d p, h⟩ K) : AX P T M cl ops (⟨some d, .lookup tt x y cm, ty, pos, aft, none⟩ :: l) ⟨t, h⟩ K := by
  subst hr; unfold AX; simp only [GX, DX, lkX, hx, ht]; exact .inr ⟨tk, ks, ps, key, h0, rfl, hm, hy, hok, hk⟩
theorem AX.grng {tt : TypeId} {x : Operand} {kk : KT} {zp : PV} {ks : List (List Int)} {ps : List PV} (hx : evA t x = .gfm kk ks ps) (h0 : cl ⟨some d, .range tt x, ty, pos, aft, none⟩ = .wr) (ht : T tt = .gm kk zp) (hk : AX P T M cl ops l ⟨upd t d (.itr (h.tok true)), h.addS true (.giter kk ks ps [])⟩ K) : AX P T M cl ops (⟨some d, .range tt x, ty, pos, aft, none⟩ :: l) ⟨t, h⟩ K := by
  unfold AX; simp only [GX, DX, rngX, hx, ht]; exact ⟨h0, ks, ps, rfl, hk⟩
theorem AX.gent {x : Operand} {tk : Nat} {kk : KT} {ks : List (List Int)} {ps : List PV} {pre : List Nat} {i : Nat} {p q : PV} (hx : evA t x = .itr tk) (h0 : (cl ⟨some d, .entry x, ty, pos, aft, none⟩).lkp = true) (hm : h.sp tk = some (.giter kk ks ps (pre ++ [i]))) (hi : i < ps.length) (hp : kpv kk (ks.getD i []) = p) (hq : ps.getD i .junk = q) (hk : AX P T M cl ops l ⟨upd t d (.tup [p, q]), h⟩ K) : AX P T M cl ops (⟨some d, .entry x, ty, pos, aft, none⟩ :: l) ⟨t, h⟩ K := by
  subst hp; subst hq; unfold AX; simp only [GX, DX, entX, hx]; exact ⟨h0, .inr ⟨kk, ks, ps, pre, i, hm, hi, hk⟩⟩
theorem AX.glen {tt : TypeId} {x : Operand} {kk : KT} {zp : PV} {ks : List (List Int)} {ps : List PV} (hx : evA t x = .gfm kk ks ps) (ht : T tt = .gm kk zp) (hk : AX P T M cl ops l ⟨upd t d (.sc (.int .i64 (ks.length : Nat))), h⟩ K) : AX P T M cl ops (⟨some d, .call ⟨.builtin .len, #[x], #[tt]⟩, ty, pos, aft, none⟩ :: l) ⟨t, h⟩ K := by
  unfold AX; simp only [GX, DX, callX, biX, lenX, hx, ht, List.map_cons, List.map_nil]; exact .inl ⟨ks, ps, rfl, hk⟩
theorem AX.glenm {tt : TypeId} {x : Operand} {tk : Nat} {kk : KT} {zp : PV} {ks : List (List Int)} {ps : List PV} (hx : evA t x = .mref tk) (h0 : (cl ⟨some d, .call ⟨.builtin .len, #[x], #[tt]⟩, ty, pos, aft, none⟩).lkp = true) (ht : T tt = .gm kk zp) (hm : h.sp tk = some (.gmap kk ks ps)) (hk : AX P T M cl ops l ⟨upd t d (.sc (.int .i64 (ks.length : Nat))), h⟩ K) : AX P T M cl ops (⟨some d, .call ⟨.builtin .len, #[x], #[tt]⟩, ty, pos, aft, none⟩ :: l) ⟨t, h⟩ K := by
  unfold AX; simp only [GX, DX, callX, biX, lenX, hx, ht, List.map_cons, List.map_nil]; exact .inr ⟨tk, ks, ps, h0, rfl, hm, hk⟩
theorem AX.conv {s2 d2 : TypeId} {x : Operand} {vx v : Value} (hx : evA t x = .sc vx) (hr : ∀ w, (convert s2 d2 vx).run P w = .ok v w) (hk : AX P T M cl ops l ⟨upd t d (.sc v), h⟩ K) : AX P T M cl ops (⟨some d, .convert s2 d2 x, ty, pos, aft, none⟩ :: l) ⟨t, h⟩ K := by
  unfold AX; simp only [GX, DX]; exact ⟨vx, v, hx, hr, hk⟩
theorem AX.cpy {tt : TypeId} {x y : Operand} {el sz bs m m2 tk off : Nat} {zc : List Value} {cs cs2 r : List PV} (hx : evA t x = .ref tk off sz m) (h0 : cl ⟨some d, .call ⟨.builtin .copy, #[x, y], #[tt, tt]⟩, ty, pos, aft, none⟩ = .wr ∨ cl ⟨some d, .call ⟨.builtin .copy, #[x, y], #[tt, tt]⟩, ty, pos, aft, none⟩ = .wrS ∧ tk % 2 = 0) (ht : T tt = .sl el sz bs zc) (hb : h.blk tk = some cs) (hn : lenA (evA t y) = some m2) (hy : srcA h (cutA (Min.min m m2) (evA t y)) sz (Min.min m m2) cs2)
    (hl : off + m * sz ≤ cs.length) (h1 : ∀ p ∈ cs2, p.one = true) (hr : cs.take off ++ cs2 ++ cs.drop (off + Min.min m m2 * sz) = r) (hk : AX P T M cl ops l ⟨upd t d (.sc (.int .i64 (Min.min m m2 : Nat))), h.set tk r⟩ K) :
    AX P T M cl ops (⟨some d, .call ⟨.builtin .copy, #[x, y], #[tt, tt]⟩, ty, pos, aft, none⟩ :: l) ⟨t, h⟩ K := by
  subst hr; unfold AX; simp only [GX, DX, callX, biX, cpyX, hx, ht, List.map_cons, List.map_nil]; exact ⟨trivial, cs, m2, cs2, hb, hn, hy, trivial, h0, hl, h1, hk⟩
theorem AX.guard {op : Op} {dd : Option Tmp} {g : Nat} {want : Bool} {slot : Nat} {b : Bool} (hg : (ops[g]?).bind (·.dst) = some slot) (hb : t slot = .sc (.bool b)) (hcl : cl ⟨dd, op, ty, pos, aft, some (g, want)⟩ = cl ⟨dd, op, ty, pos, aft, none⟩)
    (h1 : b = want → AX P T M cl ops (⟨dd, op, ty, pos, aft, none⟩ :: l) ⟨t, h⟩ K) (h2 : b ≠ want → AX P T M cl ops l ⟨putA t dd (.sc undef), h⟩ K) : AX P T M cl ops (⟨dd, op, ty, pos, aft, some (g, want)⟩ :: l) ⟨t, h⟩ K := by
  unfold AX
  unfold AX at h1
  simp only [GX, hg, scX, hb]
  refine ⟨fun hh => ?_, h2⟩
  have := h1 hh
  simp only [GX] at this
  rw [hcl]
  exact this
theorem AX.guardU {op : Op} {dd : Option Tmp} {g : Nat} {want : Bool} {slot : Nat} (hg : (ops[g]?).bind (·.dst) = some slot) (hb : t slot = .sc undef) (h2 : AX P T M cl ops l ⟨putA t dd (.sc undef), h⟩ K) : AX P T M cl ops (⟨dd, op, ty, pos, aft, some (g, want)⟩ :: l) ⟨t, h⟩ K := by
  unfold AX
  simp only [GX, hg, scX, hb, undef]
  exact h2
theorem upd_eta {f : Nat → PV} {d : Nat} {v : PV} (hv : f d = v) : f = upd f d v := by
  funext x
  unfold upd
  split
  · rename_i e; rw [e]; exact hv
  · rfl
end Go.Proofs.YtkmkcbkfakoomaaDoor
