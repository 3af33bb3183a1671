/- Facts and contracts that the claim uses. No condition of its own. -/
import Derived.Test.YtkmkcbkfakoomaaDoorGRingTextsAU
set_option linter.unusedVariables false
set_option linter.unusedSimpArgs false
namespace Go.Proofs.YtkmkcbkfakoomaaDoor
open Go.RowKit
variable {P : Program} {T : TypeId → TI} {M : Hn} {cl : Oper → Cls} {ops : Array Oper} {l : List Oper} {t : Nat → PV} {h : HP} {K : AS → Prop} {d : Nat} {ty : TypeId} {pos : String} {aft : Array Edge} {n : Nat} {Q : Exit → AS → Prop}
def jk : Nat → PV := fun _ => .junk
def updL : List PV → Nat → (Nat → PV) → Nat → PV
  | [], _, f => f
  | p :: ps, k, f => upd (updL ps (k + 1) f) k p
theorem argT_eq : ∀ (ps : List PV) (k x : Nat), updL ps k jk (k + x) = ps.getD x .junk
  | [], k, x => by simp [updL, jk]
  | p :: ps, k, x => by
    simp only [updL, upd]
    cases x with
    | zero => simp
    | succ x =>
      rw [if_neg (by omega)]
      have := argT_eq ps (k + 1) x
      rw [show k + (x + 1) = k + 1 + x by omega, this]
      simp
theorem SC.go {f : FuncId} {fn : Func} {c : Code} {args : List PV} {r : PV} (M : Hn) (hT : TOk P T) (hm : P.follows .mixedOrders = true) (hf : P.funcs[f]? = some fn) (hn : (fn.name == "runtime.NumGoroutine") = false) (hb : fn.body = some c) (hnt : fn.ntmps = n)
    (hk : Nat.ble args.length n = true) (hr : Nat.ble 0 n = true) (hc : codeOk M n c = true)
    (h : CW P T M n c ⟨updL args 0 jk, H0⟩ (fun e s' => (e = .normal ∨ e = .ret) ∧ FzRes T s' fn.results.toList r)) : SC P f args r := by
  have e : argT args = updL args 0 jk := by
    funext x
    have := argT_eq args 0 x
    rw [Nat.zero_add] at this
    exact this.symm
  rw [← e] at h
  exact SC.walk M hT hm hf hn hb hnt hk hr hc h
theorem SChE.go {f : FuncId} {fn : Func} {c : Code} {args : List PV} {Q0 : PV → HP → Prop} (M : Hn) (hT : TOk P T) (hm : P.follows .mixedOrders = true) (hf : P.funcs[f]? = some fn) (hn : (fn.name == "runtime.NumGoroutine") = false) (hb : fn.body = some c) (hnt : fn.ntmps = n)
    (hk : Nat.ble args.length n = true) (hr : Nat.ble 0 n = true) (hc : codeOk M n c = true)
    (hw : h.Wf → CW P T M n c ⟨updL args 0 jk, h⟩ (fun e s' => (e = .normal ∨ e = .ret) ∧ ∃ ps, retC T s' fn.results.toList ps ∧ Q0 (packP ps) s'.hp)) : SChE P f args h Q0 := by
  have e : argT args = updL args 0 jk := by
    funext x
    have := argT_eq args 0 x
    rw [Nat.zero_add] at this
    exact this.symm
  rw [← e] at hw
  exact SChE.walk M hT hm hf hn hb hnt hk hr hc hw
theorem SCo.go {f : FuncId} {fn : Func} {c : Code} {args : List PV} {sz m : Nat} {cs : List PV} (M : Hn) (hT : TOk P T) (hm : P.follows .mixedOrders = true) (hf : P.funcs[f]? = some fn) (hn : (fn.name == "runtime.NumGoroutine") = false) (hb : fn.body = some c) (hnt : fn.ntmps = n)
    (hk : Nat.ble args.length n = true) (hr : resOk n fn.results.toList = true) (hc : codeOk M n c = true)
    (h : CW P T M n c ⟨updL args 0 jk, H0⟩ (fun e s' => (e = .normal ∨ e = .ret) ∧ Ow s'.hp (retPV s' fn.results.toList) sz m cs)) : SCo P f args sz m cs := by
  have e : argT args = updL args 0 jk := by
    funext x
    have := argT_eq args 0 x
    rw [Nat.zero_add] at this
    exact this.symm
  rw [← e] at h
  exact SCo.walk M hT hm hf hn hb hnt hk hr hc h
theorem Ow.ints {h : HP} {t k : Nat} {zs ys : List Int} (hb : h.blk t = some (ints zs)) (hn : k = zs.length) (hz : zs = ys) : Ow h (.ref t 0 1 k) 1 ys.length (ints ys) := by
  subst hz hn
  exact .ref hb (by simp) (by simp [ints_take]) (ints_cl _)
theorem SCo.sc {f : FuncId} {args : List PV} {sz m : Nat} {cs : List PV} (h : SCo P f args sz m cs) (hl : cs.length = m * sz) : SC P f args (.lst false sz m cs) := by
  refine ⟨h.1, fun Z w vs hz hvs hv => (h.2 Z w vs hz hvs hv).mono ?_⟩
  rintro _ w' ⟨A, cap, rfl, g1, g2, hb, g3, g4⟩
  refine ⟨_, rfl, ?_, hb⟩
  by_cases hc : cap = 0
  · have := g3 hc
    subst this
    exact .lst _ _ _ cap _ _ (fun _ => undef) g1 (fun hh => by cases hh) g2 hl (fun hne => absurd rfl hne) (fun i hi => by simp at hi)
  · obtain ⟨b, k, arr, T, rfl, q1, q2, q3, q4, q5⟩ := g4 hc
    exact .lst _ _ _ cap _ _ (fun i => arr.getD (k + i) undef) g1 (fun hh => by cases hh) g2 hl (fun hne => ⟨b, k, rfl, fun hz2 => by have := hz b hz2; omega, lt_of_heap q2, fun i hi => cell_live q2 (by omega)⟩)
      (fun i hi => (q5 i hi).mono (fun k _ hk => .inl hk))
theorem CW.freezeI {c : Code} (d : Nat) {tk : Nat} {xs : List Int} (hd : t d = .ref tk 0 1 xs.length) (hb : h.blk tk = some (ints xs)) (hk : CW P T M n c ⟨upd t d (pli xs), h.kill tk⟩ Q) : CW P T M n c ⟨t, h⟩ Q :=
  CW.freeze d hd hb (by simp) (v := pli xs) (by simp [ints_take, pli]) hk
theorem app_full {zs ys : List Int} {k : Nat} (hk : k = zs.length) : ((ints zs).drop 0).take (k * 1) ++ ints ys = ints (zs ++ ys) := by
  subst hk; simp [ints_take, ints_append]
theorem app_full1 {zs : List Int} {k : Nat} {x : Int} (hk : k = zs.length) : ((ints zs).drop 0).take (k * 1) ++ [PV.sc (.int .i64 x)] = ints (zs ++ [x]) := app_full (ys := [x]) hk
theorem HP.tokF (h : HP) : h.tok false = 2 * h.next := by simp [HP.tok]
theorem HP.tokT (h : HP) : h.tok true = 2 * h.next + 1 := by simp [HP.tok]
theorem HP.next_add (h : HP) (b : Bool) (cs : List PV) : (h.add b cs).next = h.next + 1 := rfl
theorem HP.next_set (h : HP) (t : Nat) (cs : List PV) : (h.set t cs).next = h.next := rfl
theorem HP.next_kill (h : HP) (t : Nat) : (h.kill t).next = h.next := rfl
theorem HP.next_H0 : H0.next = 0 := rfl
theorem HP.next_addS (h : HP) (b : Bool) (c : SpC) : (h.addS b c).next = h.next + 1 := rfl
theorem HP.next_setS (h : HP) (t : Nat) (c : SpC) : (h.setS t c).next = h.next := rfl
theorem HP.next_killS (h : HP) (t : Nat) : (h.killS t).next = h.next := rfl
theorem HP.next_put (h : HP) (t : Nat) (cs : List PV) : (h.put t cs).next = h.next := rfl
theorem HP.next_bump (h : HP) (k : Nat) : (h.bump k).next = h.next + k := rfl
theorem HP.next_putS (h : HP) (t : Nat) (c : SpC) : (h.putS t c).next = h.next := rfl
theorem HP.blk_putS (h : HP) (t : Nat) (c : SpC) (x : Nat) : (h.putS t c).blk x = h.blk x := rfl
theorem HP.blk_bump (h : HP) (k x : Nat) : (h.bump k).blk x = h.blk x := rfl
theorem HP.blk_addS (h : HP) (b : Bool) (c : SpC) (x : Nat) : (h.addS b c).blk x = h.blk x := rfl
theorem HP.blk_setS (h : HP) (t : Nat) (c : SpC) (x : Nat) : (h.setS t c).blk x = h.blk x := rfl
theorem HP.blk_killS (h : HP) (t x : Nat) : (h.killS t).blk x = h.blk x := rfl
theorem HP.tok_even (h : HP) : h.tok false % 2 = 0 := by simp [HP.tok]
theorem HP.tok_odd (h : HP) : h.tok true % 2 = 1 := by unfold HP.tok; rw [if_pos rfl]; omega
theorem AW.pickT {x y z : Operand} {b : Bool} {v : PV} (hx : evA t x = .sc (.bool b)) (hb : b = true) (hv : evA t y = v) (hk : AW P T M cl ops l ⟨upd t d v, h⟩ K) : AW P T M cl ops (⟨some d, .pick x y z, ty, pos, aft, none⟩ :: l) ⟨t, h⟩ K :=
  AW.pick hx (by rw [hb]; exact hv) hk
theorem AW.pickF {x y z : Operand} {b : Bool} {v : PV} (hx : evA t x = .sc (.bool b)) (hb : b = false) (hv : evA t z = v) (hk : AW P T M cl ops l ⟨upd t d v, h⟩ K) : AW P T M cl ops (⟨some d, .pick x y z, ty, pos, aft, none⟩ :: l) ⟨t, h⟩ K :=
  AW.pick hx (by rw [hb]; exact hv) hk
section sls
variable {tt : TypeId} {x : Operand} {c : Bool} {el bs : Nat} {zc : List Value} {xs : List Int} {v : PV} {k1 k2 : IntKind} {z1 z2 : Int}
theorem AW.slClip {hi mx : Operand} (hx : evA t x = .lst c 1 xs.length (ints xs)) (ht : T tt = .sl el 1 bs zc) (hl : evA t hi = .sc (.int k1 xs.length)) (hh : evA t mx = .sc (.int k2 xs.length)) (hk : AW P T M cl ops l ⟨upd t d (.lst true 1 xs.length (ints xs)), h⟩ K) :
    AW P T M cl ops (⟨some d, .slice tt x none (some hi) (some mx), ty, pos, aft, none⟩ :: l) ⟨t, h⟩ K := by
  have := AW.sll3 (P := P) (M := M) (cl := cl) (ops := ops) (l := l) (h := h) (K := K) (d := d) (ty := ty) (pos := pos) (aft := aft) (lo := none) hx ht (.inl rfl) rfl ⟨_, hl⟩ ⟨_, hh⟩ ⟨Int.le_refl _, by omega, Int.le_refl _⟩
  refine this ?_
  have e : ((ints xs).drop ((0 : Int).toNat * 1)).take (((xs.length : Int).toNat - (0 : Int).toNat) * 1) = ints xs := by
    simp [ints_take]
  rw [e]
  simpa using hk
end sls
theorem AW.stR {tt : TypeId} {x y : Operand} {tk off : Nat} {cs r : List PV} {v : PV} (hx : evA t x = .ptr tk off) (h0 : cl ⟨none, .store tt x y, ty, pos, aft, none⟩ = .wr ∨ cl ⟨none, .store tt x y, ty, pos, aft, none⟩ = .wrS ∧ tk % 2 = 0 ∨ cl ⟨none, .store tt x y, ty, pos, aft, none⟩ = .wrO ∧ tk % 2 = 1 ∨ cl ⟨none, .store tt x y, ty, pos, aft, none⟩ = .wrQ) (hy : evA t y = v) (ht : (T tt).shape = some (false, 1)) (hb : h.blk tk = some cs) (hl : off < cs.length) (h1 : v.one = true) (hr : cs.set off v = r)
    (hk : AW P T M cl ops l ⟨t, h.set tk r⟩ K) : AW P T M cl ops (⟨none, .store tt x y, ty, pos, aft, none⟩ :: l) ⟨t, h⟩ K := by
  subst hr; exact AW.st hx h0 hy ht hb hl h1 hk
def updS : List (Nat × PV) → (Nat → PV) → Nat → PV
  | [], t => t
  | (d, v) :: l, t => upd (updS l t) d v
def allS : List (Nat × PV) → (Nat → PV) → Prop
  | [], _ => True
  | (d, v) :: l, t => t d = v ∧ allS l t
theorem updS_eta : ∀ (l : List (Nat × PV)) (t : Nat → PV), allS l t → updS l t = t
  | [], _, _ => rfl
  | (d, v) :: l, t, h => by
    simp only [updS]
    rw [updS_eta l t h.2]
    exact (upd_eta h.1).symm
theorem CW.loopS {ι : Type} {c : Code} {s : AS} (C : ι → Prop) (sl : ι → List (Nat × PV)) (hp : ι → HP → Prop) (μ : ι → Nat) (i0 : ι) (h0 : C i0 ∧ allS (sl i0) s.tmps ∧ hp i0 s.hp)
    (round : ∀ i t h, C i → hp i h → CW P T M n c ⟨updS (sl i) t, h⟩ (TQ (fun s' => ∃ j, C j ∧ allS (sl j) s'.tmps ∧ hp j s'.hp ∧ μ j < μ i) Q)) : CW P T M n (.loop c) s Q :=
  CW.loop (fun i s => C i ∧ allS (sl i) s.tmps ∧ hp i s.hp) μ i0 h0 (fun i s hi => by
    obtain ⟨h1, h2, h3⟩ := hi
    have := round i s.tmps s.hp h1 h3
    rw [updS_eta _ _ h2] at this
    refine ⟨fun q1 q2 q3 => .mono (this.out q1 q2 q3) (fun e s h => ⟨?_⟩)⟩
    have := h.out
    cases e with
    | normal =>
      obtain ⟨j, k1, k2, k3, k4⟩ := this
      exact ⟨j, ⟨k1, k2, k3⟩, k4⟩
    | _ => exact this)
end Go.Proofs.YtkmkcbkfakoomaaDoor
