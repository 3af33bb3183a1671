/- Facts and contracts that the claim uses. No condition of its own. -/
import Derived.Test.YtdlpbpfcgjgppaaGJonesStatesAV
set_option linter.unusedVariables false
set_option linter.unusedSimpArgs false
namespace Go.Proofs.Ytdlpbpfcgjgppaa
open Go.RowKit
def lkH : List (Nat × List PV) → Nat → Option (List PV)
  | [], _ => none
  | (k, c) :: l, x => bif Nat.beq x k then some c else lkH l x
def stH : List (Nat × List PV) → Nat → List PV → List (Nat × List PV)
  | [], t, cs => [(t, cs)]
  | (k, c) :: l, t, cs => bif Nat.beq k t then (t, cs) :: l else (k, c) :: stH l t cs
def klH : List (Nat × List PV) → Nat → List (Nat × List PV)
  | [], _ => []
  | (k, c) :: l, t => bif Nat.beq k t then klH l t else (k, c) :: klH l t
theorem lk_st (x t : Nat) (cs : List PV) : ∀ l, lkH (stH l t cs) x = bif Nat.beq x t then some cs else lkH l x
  | [] => rfl
  | (k, c) :: l => by
    simp only [stH]
    by_cases h : k = t
    · subst h
      simp only [Nat.beq_refl, cond_true, lkH]
      cases Nat.beq x k <;> rfl
    · rw [beq_of_ne h]
      simp only [cond_false, lkH]
      rw [lk_st x t cs l]
      by_cases hx : x = k
      · subst hx
        rw [beq_of_ne h]
        simp
      · rw [beq_of_ne hx]
        rfl
theorem lk_kl (x t : Nat) : ∀ l, lkH (klH l t) x = bif Nat.beq x t then none else lkH l x
  | [] => by simp only [klH, lkH]; cases Nat.beq x t <;> rfl
  | (k, c) :: l => by
    simp only [klH]
    by_cases h : k = t
    · subst h
      simp only [Nat.beq_refl, cond_true, lkH]
      rw [lk_kl x k l]
      cases Nat.beq x k <;> rfl
    · rw [beq_of_ne h]
      simp only [cond_false, lkH]
      rw [lk_kl x t l]
      by_cases hx : x = k
      · subst hx
        rw [beq_of_ne h]
        simp
      · rw [beq_of_ne hx]
        rfl
structure EH where
  bl : List (Nat × List PV)
  next : Nat
def EH.hp (e : EH) : HP := ⟨fun t => lkH e.bl t, e.next, fun _ => none, fun _ => false⟩
def EH.set (e : EH) (t : Nat) (cs : List PV) : EH := ⟨stH e.bl t cs, e.next⟩
def EH.kill (e : EH) (t : Nat) : EH := ⟨klH e.bl t, e.next⟩
def EH.tok (e : EH) (b : Bool) : Nat := 2 * e.next + (bif b then 1 else 0)
def EH.add (e : EH) (b : Bool) (cs : List PV) : EH := ⟨(e.tok b, cs) :: e.bl, e.next + 1⟩
theorem EH.hp_tok (e : EH) (b : Bool) : e.hp.tok b = e.tok b := by cases b <;> rfl
theorem EH.hp_set (e : EH) (t : Nat) (cs : List PV) : (e.set t cs).hp = e.hp.set t cs := by
  simp only [EH.hp, EH.set, HP.set, HP.mk.injEq, and_true]
  funext x; exact lk_st x t cs _
theorem EH.hp_kill (e : EH) (t : Nat) : (e.kill t).hp = e.hp.kill t := by
  simp only [EH.hp, EH.kill, HP.kill, HP.mk.injEq, and_true]
  funext x; exact lk_kl x t _
theorem EH.hp_add (e : EH) (b : Bool) (cs : List PV) : (e.add b cs).hp = e.hp.add b cs := by
  simp only [EH.hp, EH.add, HP.add, HP.mk.injEq, and_true]
  funext x
  simp only [lkH]
  rw [show ({ blk := fun t => lkH e.bl t, next := e.next, sp := fun _ => none, win := fun _ => false } : HP).tok b = e.tok b from e.hp_tok b]
theorem EH.hp_blk (e : EH) (t : Nat) : e.hp.blk t = lkH e.bl t := rfl
def rdO : Cls → Nat → Bool
  | .read, _ | .wrS, _ | .wr, _ => true
  | .readB, tk => Nat.beq (tk % 2) 1
  | _, _ => false
def wrO : Cls → Nat → Bool
  | .wr, _ => true
  | .wrS, tk => Nat.beq (tk % 2) 0
  | _, _ => false
def nwO : Cls → Bool
  | .wr | .wrS => true
  | _ => false
def isW : Cls → Bool
  | .wr => true
  | _ => false
def r3O : Cls → Bool
  | .read | .wr | .wrS => true
  | _ => false
theorem rdO_s {c : Cls} {tk : Nat} (h : rdO c tk = true) : c = .read ∨ c = .wrS ∨ c = .wr ∨ c = .readB ∧ tk % 2 = 1 ∨ c = .readL ∧ tk % 2 = 0 := by
  cases c <;> simp_all [rdO]
theorem wrO_s {c : Cls} {tk : Nat} (h : wrO c tk = true) : c = .wr ∨ c = .wrS ∧ tk % 2 = 0 := by
  cases c <;> simp_all [wrO]
theorem wrO_t {c : Cls} {tk : Nat} (h : wrO c tk = true) : c = .wr ∨ c = .wrS ∧ tk % 2 = 0 ∨ c = .wrO ∧ tk % 2 = 1 ∨ c = .wrQ := by
  rcases wrO_s h with h | h
  · exact .inl h
  · exact .inr (.inl h)
theorem nwO_s {c : Cls} (h : nwO c = true) : c = .wr ∨ c = .wrS := by cases c <;> simp_all [nwO]
theorem isW_s {c : Cls} (h : isW c = true) : c = .wr := by cases c <;> simp_all [isW]
theorem r3O_s {c : Cls} (h : r3O c = true) : c = .read ∨ c = .wrS ∨ c = .wr := by cases c <;> simp_all [r3O]
def i64B (z : Int) : Bool := decide (-9223372036854775808 ≤ z) && decide (z ≤ 9223372036854775807)
theorem i64B_s {z : Int} (h : i64B z = true) : in64 z := by simpa [i64B, in64] using h
def isBT : TI → Bool
  | .bool => true
  | _ => false
def binE (tb : Bool) (bop : BinOp) (x y : Value) : Option Value :=
  match x, y with
  | .int .i64 a, .int .i64 b =>
    match bop with
    | .add => bif i64B (a + b) then some (.int .i64 (a + b)) else none
    | .sub => bif i64B (a - b) then some (.int .i64 (a - b)) else none
    | .mul => bif i64B (a * b) then some (.int .i64 (a * b)) else none
    | .quo => bif !decide (b = 0) && decide (-9223372036854775807 ≤ a) && decide (a ≤ 9223372036854775807) then some (.int .i64 (a.tdiv b)) else none
    | .rem => bif !decide (b = 0) then some (.int .i64 (a.tmod b)) else none
    | .eql => some (.bool (decide (a = b)))
    | .neq => some (.bool (!decide (a = b)))
    | .lss => some (.bool (decide (a < b)))
    | .leq => some (.bool (decide (a ≤ b)))
    | .gtr => some (.bool (decide (b < a)))
    | .geq => some (.bool (decide (b ≤ a)))
    | _ => none
  | .bool a, .bool b => bif tb then
    match bop with
    | .eql => some (.bool (a == b))
    | .neq => some (.bool (!(a == b)))
    | _ => none
    else none
  | _, _ => none
theorem cond_some {α : Type} {b : Bool} {x : Option α} {v : α} (h : (bif b then x else none) = some v) : b = true ∧ x = some v := by cases b <;> simp_all
theorem binE_s {tb : Bool} {tp : Prop} {bop : BinOp} {x y v : Value} {k : Value → Prop} (h : binE tb bop x y = some v) (ht : tb = true → tp) (hk : k v) : binX tp bop x y k := by
  unfold binE at h
  unfold binX
  split at h
  · split at h
    · obtain ⟨h1, h2⟩ := cond_some h; cases h2; exact ⟨i64B_s h1, hk⟩
    · obtain ⟨h1, h2⟩ := cond_some h; cases h2; exact ⟨i64B_s h1, hk⟩
    · obtain ⟨h1, h2⟩ := cond_some h; cases h2; exact ⟨i64B_s h1, hk⟩
    · obtain ⟨h1, h2⟩ := cond_some h; cases h2; exact ⟨by simpa [Vc, and_assoc] using h1, hk⟩
    · obtain ⟨h1, h2⟩ := cond_some h; cases h2; exact ⟨by simpa [Vc] using h1, hk⟩
    all_goals first | (cases h; exact hk) | (cases h)
  · obtain ⟨h1, h2⟩ := cond_some h
    refine ⟨ht h1, ?_⟩
    split at h2
    · cases h2; exact hk
    · cases h2; exact hk
    · cases h2
  · cases h
variable {P : Program} {T : TypeId → TI} {M : Hn} {c : Cls} {e : Operand → PV} {h h' : EH} {k : PV → HP → Prop}
def ibB (i : Int) (n : Nat) : Bool := decide (0 ≤ i) && decide (i < (n : Int))
theorem ibB_s {i : Int} {n : Nat} (h : ibB i n = true) : 0 ≤ i ∧ i < n := by simpa [ibB] using h
def ixE (T : TypeId → TI) (t : TypeId) (x ix : PV) : Option PV :=
  match ix with
  | .sc (.int _ i) => match x with
    | .lst _ sz' n cs => match T t with
      | .sl _ sz _ _ => bif Nat.beq sz' sz && ibB i n then some (.lptr (cs.drop (i.toNat * sz))) else none
      | _ => none
    | .ref tk off sz' n => match T t with
      | .sl _ sz _ _ => bif Nat.beq sz' sz && ibB i n then some (.ptr tk (off + i.toNat * sz)) else none
      | _ => none
    | .ptr tk off => match T t with
      | .ar len _ sz _ _ => bif ibB i len then some (.ptr tk (off + i.toNat * sz)) else none
      | _ => none
    | .lptr cs => match T t with
      | .ar len _ sz _ _ => bif ibB i len then some (.lptr (cs.drop (i.toNat * sz))) else none
      | _ => none
    | _ => none
  | _ => none
theorem ixE_s {t : TypeId} {x ix v : PV} {h : HP} (he : ixE T t x ix = some v) (hk : k v h) : ixX T h k t x ix := by
  unfold ixE at he
  unfold ixX
  split at he
  · split at he
    · split at he
      · rename_i hT
        simp only [hT]
        obtain ⟨h1, h2⟩ := cond_some he; cases h2
        rw [Bool.and_eq_true] at h1
        exact ⟨Nat.eq_of_beq_eq_true h1.1, ibB_s h1.2, hk⟩
      · cases he
    · split at he
      · rename_i hT
        simp only [hT]
        obtain ⟨h1, h2⟩ := cond_some he; cases h2
        rw [Bool.and_eq_true] at h1
        exact ⟨Nat.eq_of_beq_eq_true h1.1, ibB_s h1.2, hk⟩
      · cases he
    · split at he
      · rename_i hT
        simp only [hT]
        obtain ⟨h1, h2⟩ := cond_some he; cases h2
        exact ⟨ibB_s h1, hk⟩
      · cases he
    · split at he
      · rename_i hT
        simp only [hT]
        obtain ⟨h1, h2⟩ := cond_some he; cases h2
        exact ⟨ibB_s h1, hk⟩
      · cases he
    · cases he
  · cases he
def ldE (T : TypeId → TI) (c : Cls) (h : EH) (t : TypeId) (x : PV) : Option PV :=
  match x with
  | .lptr cs => match (T t).shape with
    | some (false, 1) => cs[0]?
    | some (true, sz) => bif Nat.ble sz cs.length then some (.agg (cs.take sz)) else none
    | _ => none
  | .ptr tk off => bif rdO c tk then match lkH h.bl tk with
    | some cs => match (T t).shape with
      | some (false, 1) => cs[off]?
      | some (true, sz) => bif Nat.ble (off + sz) cs.length then some (.agg ((cs.drop off).take sz)) else none
      | _ => none
    | none => none
    else none
  | _ => none
theorem ldE_s {t : TypeId} {x v : PV} (he : ldE T c h t x = some v) (hk : k v h.hp) : ldX T c h.hp k t x := by
  unfold ldE at he
  unfold ldX
  split at he
  · split at he
    · rename_i hs
      simp only [hs]
      exact ⟨v, he, hk⟩
    · rename_i sz hs
      obtain ⟨h1, h2⟩ := cond_some he; cases h2
      simp only [hs]
      exact ⟨Nat.le_of_ble_eq_true h1, hk⟩
    · cases he
  · obtain ⟨h1, h2⟩ := cond_some he
    refine ⟨rdO_s h1, ?_⟩
    split at h2
    · rename_i cs hl
      split at h2
      · rename_i hs
        simp only [hs]
        exact ⟨cs, v, hl, h2, hk⟩
      · rename_i sz hs
        obtain ⟨h3, h4⟩ := cond_some h2; cases h4
        simp only [hs]
        exact ⟨cs, hl, Nat.le_of_ble_eq_true h3, hk⟩
      · cases h2
    · cases h2
  · cases he
def stE (T : TypeId → TI) (c : Cls) (h : EH) (t : TypeId) (x y : PV) : Option EH :=
  match x with
  | .ptr tk off => bif wrO c tk then match lkH h.bl tk with
    | some cs => match (T t).shape with
      | some (false, 1) => bif Nat.blt off cs.length && y.one then some (h.set tk (cs.set off y)) else none
      | some (true, sz) => match y with
        | .agg vs => bif Nat.beq vs.length sz && Nat.ble (off + sz) cs.length && vs.all PV.one then some (h.set tk (cs.take off ++ vs ++ cs.drop (off + sz))) else none
        | _ => none
      | _ => none
    | none => none
    else none
  | _ => none
theorem stE_s {t : TypeId} {x y : PV} (he : stE T c h t x y = some h') (hk : k .junk h'.hp) : stX T c h.hp k t x y := by
  unfold stE at he
  unfold stX
  split at he
  · obtain ⟨h1, h2⟩ := cond_some he
    refine ⟨wrO_t h1, ?_⟩
    split at h2
    · rename_i cs hl
      split at h2
      · rename_i hs
        obtain ⟨h3, h4⟩ := cond_some h2; cases h4
        rw [Bool.and_eq_true] at h3
        simp only [hs]
        rw [EH.hp_set] at hk
        exact ⟨cs, hl, by simpa [Vc, Nat.blt_eq] using h3.1, h3.2, hk⟩
      · rename_i sz hs
        split at h2
        · rename_i vs
          obtain ⟨h3, h4⟩ := cond_some h2; cases h4
          simp only [Bool.and_eq_true, List.all_eq_true] at h3
          simp only [hs]
          rw [EH.hp_set] at hk
          exact ⟨cs, hl, Nat.eq_of_beq_eq_true h3.1.1, Nat.le_of_ble_eq_true h3.1.2, h3.2, hk⟩
        · cases h2
      · cases h2
    · cases h2
  · cases he
def faE (T : TypeId → TI) (t : TypeId) (x : PV) (f : Nat) : Option PV :=
  match T t with
  | .st _ _ fs => match fs[f]? with
    | some (off, _, _) => match x with
      | .lptr cs => some (.lptr (cs.drop off))
      | .ptr tk kk => some (.ptr tk (kk + off))
      | _ => none
    | none => none
  | _ => none
theorem faE_s {t : TypeId} {x v : PV} {f : Nat} {h : HP} (he : faE T t x f = some v) (hk : k v h) : faX T h k t x f := by
  unfold faE at he
  unfold faX
  split at he
  · rename_i hT
    simp only [hT]
    split at he
    · rename_i hf
      split at he
      · cases he; simp only [hf]; exact hk
      · cases he; simp only [hf]; exact hk
      · cases he
    · cases he
  · cases he
def fdE (T : TypeId → TI) (t : TypeId) (x : PV) (f : Nat) : Option PV :=
  match T t with
  | .st _ _ fs => match x with
    | .agg cs => match fs[f]? with
      | some (off, _, false) => cs[off]?
      | some (off, sz, true) => bif Nat.ble (off + sz) cs.length then some (.agg ((cs.drop off).take sz)) else none
      | none => none
    | _ => none
  | _ => none
theorem fdE_s {t : TypeId} {x v : PV} {f : Nat} {h : HP} (he : fdE T t x f = some v) (hk : k v h) : fdX T h k t x f := by
  unfold fdE at he
  unfold fdX
  split at he
  · rename_i hT
    simp only [hT]
    split at he
    · split at he
      · rename_i hf; simp only [hf]; exact ⟨v, he, hk⟩
      · rename_i hf
        obtain ⟨h1, h2⟩ := cond_some he; cases h2
        simp only [hf]; exact ⟨Nat.le_of_ble_eq_true h1, hk⟩
      · cases he
    · cases he
  · cases he
def boxE (M : Hn) (c : Cls) (h : EH) (d : Option Tmp) (x : PV) : Option (PV × EH) :=
  match x with
  | .agg cs => bif inL M.mt d then (bif isW c then some (.ptr (h.tok true) 0, h.add true cs) else none) else some (.lptr cs, h)
  | p => bif p.one then (bif inL M.mt d then (bif isW c then some (.ptr (h.tok true) 0, h.add true [p]) else none) else some (.lptr [p], h)) else none
theorem boxE_s {x v : PV} {d : Option Tmp} (he : boxE M c h d x = some (v, h')) (hk : k v h'.hp) : boxX M c h.hp k d x := by
  have key : ∀ cs : List PV, (bif inL M.mt d then (bif isW c then some (PV.ptr (h.tok true) 0, h.add true cs) else none) else some (.lptr cs, h)) = some (v, h') →
      (inL M.mt d = true → c = .wr ∧ k (.ptr (h.hp.tok true) 0) (h.hp.add true cs)) ∧ (inL M.mt d = false → k (.lptr cs) h.hp) := fun cs hh => by
    cases hm : inL M.mt d
    · rw [hm] at hh; simp only [cond_false, Option.some.injEq, Prod.mk.injEq] at hh
      obtain ⟨rfl, rfl⟩ := hh
      exact ⟨fun q => (by cases q), fun _ => hk⟩
    · rw [hm] at hh; simp only [cond_true] at hh
      obtain ⟨h1, h2⟩ := cond_some hh
      simp only [Option.some.injEq, Prod.mk.injEq] at h2
      obtain ⟨rfl, rfl⟩ := h2
      rw [EH.hp_add] at hk
      exact ⟨fun _ => ⟨isW_s h1, by rw [EH.hp_tok]; exact hk⟩, fun q => by cases q⟩
  unfold boxE at he
  split at he
  · exact key _ he
  · rename_i hp
    obtain ⟨h1, h2⟩ := cond_some he
    have := key [x] h2
    unfold boxX
    split
    · rename_i cs; exact absurd rfl (hp cs)
    · exact ⟨h1, this⟩
def mkE (T : TypeId → TI) (c : Cls) (h : EH) (t : TypeId) (x y : PV) : Option (PV × EH) :=
  match x with
  | .sc (.int _ a) => match y with
    | .sc (.int _ b) => match T t with
      | .sl _ sz bs zc => bif nwO c && decide (0 ≤ a) && decide (a ≤ b) && decide ((bs : Int) * b ≤ 140737488355328) && decide (b ≤ 140737488355328) then some (.ref (h.tok false) 0 sz a.toNat, h.add false ((List.replicate a.toNat (zc.map ofConst.ofCell)).flatten)) else none
      | _ => none
    | _ => none
  | _ => none
theorem mkE_s {t : TypeId} {x y v : PV} (he : mkE T c h t x y = some (v, h')) (hk : k v h'.hp) : mkX T c h.hp k t x y := by
  unfold mkE at he
  unfold mkX
  split at he
  · split at he
    · split at he
      · rename_i hT
        simp only [hT]
        obtain ⟨h1, h2⟩ := cond_some he
        simp only [Option.some.injEq, Prod.mk.injEq] at h2
        obtain ⟨rfl, rfl⟩ := h2
        simp only [Bool.and_eq_true, decide_eq_true_eq] at h1
        rw [EH.hp_add] at hk
        exact ⟨nwO_s h1.1.1.1.1, ⟨h1.1.1.1.2, h1.1.1.2, h1.1.2, h1.2⟩, by rw [EH.hp_tok]; exact hk⟩
      · cases he
    · cases he
  · cases he
def bdE (e : Operand → PV) (x : Option Operand) (dflt : Int) : Option Int :=
  match x with
  | none => some dflt
  | some y => match e y with
    | .sc (.int _ z) => some z
    | _ => none
theorem bdE_s {x : Option Operand} {d z : Int} {q : Int → Prop} (he : bdE e x d = some z) (hq : q z) : boundX e x d q := by
  unfold bdE at he
  unfold boundX
  split at he
  · cases he; exact hq
  · split at he
    · rename_i hy; cases he; simp only [hy]; exact hq
    · cases he
def slB (zl zh : Int) (n : Nat) : Bool := decide (0 ≤ zl) && decide (zl ≤ zh) && decide (zh ≤ (n : Int))
theorem slB_s {zl zh : Int} {n : Nat} (h : slB zl zh n = true) : 0 ≤ zl ∧ zl ≤ zh ∧ zh ≤ n := by simpa [slB, and_assoc] using h
def slE (T : TypeId → TI) (e : Operand → PV) (t : TypeId) (x : PV) (lo hi mx : Option Operand) : Option PV :=
  match T t with
  | .sl _ sz _ _ => match x with
    | .lst cl sz' n cs => bif Nat.beq sz' sz || Nat.beq n 0 then match mx with
      | none => match bdE e lo 0, bdE e hi n with
        | some zl, some zh => bif slB zl zh n then some (.lst (cl && hi.isNone) sz (zh.toNat - zl.toNat) ((cs.drop (zl.toNat * sz)).take ((zh.toNat - zl.toNat) * sz))) else none
        | _, _ => none
      | some mx => match hi with
        | none => none
        | some hi => match bdE e lo 0, bdE e (some hi) n, bdE e (some mx) n with
          | some zl, some zh, some zm => bif decide (zm = zh) && slB zl zh n then some (.lst true sz (zh.toNat - zl.toNat) ((cs.drop (zl.toNat * sz)).take ((zh.toNat - zl.toNat) * sz))) else none
          | _, _, _ => none
      else none
    | .ref tk off sz' n => match mx with
      | none => match bdE e lo 0, bdE e hi n with
        | some zl, some zh => bif Nat.beq sz' sz && slB zl zh n then some (.ref tk (off + zl.toNat * sz) sz (zh.toNat - zl.toNat)) else none
        | _, _ => none
      | some mx => match hi with
        | none => none
        | some hi => match bdE e lo 0, bdE e (some hi) n, bdE e (some mx) n with
          | some zl, some zh, some zm => bif Nat.beq sz' sz && decide (zm = zh) && slB zl zh n then some (.ref tk (off + zl.toNat * sz) sz (zh.toNat - zl.toNat)) else none
          | _, _, _ => none
    | _ => none
  | _ => none
theorem slE_s {t : TypeId} {x v : PV} {lo hi mx : Option Operand} {h : HP} (he : slE T e t x lo hi mx = some v) (hk : k v h) : slX T e h k t x lo hi mx := by
  unfold slE at he
  unfold slX
  split at he
  · rename_i hT
    simp only [hT]
    split at he
    · obtain ⟨h1, h2⟩ := cond_some he
      rw [Bool.or_eq_true] at h1
      refine ⟨h1.imp Nat.eq_of_beq_eq_true Nat.eq_of_beq_eq_true, ?_⟩
      split at h2
      · split at h2
        · rename_i e1 e2
          obtain ⟨h3, h4⟩ := cond_some h2; cases h4
          exact bdE_s e1 (bdE_s e2 ⟨slB_s h3, hk⟩)
        · cases h2
      · split at h2
        · cases h2
        · split at h2
          · rename_i e1 e2 e3
            obtain ⟨h3, h4⟩ := cond_some h2; cases h4
            simp only [Bool.and_eq_true, decide_eq_true_eq] at h3
            exact bdE_s e1 (bdE_s e2 (bdE_s e3 ⟨h3.1, slB_s h3.2, hk⟩))
          · cases h2
    · split at he
      · split at he
        · rename_i e1 e2
          obtain ⟨h3, h4⟩ := cond_some he; cases h4
          rw [Bool.and_eq_true] at h3
          exact ⟨Nat.eq_of_beq_eq_true h3.1, bdE_s e1 (bdE_s e2 ⟨slB_s h3.2, hk⟩)⟩
        · cases he
      · split at he
        · cases he
        · split at he
          · rename_i e1 e2 e3
            obtain ⟨h3, h4⟩ := cond_some he; cases h4
            simp only [Bool.and_eq_true, decide_eq_true_eq] at h3
            exact ⟨Nat.eq_of_beq_eq_true h3.1.1, bdE_s e1 (bdE_s e2 (bdE_s e3 ⟨h3.1.2, slB_s h3.2, hk⟩))⟩
          · cases he
    · cases he
  · cases he
def bldE (T : TypeId → TI) (e : Operand → PV) (t : TypeId) (parts : List (Nat × Operand)) : Option PV :=
  match T t with
  | .st _ zc fs => (fillA (fun i => (fs.map fun x => (x.1, x.2.1))[i]?) (zc.map ofConst.ofCell) (parts.map fun x => (x.1, e x.2))).map .agg
  | _ => none
theorem bldE_s {t : TypeId} {v : PV} {parts : List (Nat × Operand)} {h : HP} (he : bldE T e t parts = some v) (hk : k v h) : bdX T e h k t parts := by
  unfold bldE at he
  unfold bdX
  split at he
  · rename_i hT
    simp only [hT]
    obtain ⟨cs, h1, rfl⟩ := Option.map_eq_some_iff.1 he
    exact ⟨cs, h1, hk⟩
  · cases he
def bsE (T : TypeId → TI) (M : Hn) (c : Cls) (e : Operand → PV) (h : EH) (d : Option Tmp) (t : TypeId) (len : Nat) (parts : List (Nat × Operand)) : Option (PV × EH) :=
  match T t with
  | .sl _ sz _ zc => bif Nat.ble (len * sz) 16777216 then match fillA (fun i => some (i * sz, sz)) ((List.replicate len (zc.map ofConst.ofCell)).flatten) (parts.map fun x => (x.1, e x.2)) with
    | some cs => bif inL M.mt d then (bif nwO c then some (.ref (h.tok false) 0 sz len, h.add false cs) else none) else some (.lst true sz len cs, h)
    | none => none
    else none
  | _ => none
theorem bsE_s {t : TypeId} {v : PV} {d : Option Tmp} {len : Nat} {parts : List (Nat × Operand)} (he : bsE T M c e h d t len parts = some (v, h')) (hk : k v h'.hp) : bsX T M c e h.hp k d t len parts := by
  unfold bsE at he
  unfold bsX
  split at he
  · rename_i hT
    simp only [hT]
    obtain ⟨h1, h2⟩ := cond_some he
    refine ⟨Nat.le_of_ble_eq_true h1, ?_⟩
    split at h2
    · rename_i cs hf
      refine ⟨cs, hf, ?_⟩
      cases hm : inL M.mt d
      · rw [hm] at h2; simp only [cond_false, Option.some.injEq, Prod.mk.injEq] at h2
        obtain ⟨rfl, rfl⟩ := h2
        exact ⟨fun q => (by cases q), fun _ => hk⟩
      · rw [hm] at h2; simp only [cond_true] at h2
        obtain ⟨h3, h4⟩ := cond_some h2
        simp only [Option.some.injEq, Prod.mk.injEq] at h4
        obtain ⟨rfl, rfl⟩ := h4
        rw [EH.hp_add] at hk
        exact ⟨fun _ => ⟨nwO_s h3, by rw [EH.hp_tok]; exact hk⟩, fun q => by cases q⟩
    · cases h2
  · cases he
def srcE (h : EH) (p : PV) (sz : Nat) : Option (Nat × List PV) :=
  match p with
  | .lst _ sz' m' cs' => bif Nat.beq m' 0 || Nat.beq sz' sz then some (m', cs') else none
  | .ref tk off sz' m' => bif Nat.beq sz' sz then match lkH h.bl tk with
    | some c => bif Nat.ble (off + m' * sz) c.length then some (m', (c.drop off).take (m' * sz)) else none
    | none => none
    else none
  | _ => none
theorem srcE_s {p : PV} {sz m : Nat} {cs : List PV} (he : srcE h p sz = some (m, cs)) : srcA h.hp p sz m cs := by
  unfold srcE at he
  unfold srcA
  split at he
  · obtain ⟨h1, h2⟩ := cond_some he
    simp only [Option.some.injEq, Prod.mk.injEq] at h2
    obtain ⟨rfl, rfl⟩ := h2
    rw [Bool.or_eq_true] at h1
    exact ⟨rfl, rfl, h1.imp Nat.eq_of_beq_eq_true Nat.eq_of_beq_eq_true⟩
  · obtain ⟨h1, h2⟩ := cond_some he
    split at h2
    · rename_i cc hl
      obtain ⟨h3, h4⟩ := cond_some h2
      simp only [Option.some.injEq, Prod.mk.injEq] at h4
      obtain ⟨rfl, rfl⟩ := h4
      exact ⟨rfl, Nat.eq_of_beq_eq_true h1, cc, hl, Nat.le_of_ble_eq_true h3, rfl⟩
    · cases h2
  · cases he
def apE (T : TypeId → TI) (c : Cls) (h : EH) (t : TypeId) (x y : PV) : Option (PV × EH) :=
  match T t with
  | .sl _ sz bs _ => match srcE h y sz with
    | some (m, cs2) => bif nwO c && cs2.all PV.one then match x with
      | .ref tk off sz' n => match lkH h.bl tk with
        | some cs => bif Nat.beq sz' sz && wrO c tk && Nat.ble (off + n * sz) cs.length && Nat.ble ((n + m) * bs) 140737488355328 && Nat.ble (n + m) 140737488355328 then
            some (.ref (h.tok false) 0 sz (n + m), (h.kill tk).add false ((cs.drop off).take (n * sz) ++ cs2)) else none
        | none => none
      | .lst cl sz' n cs => bif Nat.beq m 0 then some (.lst cl sz' n cs, h) else bif cl && (Nat.beq sz' sz || Nat.beq n 0) && Nat.ble ((n + m) * bs) 140737488355328 && Nat.ble (n + m) 140737488355328 then some (.ref (h.tok false) 0 sz (n + m), h.add false (cs ++ cs2)) else none
      | _ => none
      else none
    | none => none
  | _ => none
theorem apE_s {t : TypeId} {x y v : PV} (he : apE T c h t x y = some (v, h')) (hk : k v h'.hp) : appX T c h.hp k t x y := by
  unfold apE at he
  unfold appX
  split at he
  · rename_i hT
    simp only [hT]
    split at he
    · rename_i m cs2 hs
      have hs := srcE_s hs
      obtain ⟨h1, h2⟩ := cond_some he
      rw [Bool.and_eq_true, List.all_eq_true] at h1
      split at h2
      · split at h2
        · rename_i cs hl
          obtain ⟨h3, h4⟩ := cond_some h2
          simp only [Option.some.injEq, Prod.mk.injEq] at h4
          obtain ⟨rfl, rfl⟩ := h4
          simp only [Bool.and_eq_true] at h3
          rw [EH.hp_add, EH.hp_kill] at hk
          refine ⟨cs, m, cs2, hl, hs, Nat.eq_of_beq_eq_true h3.1.1.1.1, wrO_s h3.1.1.1.2, Nat.le_of_ble_eq_true h3.1.1.2, h1.2, ⟨Nat.le_of_ble_eq_true h3.1.2, Nat.le_of_ble_eq_true h3.2⟩, ?_⟩
          rw [EH.hp_tok]; exact hk
        · cases h2
      · refine ⟨m, cs2, hs, fun hm => ?_, fun hm => ?_⟩
        · subst hm
          simp only [Nat.beq_refl, cond_true, Option.some.injEq, Prod.mk.injEq] at h2
          obtain ⟨rfl, rfl⟩ := h2
          refine ⟨?_, hk⟩
          rcases nwO_s h1.1 with hc | hc
          · exact .inr (.inr hc)
          · exact .inr (.inl hc)
        · rw [beq_of_ne hm] at h2
          simp only [cond_false] at h2
          obtain ⟨h3, h4⟩ := cond_some h2
          simp only [Option.some.injEq, Prod.mk.injEq] at h4
          obtain ⟨rfl, rfl⟩ := h4
          simp only [Bool.and_eq_true, Bool.or_eq_true] at h3
          rw [EH.hp_add] at hk
          exact ⟨h3.1.1.1, h3.1.1.2.imp Nat.eq_of_beq_eq_true Nat.eq_of_beq_eq_true, nwO_s h1.1, ⟨Nat.le_of_ble_eq_true h3.1.2, Nat.le_of_ble_eq_true h3.2⟩, by rw [EH.hp_tok]; exact hk⟩
      · cases h2
    · cases he
  · cases he
def cpE (T : TypeId → TI) (c : Cls) (h : EH) (t : TypeId) (x y : PV) : Option (PV × EH) :=
  match T t with
  | .sl _ sz _ _ => match x with
    | .ref tk off sz' n => match lkH h.bl tk, lenA y with
      | some cs, some m => match srcE h (cutA (min n m) y) sz with
        | some (m2, cs2) => bif Nat.beq m2 (min n m) && Nat.beq sz' sz && wrO c tk && Nat.ble (off + n * sz) cs.length && cs2.all PV.one then
            some (.sc (.int .i64 (min n m : Nat)), h.set tk (cs.take off ++ cs2 ++ cs.drop (off + min n m * sz))) else none
        | none => none
      | _, _ => none
    | _ => none
  | _ => none
theorem cpE_s {t : TypeId} {x y v : PV} (he : cpE T c h t x y = some (v, h')) (hk : k v h'.hp) : cpyX T c h.hp k t x y := by
  unfold cpE at he
  unfold cpyX
  split at he
  · rename_i hT
    simp only [hT]
    split at he
    · split at he
      · rename_i cs m hl hm
        split at he
        · rename_i m2 cs2 hs
          obtain ⟨h3, h4⟩ := cond_some he
          simp only [Option.some.injEq, Prod.mk.injEq] at h4
          obtain ⟨rfl, rfl⟩ := h4
          simp only [Bool.and_eq_true, List.all_eq_true] at h3
          have e1 := Nat.eq_of_beq_eq_true h3.1.1.1.1
          subst e1
          rw [EH.hp_set] at hk
          exact ⟨cs, m, cs2, hl, hm, srcE_s hs, Nat.eq_of_beq_eq_true h3.1.1.1.2, wrO_s h3.1.1.2, Nat.le_of_ble_eq_true h3.1.2, h3.2, hk⟩
        · cases he
      · cases he
    · cases he
  · cases he
def lnE (T : TypeId → TI) (t : TypeId) (x : PV) : Option PV :=
  match T t with
  | .sl .. => match x with
    | .lst _ _ n _ => some (.sc (.int .i64 n))
    | .ref _ _ _ n => some (.sc (.int .i64 n))
    | _ => none
  | _ => none
def biE (T : TypeId → TI) (c : Cls) (h : EH) (b : Builtin) (xs : List PV) (ts : List TypeId) : Option (PV × EH) :=
  match xs with
  | [x] => match ts with
    | [t] => match b with
      | .len => (lnE T t x).map (·, h)
      | .cap => match T t, x with
        | .sl .., .lst true _ n _ => some (.sc (.int .i64 n), h)
        | _, _ => none
      | _ => none
    | _ => none
  | [x, y] => match b with
    | .min => match x, y with
      | .sc (.int .i64 a), .sc (.int .i64 b) => some (.sc (.int .i64 (if b < a then b else a)), h)
      | _, _ => none
    | .max => match x, y with
      | .sc (.int .i64 a), .sc (.int .i64 b) => some (.sc (.int .i64 (if a < b then b else a)), h)
      | _, _ => none
    | .append => match ts with
      | [t, t'] => bif Nat.beq t t' then apE T c h t x y else none
      | _ => none
    | .copy => match ts with
      | [t, t'] => bif Nat.beq t t' then cpE T c h t x y else none
      | _ => none
    | _ => none
  | _ => none
theorem biE_s {b : Builtin} {xs : List PV} {ts : List TypeId} {v : PV} (he : biE T c h b xs ts = some (v, h')) (hk : k v h'.hp) : biX T c h.hp k b xs ts := by
  unfold biE at he
  unfold biX
  split at he
  · split at he
    · split at he
      · obtain ⟨p, h1, h2⟩ := Option.map_eq_some_iff.1 he
        simp only [Prod.mk.injEq] at h2
        obtain ⟨rfl, rfl⟩ := h2
        unfold lnE at h1
        show lenX _ _ _ _ _ _
        unfold lenX
        split at h1
        · rename_i hT
          simp only [hT]
          split at h1
          · cases h1; exact hk
          · cases h1; exact hk
          · cases h1
        · cases h1
      · show capX _ _ _ _ _
        unfold capX
        split at he
        · rename_i hT
          simp only [Option.some.injEq, Prod.mk.injEq] at he
          obtain ⟨rfl, rfl⟩ := he
          simp only [hT]; exact hk
        · cases he
      · cases he
    · cases he
  · split at he
    · split at he
      · simp only [Option.some.injEq, Prod.mk.injEq] at he
        obtain ⟨rfl, rfl⟩ := he
        exact hk
      · cases he
    · split at he
      · simp only [Option.some.injEq, Prod.mk.injEq] at he
        obtain ⟨rfl, rfl⟩ := he
        exact hk
      · cases he
    · split at he
      · obtain ⟨h1, h2⟩ := cond_some he
        exact ⟨Nat.eq_of_beq_eq_true h1, apE_s h2 hk⟩
      · cases he
    · split at he
      · obtain ⟨h1, h2⟩ := cond_some he
        exact ⟨Nat.eq_of_beq_eq_true h1, cpE_s h2 hk⟩
      · cases he
    · cases he
  · cases he
def dE (T : TypeId → TI) (M : Hn) (c : Cls) (e : Operand → PV) (o : Oper) (h : EH) : Option (PV × EH) :=
  match o.op with
  | .move x | .assign x => some (e x, h)
  | .pick x y z => match e x with
    | .sc (.bool b) => some (if b then e y else e z, h)
    | _ => none
  | .binOp bop t x y _ => bif isNilC y then (match bop, T t, e x with
      | .eql, .sl _ sz _ _, .lst _ sz' (n + 1) _ => bif Nat.beq sz' sz then some (.sc (.bool false), h) else none
      | .neq, .sl _ sz _ _, .lst _ sz' (n + 1) _ => bif Nat.beq sz' sz then some (.sc (.bool true), h) else none
      | _, _, _ => none) else match e x, e y with
      | .sc vx, .sc vy => (binE (isBT (T t)) bop vx vy).map fun v => (.sc v, h)
      | _, _ => none
  | .unOp uop _ x => match uop, e x with
    | .neg, .sc (.int .i64 a) => bif i64B (0 - a) then some (.sc (.int .i64 (0 - a)), h) else none
    | .not, .sc (.bool b) => some (.sc (.bool (!b)), h)
    | _, _ => none
  | .call cc => match cc.callee with
    | .builtin b => biE T c h b (cc.args.toList.map e) cc.argTypes.toList
    | _ => none
  | .makeFunc f first xs => match f, first with
    | .func f, ⟨[]⟩ => some (.clo f (xs.toList.map e), h)
    | _, _ => none
  | .indexAddr t x ix => (ixE T t (e x) (e ix)).map (·, h)
  | .load t x => (ldE T c h t (e x)).map (·, h)
  | .store t x y => (stE T c h t (e x) (e y)).map (.junk, ·)
  | .fieldAddr t x f => (faE T t (e x) f).map (·, h)
  | .field t x f => (fdE T t (e x) f).map (·, h)
  | .extract x i => match e x with
    | .tup vs => (vs[i]?).map (·, h)
    | _ => none
  | .nilCheck x => bif (e x).isP then some (e x, h) else none
  | .box _ x => boxE M c h o.dst (e x)
  | .alloc t => match (T t).zero with
    | some zc => bif isW c then some (.ptr (h.tok true) 0, h.add true (zc.map ofConst.ofCell)) else bif nwO c then some (.ptr (h.tok false) 0, h.add false (zc.map ofConst.ofCell)) else none
    | none => none
  | .makeSlice t x y => mkE T c h t (e x) (e y)
  | .slice t x lo hi mx => (slE T e t (e x) lo hi mx).map (·, h)
  | .build t parts => (bldE T e t parts.toList).map (·, h)
  | .buildSlice t len parts => bsE T M c e h o.dst t len parts.toList
  | _ => none
theorem map_pair {α β : Type} {x : Option α} {h h' : β} {v : α} (hm : x.map (·, h) = some (v, h')) : x = some v ∧ h' = h := by
  obtain ⟨p, h1, h2⟩ := Option.map_eq_some_iff.1 hm
  simp only [Prod.mk.injEq] at h2
  obtain ⟨rfl, rfl⟩ := h2
  exact ⟨h1, rfl⟩
theorem dE_s {o : Oper} {v : PV} (he : dE T M c e o h = some (v, h')) (hk : k v h'.hp) : DX P T M c e o h.hp k := by
  unfold dE at he
  unfold DX
  split at he
  · rename_i ho; simp only [ho]
    simp only [Option.some.injEq, Prod.mk.injEq] at he
    obtain ⟨rfl, rfl⟩ := he
    exact .inl hk
  · rename_i ho; simp only [ho]
    simp only [Option.some.injEq, Prod.mk.injEq] at he
    obtain ⟨rfl, rfl⟩ := he
    exact .inl hk
  · rename_i ho; simp only [ho]
    split at he
    · rename_i hx
      simp only [Option.some.injEq, Prod.mk.injEq] at he
      obtain ⟨rfl, rfl⟩ := he
      simp only [scX, hx]
      exact hk
    · cases he
  · rename_i bop t x y _ ho; simp only [ho]
    refine .inr ?_
    cases hn : isNilC y with
    | true =>
      rw [hn] at he
      simp only [cond_true] at he
      refine ⟨fun _ => ?_, fun hh => by cases hh⟩
      split at he
      · rename_i hT hx
        obtain ⟨h1, h2⟩ := cond_some he
        simp only [Option.some.injEq, Prod.mk.injEq] at h2
        obtain ⟨rfl, rfl⟩ := h2
        simp only [hT, hx]
        exact ⟨by simp, .inl (Nat.eq_of_beq_eq_true h1), by simpa [isNeq] using hk⟩
      · rename_i hT hx
        obtain ⟨h1, h2⟩ := cond_some he
        simp only [Option.some.injEq, Prod.mk.injEq] at h2
        obtain ⟨rfl, rfl⟩ := h2
        simp only [hT, hx]
        exact ⟨by simp, .inl (Nat.eq_of_beq_eq_true h1), by simpa [isNeq] using hk⟩
      · cases he
    | false =>
      rw [hn] at he
      simp only [cond_false] at he
      refine ⟨fun hh => (by cases hh), fun _ => ?_⟩
      split at he
      · rename_i hx hy
        obtain ⟨u, h1, h2⟩ := Option.map_eq_some_iff.1 he
        simp only [Prod.mk.injEq] at h2
        obtain ⟨rfl, rfl⟩ := h2
        simp only [scX, hx, hy]
        exact binE_s h1 (fun hb => by cases hT : T t <;> simp_all [isBT]) hk
      · cases he
  · rename_i ho; simp only [ho]
    split at he
    · rename_i hx
      obtain ⟨h1, h2⟩ := cond_some he
      simp only [Option.some.injEq, Prod.mk.injEq] at h2
      obtain ⟨rfl, rfl⟩ := h2
      simp only [scX, hx, unX]
      exact .inl ⟨i64B_s h1, hk⟩
    · rename_i hx
      simp only [Option.some.injEq, Prod.mk.injEq] at he
      obtain ⟨rfl, rfl⟩ := he
      simp only [scX, hx, unX]
      exact hk
    · cases he
  · rename_i cc ho; simp only [ho]
    show callX _ _ _ _ _ _ _
    unfold callX
    split at he
    · rename_i hb
      rw [hb]
      exact biE_s he hk
    · cases he
  · rename_i ho; simp only [ho]
    split at he
    · simp only [Option.some.injEq, Prod.mk.injEq] at he
      obtain ⟨rfl, rfl⟩ := he
      exact hk
    · cases he
  · rename_i ho; simp only [ho]
    obtain ⟨h1, rfl⟩ := map_pair he; exact ixE_s h1 hk
  · rename_i ho; simp only [ho]
    obtain ⟨h1, rfl⟩ := map_pair he; exact ldE_s h1 hk
  · rename_i ho; simp only [ho]
    obtain ⟨p, h1, h2⟩ := Option.map_eq_some_iff.1 he
    simp only [Prod.mk.injEq] at h2
    obtain ⟨rfl, rfl⟩ := h2
    exact stE_s h1 hk
  · rename_i ho; simp only [ho]
    obtain ⟨h1, rfl⟩ := map_pair he; exact faE_s h1 hk
  · rename_i ho; simp only [ho]
    obtain ⟨h1, rfl⟩ := map_pair he; exact fdE_s h1 hk
  · rename_i ho; simp only [ho]
    split at he
    · rename_i hx
      obtain ⟨h1, rfl⟩ := map_pair he
      simp only [hx]
      exact ⟨v, h1, hk⟩
    · cases he
  · rename_i ho; simp only [ho]
    obtain ⟨h1, h2⟩ := cond_some he
    simp only [Option.some.injEq, Prod.mk.injEq] at h2
    obtain ⟨rfl, rfl⟩ := h2
    exact ⟨h1, hk⟩
  · rename_i ho; simp only [ho]
    exact boxE_s he hk
  · rename_i ho; simp only [ho]
    split at he
    · rename_i zc hz
      simp only [hz]
      cases h1 : isW c
      · rw [h1] at he
        simp only [cond_false] at he
        obtain ⟨h1', h2⟩ := cond_some he
        simp only [Option.some.injEq, Prod.mk.injEq] at h2
        obtain ⟨rfl, rfl⟩ := h2
        rw [EH.hp_add] at hk
        refine .inr (.inr ⟨?_, by rw [EH.hp_tok]; exact hk⟩)
        rcases nwO_s h1' with hc | hc
        · subst hc; cases h1
        · exact hc
      · rw [h1] at he
        simp only [cond_true, Option.some.injEq, Prod.mk.injEq] at he
        obtain ⟨rfl, rfl⟩ := he
        rw [EH.hp_add] at hk
        exact .inl ⟨isW_s h1, by rw [EH.hp_tok]; exact hk⟩
    · cases he
  · rename_i ho; simp only [ho]
    exact mkE_s he hk
  · rename_i ho; simp only [ho]
    obtain ⟨h1, rfl⟩ := map_pair he; exact slE_s h1 hk
  · rename_i ho; simp only [ho]
    obtain ⟨h1, rfl⟩ := map_pair he; exact bldE_s h1 hk
  · rename_i ho; simp only [ho]
    exact bsE_s he hk
  · cases he
end Go.Proofs.Ytdlpbpfcgjgppaa
