/- Steps of regions that keep the order of their text: clear at a slice of one's own. Nothing of the program is here. -/
import Derived.Test.YtgjfpmjllpgadaaGLinkPartsAT
import Derived.Test.YtgjfpmjllpgadaaGLinkPartsAQ
import Derived.Test.YtgjfpmjllpgadaaGLinkPartsAA
set_option linter.unusedVariables false
set_option linter.unusedSimpArgs false
namespace Go.Proofs.Ytgjfpmjllpgadaa
open Go.RowKit
variable {P : Program} {T : TypeId → TI} {M : Hn} {cl : Oper → Cls} {ops : Array Oper} {l : List Oper} {t : Nat → PV} {h : HP} {K : AS → Prop} {d : Nat} {ty : TypeId} {pos : String} {aft : Array Edge} {n : Nat} {Q : Exit → AS → Prop}

theorem HRel.cells {w0 : World} {Z0 : Nat → Prop} {ρ : Pl} {w : World} (H : HRel w0 Z0 ρ h w) {tk b k off : Nat} {cs cs2 : List PV} {arr : Array Value} {T : TypeId} {news : List Value} (hb : h.blk tk = some cs) (r1 : ρ tk = some (b, k)) (r3 : w.heap[b]? = some (.cells arr T (0, 0)))
    (hl : cs2.length = news.length) (hle : off + news.length ≤ cs.length) (hv : ∀ i, i < cs2.length → V ρ (Zof Z0 ρ h) w (cs2.getD i .junk) (news.getD i undef)) :
    HRel w0 Z0 ρ (h.set tk (cs.take off ++ cs2 ++ cs.drop (off + news.length))) (w.setRow b (arr.toList.take (k + off) ++ news ++ arr.toList.drop (k + off + news.length)).toArray) ∧
      ∀ pv u, V ρ (Zof Z0 ρ h) w pv u → V ρ (Zof Z0 ρ (h.set tk (cs.take off ++ cs2 ++ cs.drop (off + news.length)))) (w.setRow b (arr.toList.take (k + off) ++ news ++ arr.toList.drop (k + off + news.length)).toArray) pv u := by
  rcases H.live tk cs hb with ⟨_, k1⟩ | ⟨b', o', arr', T', k1, k2, k3, k4, k5⟩
  · rw [r1] at k1; cases k1
  rw [r1] at k1; cases k1
  rw [r3] at k3; cases k3
  have hlen : (cs.take off ++ cs2 ++ cs.drop (off + news.length)).length = cs.length := by simp; omega
  refine H.write hb r1 r3 _ (by simp; omega) _ (by omega) (fun i hi => ?_)
  rw [hlen] at hi
  rw [show ∀ (l : List Value) j, l.toArray.getD j undef = l.getD j undef from fun l j => by simp [Array.getD, List.getD]; split <;> simp_all]
  simp only [List.getD, List.append_assoc]
  by_cases c1 : i < off
  · have := k5 i hi
    simp only [List.getD] at this
    rw [List.getElem?_append_left (by simp; omega), List.getElem?_take, if_pos c1, List.getElem?_append_left (by simp; omega), List.getElem?_take, if_pos (by omega)]
    have hi2 : k + i < arr.size := by omega
    simpa [Array.getD, hi2] using this
  · have y1 : (List.take off cs ++ (cs2 ++ List.drop (off + news.length) cs))[i]? = (cs2 ++ List.drop (off + news.length) cs)[i - off]? := by
      rw [List.getElem?_append_right (by simp; omega)]
      congr 1; simp; omega
    have y2 : (List.take (k + off) arr.toList ++ (news ++ List.drop (k + off + news.length) arr.toList))[k + i]? = (news ++ List.drop (k + off + news.length) arr.toList)[i - off]? := by
      rw [List.getElem?_append_right (by simp; omega)]
      congr 1; simp; omega
    rw [y1, y2]
    by_cases c2 : i < off + news.length
    · have := hv (i - off) (by omega)
      simp only [List.getD] at this
      rw [List.getElem?_append_left (by omega), List.getElem?_append_left (by omega)]
      exact this
    · have := k5 i hi
      simp only [List.getD] at this
      rw [List.getElem?_append_right (by omega), List.getElem?_append_right (by omega), List.getElem?_drop, List.getElem?_drop]
      rw [show off + news.length + (i - off - cs2.length) = i by omega, show k + off + news.length + (i - off - news.length) = k + i by omega]
      have hi2 : k + i < arr.size := by omega
      simpa [Array.getD, hi2] using this
/-- s[:len(s):len(s)] -/
theorem AW.clipG {tt : TypeId} {x hi mx : Operand} {c : Bool} {el bs m : Nat} {zc : List Value} {cs : List PV} {k1 k2 : IntKind} (hx : evA t x = .lst c 1 m cs) (ht : T tt = .sl el 1 bs zc) (hh : evA t hi = .sc (.int k1 m)) (hm : evA t mx = .sc (.int k2 m)) (hl : cs.length = m)
    (hk : AW P T M cl ops l ⟨upd t d (.lst true 1 m cs), h⟩ K) : AW P T M cl ops (⟨some d, .slice tt x none (some hi) (some mx), ty, pos, aft, none⟩ :: l) ⟨t, h⟩ K := by
  have := AW.sll3 (P := P) (M := M) (cl := cl) (ops := ops) (l := l) (h := h) (K := K) (d := d) (ty := ty) (pos := pos) (aft := aft) (lo := none) hx ht (.inl rfl) rfl ⟨_, hh⟩ ⟨_, hm⟩ ⟨Int.le_refl _, by omega, Int.le_refl _⟩
  simp only [Int.toNat_natCast, show Int.toNat 0 = 0 from rfl, Nat.sub_zero, Nat.zero_mul, Nat.mul_one, List.drop_zero] at this
  rw [List.take_of_length_le (by omega)] at this
  exact this hk
end Go.Proofs.Ytgjfpmjllpgadaa

/- Contracts by worlds taken over as contracts by lists. Nothing of the program is here. -/
set_option linter.unusedVariables false
set_option linter.unusedSimpArgs false
namespace Go.Proofs.Ytgjfpmjllpgadaa
open Go.RowKit

theorem callable {P : Program} {f : FuncId} {fn : Func} (h : P.funcs[f]? = some fn) (h1 : (fn.name == "runtime.NumGoroutine") = false) (h2 : fn.body.isNone = false) : Callable P f := ⟨fn, h, h1, h2⟩
theorem V.of_ints {Z : Nat → Prop} {ρ : Pl} {w : World} {A : Option Addr} {cap : Nat} {xs : List Int} (h : IsInts w A cap xs) (hz : ∀ b o, xs ≠ [] → A = some ⟨b, o, none⟩ → ¬ Z b) : V ρ Z w (pli xs) (.slice A xs.length cap) := by
  refine .lst _ _ _ _ _ _ (fun i => .int .i64 (xs.getD i 0)) h.len (fun hh => by cases hh) (by have := h.cap_le; unfold maxLen; omega) (by simp) (fun hne => ?_) (fun i hi => ?_)
  · have hx : xs ≠ [] := by rintro rfl; exact hne rfl
    obtain ⟨b, o, rfl, hb, hc⟩ := h.row hx
    exact ⟨b, o, rfl, hz b o hx rfl, hb, fun i hi => hc i (by simpa using hi)⟩
  · rw [getD_of (ints_at (by simpa using hi))]; exact .sc _
/-- flat arguments, flat result -/
theorem SC.flat {P : Program} {f : FuncId} {args : List Value} {r : Value} (hc : Callable P f) (h : ∀ w, Calls P f args.toArray w fun e w' => e = .returned r ∧ Below w.heap.size w w') : SC P f (args.map .sc) (.sc r) := by
  refine ⟨hc, fun Z w vs hz hl hv => ?_⟩
  have e : vs = args.toArray := by
    apply Array.ext
    · simp at hl; simp [hl]
    · intro i h1 h2
      have := hv i (by simp at h2; simpa using h2)
      have e1 : (args.map PV.sc).getD i .junk = .sc (args[i]'(by simpa using h2)) := by simp [List.getD, show i < args.length by simpa using h2]
      have e2 : vs.getD i undef = vs[i] := by simp [Array.getD, h1]
      rw [e1, e2] at this
      simp [this.sc_inv]
  rw [e]
  exact (h w).mono fun e w' ⟨h1, h2⟩ => ⟨_, h1, .sc _, h2⟩
def pfr (n d : Int) : PV := .agg [.sc (.int .i64 n), .sc (.int .i64 d)]
theorem pfr_cl (n d : Int) : (pfr n d).cl = true := rfl
theorem pint_cl (n : Int) : (pint n).cl = true := rfl
/-- a struct of an int and a list of ints -/
def ppo (p : Int × List Int) : PV := .agg [pint p.1, pli p.2]
theorem ppo_cl (p : Int × List Int) : (ppo p).cl = true := by simp only [ppo, PV.cl, PV.cl.clL, pint_cl, pli_cl, Bool.and_self]
end Go.Proofs.Ytgjfpmjllpgadaa
