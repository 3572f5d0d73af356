/- The abstract machine: more operations, maps, one step, a call. Conditions: as each theorem says. -/
import Derived.WalkSpells
import Derived.Laws.Small
import Derived.WideKeyRuns
import Derived.Laws.IdiomRangeMap
import Derived.Conc.LoneSelect
import Derived.OrdersIn
import Derived.TacticsIn
import Derived.RangeFuncLeaves
import Derived.Test.YtjbphojecieloaaAma
namespace Go.AM
open Go.RowKit

inductive Kd where
  | bool | ptr (e : TypeId) | slice (e : TypeId) | map | fn | string | other
  deriving DecidableEq
def kdOf (P : Program) (t : TypeId) : Kd :=
  match P.underlying t with
  | some .bool => .bool
  | some (.pointer e) => .ptr e
  | some (.slice e) => .slice e
  | some (.map _ _) => .map
  | some (.func _ _ _) => .fn
  | some .string => .string
  | _ => .other

abbrev iv (k : IntKind) (n : Int) : AV := .c (.int k n)
abbrev bv (b : Bool) : AV := .c (.bool b)
abbrev sv (s : ByteArray) : AV := .c (.string s)

def aBinInt (op : BinOp) (k : IntKind) (x y : Int) : Option AV :=
  match op with
  | .add => some (iv k (k.wrap (x + y)))
  | .sub => some (iv k (k.wrap (x - y)))
  | .mul => some (iv k (k.wrap (x * y)))
  | .quo => if y = 0 then none else some (iv k (k.wrap (x.tdiv y)))
  | .rem => if y = 0 then none else some (iv k (x.tmod y))
  | .eql => some (bv (x == y))
  | .neq => some (bv (x != y))
  | .lss => some (bv (decide (x < y)))
  | .leq => some (bv (decide (x ≤ y)))
  | .gtr => some (bv (decide (x > y)))
  | .geq => some (bv (decide (x ≥ y)))
  | .and => some (iv k (bits .and k x y))
  | .or => some (iv k (bits .or k x y))
  | .xor => some (iv k (bits .xor k x y))
  | _ => none

def aBinStr (op : BinOp) (x y : ByteArray) : Option AV :=
  match op with
  | .add => if x.size + y.size ≤ 2 ^ 60 then some (sv (x ++ y)) else none
  | .eql => some (bv (x.toList == y.toList))
  | .neq => some (bv (!(x.toList == y.toList)))
  | .lss => some (bv (Op.bytesLess x.toList y.toList))
  | .leq => some (bv (Op.bytesLess x.toList y.toList || x.toList == y.toList))
  | .gtr => some (bv (!(Op.bytesLess x.toList y.toList || x.toList == y.toList)))
  | .geq => some (bv (!(Op.bytesLess x.toList y.toList)))
  | _ => none

/-- is the value nil, as far as it is known -/
def nilP : AV → Option Bool
  | .c (.pointer none) => some true
  | .ptr _ _ => some false
  | .fptr _ => some false
  | _ => none
def nilS : AV → Option Bool
  | .fslc nl _ _ _ => some nl
  | .slc _ _ _ _ => some false
  | _ => none
def nilM : AV → Option Bool
  | .c (.map none) => some true
  | .map _ => some false
  | _ => none
def eqOp (op : BinOp) (b : Bool) : Option AV :=
  match op with
  | .eql => some (bv b)
  | .neq => some (bv (!b))
  | _ => none
def isPtr : Kd → Bool | .ptr _ => true | _ => false
def isSlice : Kd → Bool | .slice _ => true | _ => false

def aBin (P : Program) (op : BinOp) (t : TypeId) (x y : AV) : Option AV :=
  match x, y with
  | .c (.int k a), .c (.int k' b) => if k = k' then aBinInt op k a b else none
  | .c (.string a), .c (.string b) => aBinStr op a b
  | .c (.bool a), .c (.bool b) => if kdOf P t = .bool then eqOp op (a == b) else none
  | x, .c (.pointer none) => if isPtr (kdOf P t) then (nilP x).bind (eqOp op) else none
  | x, .fslc true true 0 [] => if isSlice (kdOf P t) then (nilS x).bind (eqOp op) else none
  | x, .c (.map none) => if kdOf P t = .map then (nilM x).bind (eqOp op) else none
  | .agg xs, .agg ys => (aggEq P t xs ys).bind (eqOp op)
  | _, _ => none

theorem Rv_iv {G : Gh} {k : IntKind} {n : Int} {v : Value} : Rv G (iv k n) v ↔ v = .int k n := by simp [Rv, Value.oneCell']
theorem Rv_bv {G : Gh} {b : Bool} {v : Value} : Rv G (bv b) v ↔ v = .bool b := by simp [Rv, Value.oneCell']
theorem Rv_sv {G : Gh} {s : ByteArray} {v : Value} : Rv G (sv s) v ↔ v = .string s := by simp [Rv, Value.oneCell']

section
variable {P : Program} {w0 : World} {G : Gh} {h : AHeap} {w : World} {nm : Nat}

theorem binInt_ok {op : BinOp} {k : IntKind} {a b : Int} {x : AV} (hx : aBinInt op k a b = some x) (t : TypeId) : ∃ cv, (binOp op t (.int k a) (.int k b)).run P w = .ok cv w ∧ Rv G x cv := by
  cases op <;> simp only [aBinInt, Option.some.injEq, reduceCtorEq] at hx
  case quo =>
    split at hx
    · cases hx
    · rename_i hy; cases hx; exact ⟨_, by simp [binOp, Op.intDiv, hy]; try rfl, Rv_iv.2 rfl⟩
  case rem =>
    split at hx
    · cases hx
    · rename_i hy; cases hx; exact ⟨_, by simp [binOp, Op.intDiv, hy]; try rfl, Rv_iv.2 rfl⟩
  case and => subst hx; exact ⟨_, by simp [binOp, intBits_and]; try rfl, Rv_iv.2 rfl⟩
  case or => subst hx; exact ⟨_, by simp [binOp, intBits_or]; try rfl, Rv_iv.2 rfl⟩
  case xor => subst hx; exact ⟨_, by simp [binOp, intBits_xor]; try rfl, Rv_iv.2 rfl⟩
  case add => subst hx; exact ⟨_, by simp [binOp, Op.intArith]; try rfl, Rv_iv.2 rfl⟩
  case sub => subst hx; exact ⟨_, by simp [binOp, Op.intArith]; try rfl, Rv_iv.2 rfl⟩
  case mul => subst hx; exact ⟨_, by simp [binOp, Op.intArith]; try rfl, Rv_iv.2 rfl⟩
  all_goals (subst hx; exact ⟨_, by simp [binOp, Op.intCmp]; try rfl, Rv_bv.2 rfl⟩)

theorem binStr_ok {op : BinOp} {a b : ByteArray} {x : AV} (hx : aBinStr op a b = some x) (t : TypeId) : ∃ cv, (binOp op t (.string a) (.string b)).run P w = .ok cv w ∧ Rv G x cv := by
  cases op <;> simp only [aBinStr, Option.some.injEq, reduceCtorEq] at hx
  case add =>
    split at hx
    · rename_i hle
      cases hx
      have : (2 : Nat) ^ 60 = 1152921504606846976 := by decide
      have hn : ¬ (9223372036854775807 < (a.size : Int) + (b.size : Int)) := by omega
      exact ⟨.string (a ++ b), by simp [binOp, Op.stringOp, hn], Rv_sv.2 rfl⟩
    · cases hx
  all_goals (subst hx; exact ⟨_, by simp [binOp, Op.stringOp]; try rfl, Rv_bv.2 rfl⟩)

theorem kd_und {t : TypeId} {k : Kd} (hk : kdOf P t = k) (hno : k ≠ .other) : ∃ d, P.underlying t = some d ∧ (match k with
    | .bool => d = .bool | .ptr e => d = .pointer e | .slice e => d = .slice e | .map => ∃ a b, d = .map a b | .fn => ∃ a b c, d = .func a b c | .string => d = .string | .other => False) := by
  unfold kdOf at hk
  split at hk <;> subst hk <;> first | exact absurd rfl hno | (rename_i hu; exact ⟨_, hu, by simp⟩)

theorem nilP_ok {x : AV} {b : Bool} (hx : nilP x = some b) {v : Value} (hv : Rv G x v) : ∃ p, v = .pointer p ∧ p.isNone = b := by
  unfold nilP at hx
  split at hx <;> simp only [Option.some.injEq, reduceCtorEq] at hx <;> subst hx <;> simp only [Rv] at hv
  · exact ⟨none, hv.1, rfl⟩
  · obtain ⟨_, _, _, _, rfl⟩ := hv; exact ⟨_, rfl, rfl⟩
  · obtain ⟨_, _, rfl, _⟩ := hv; exact ⟨_, rfl, rfl⟩
theorem nilS_ok {x : AV} {b : Bool} (hx : nilS x = some b) {v : Value} (hv : Rv G x v) : ∃ a n c, v = .slice a n c ∧ a.isNone = b := by
  unfold nilS at hx
  split at hx <;> simp only [Option.some.injEq, reduceCtorEq] at hx <;> subst hx <;> simp only [Rv] at hv
  · rename_i nl full s l
    obtain ⟨a, cap, rfl, _, _, h3, h4⟩ := hv
    refine ⟨a, _, cap, rfl, ?_⟩
    cases nl with
    | true => obtain ⟨rfl, _⟩ := h3 rfl; rfl
    | false => obtain ⟨ad, rfl, _⟩ := h4 rfl; rfl
  · obtain ⟨_, _, _, _, _, rfl, _⟩ := hv; exact ⟨_, _, _, rfl, rfl⟩
theorem nilM_ok {x : AV} {b : Bool} (hx : nilM x = some b) {v : Value} (hv : Rv G x v) : ∃ r, v = .map r ∧ r.isNone = b := by
  unfold nilM at hx
  split at hx <;> simp only [Option.some.injEq, reduceCtorEq] at hx <;> subst hx <;> simp only [Rv] at hv
  · exact ⟨none, hv.1, rfl⟩
  · obtain ⟨_, _, _, _, rfl⟩ := hv; exact ⟨_, rfl, rfl⟩

theorem und_ptr {t e : TypeId} (hk : kdOf P t = .ptr e) : P.underlying t = some (.pointer e) := by
  obtain ⟨d, hu, hd⟩ := kd_und hk (by simp); simp only at hd; rw [hu, hd]
theorem und_slice {t e : TypeId} (hk : kdOf P t = .slice e) : P.underlying t = some (.slice e) := by
  obtain ⟨d, hu, hd⟩ := kd_und hk (by simp); simp only at hd; rw [hu, hd]
theorem und_bool {t : TypeId} (hk : kdOf P t = .bool) : P.underlying t = some .bool := by
  obtain ⟨d, hu, hd⟩ := kd_und hk (by simp); simp only at hd; rw [hu, hd]
theorem und_map {t : TypeId} (hk : kdOf P t = .map) : ∃ a b, P.underlying t = some (.map a b) := by
  obtain ⟨d, hu, hd⟩ := kd_und hk (by simp); simp only at hd; obtain ⟨a, b, rfl⟩ := hd; exact ⟨a, b, hu⟩

theorem eqlIn_ptr (d : Nat) {t e : TypeId} (hu : P.underlying t = some (.pointer e)) (p : Option Addr) : (Op.equalIn (d + 1) t (.pointer p) (.pointer none)).run P w = .ok p.isNone w := by
  cases p <;> simp [Op.equalIn, run_underlying hu]
theorem eqlIn_slice (d : Nat) {t e : TypeId} (hu : P.underlying t = some (.slice e)) (a : Option Addr) (n c : Nat) : (Op.equalIn (d + 1) t (.slice a n c) (.slice none 0 0)).run P w = .ok a.isNone w := by
  cases a <;> simp [Op.equalIn, run_underlying hu]
theorem eqlIn_map (d : Nat) {t k e : TypeId} (hu : P.underlying t = some (.map k e)) (r : Option Nat) : (Op.equalIn (d + 1) t (.map r) (.map none)).run P w = .ok r.isNone w := by
  cases r <;> simp [Op.equalIn, run_underlying hu]

theorem eqOp_ok {op : BinOp} {t : TypeId} {x y : Value} {b : Bool} {r : AV} (hr : eqOp op b = some r) (he : (binOp .eql t x y).run P w = .ok (.bool b) w) (hn : (binOp .neq t x y).run P w = .ok (.bool (!b)) w) :
    ∃ cv, (binOp op t x y).run P w = .ok cv w ∧ Rv G r cv := by
  unfold eqOp at hr
  split at hr <;> simp only [Option.some.injEq, reduceCtorEq] at hr <;> subst hr
  · exact ⟨_, he, Rv_bv.2 rfl⟩
  · exact ⟨_, hn, Rv_bv.2 rfl⟩

theorem aBin_ok {op : BinOp} {t : TypeId} {x y r : AV} {vx vy : Value} (hx : Rv G x vx) (hy : Rv G y vy) (h : aBin P op t x y = some r) (ox oy : Operand) :
    ∃ cv, (do eqGuard op t ox oy vx vy; binOp op t vx vy : Sem Value).run P w = .ok cv w ∧ Rv G r cv := by
  unfold aBin at h
  split at h
  · rename_i k a k' b
    split at h
    · rename_i hk
      subst hk
      simp only [Rv] at hx hy
      obtain ⟨rfl, _⟩ := hx
      obtain ⟨rfl, _⟩ := hy
      rw [eqGuard_at_int]
      simpa using binInt_ok h t
    · cases h
  · simp only [Rv] at hx hy
    obtain ⟨rfl, _⟩ := hx
    obtain ⟨rfl, _⟩ := hy
    rw [eqGuard_at_string]
    simpa using binStr_ok h t
  · rename_i a b
    split at h
    · rename_i hk
      have hu := und_bool hk
      simp only [Rv] at hx hy
      obtain ⟨rfl, _⟩ := hx
      obtain ⟨rfl, _⟩ := hy
      rw [eqGuard_at_bool]
      have h1 := run_eql_bool (P := P) w t a b hu
      have h2 : (binOp .neq t (.bool a) (.bool b)).run P w = .ok (.bool (!(a == b))) w := by
        simp only [binOp]
        simp [Op.equal, Op.maxDepth, run_equalIn_bool w 9999 t a b hu]
      obtain ⟨cv, h3, h4⟩ := eqOp_ok (G := G) h h1 h2
      exact ⟨cv, by simpa using h3, h4⟩
    · cases h
  · split at h
    · rename_i hk
      simp only [Option.bind_eq_some_iff] at h
      obtain ⟨b, h1, h2⟩ := h
      obtain ⟨p, rfl, rfl⟩ := nilP_ok h1 hx
      simp only [Rv] at hy
      obtain ⟨rfl, _⟩ := hy
      obtain ⟨e, he⟩ : ∃ e, kdOf P t = .ptr e := by
        revert hk; cases kdOf P t <;> simp [isPtr]
      have hq := eqlIn_ptr (P := P) (w := w) 9999 (und_ptr he) p
      rw [eqGuard_at_pointer]
      obtain ⟨cv, h3, h4⟩ := eqOp_ok (G := G) (P := P) (w := w) (t := t) (x := .pointer p) (y := .pointer none) h2 (by simp only [binOp]; simp [Op.equal, Op.maxDepth, hq]) (by simp only [binOp]; simp [Op.equal, Op.maxDepth, hq])
      exact ⟨cv, by simpa using h3, h4⟩
    · cases h
  · split at h
    · rename_i hk
      simp only [Option.bind_eq_some_iff] at h
      obtain ⟨b, h1, h2⟩ := h
      obtain ⟨a, n, c, rfl, rfl⟩ := nilS_ok h1 hx
      simp only [Rv] at hy
      obtain ⟨a', cap, rfl, _, _, h3, _⟩ := hy
      obtain ⟨rfl, rfl⟩ := h3 trivial
      obtain ⟨e, he⟩ : ∃ e, kdOf P t = .slice e := by
        revert hk; cases kdOf P t <;> simp [isSlice]
      have hq := eqlIn_slice (P := P) (w := w) 9999 (und_slice he) a n c
      rw [eqGuard_at_slice]
      obtain ⟨cv, h3, h4⟩ := eqOp_ok (G := G) (P := P) (w := w) (t := t) (x := .slice a n c) (y := .slice none 0 0) h2 (by simp only [binOp]; simp [Op.equal, Op.maxDepth, hq]) (by simp only [binOp]; simp [Op.equal, Op.maxDepth, hq])
      exact ⟨cv, by simpa using h3, h4⟩
    · cases h
  · split at h
    · rename_i hk
      simp only [Option.bind_eq_some_iff] at h
      obtain ⟨b, h1, h2⟩ := h
      obtain ⟨r', rfl, rfl⟩ := nilM_ok h1 hx
      simp only [Rv] at hy
      obtain ⟨rfl, _⟩ := hy
      obtain ⟨k, e, he⟩ := und_map hk
      have hq := eqlIn_map (P := P) (w := w) 9999 he r'
      rw [eqGuard_at_map]
      obtain ⟨cv, h3, h4⟩ := eqOp_ok (G := G) (P := P) (w := w) (t := t) (x := .map r') (y := .map none) h2 (by simp only [binOp]; simp [Op.equal, Op.maxDepth, hq]) (by simp only [binOp]; simp [Op.equal, Op.maxDepth, hq])
      exact ⟨cv, by simpa using h3, h4⟩
    · cases h
  · simp only [Option.bind_eq_some_iff] at h
    obtain ⟨b, h1, h2⟩ := h
    simp only [Rv] at hx hy
    obtain ⟨vs, rfl, hx⟩ := hx
    obtain ⟨us, rfl, hy⟩ := hy
    obtain ⟨hq, hg⟩ := aggEq_ok (w := w) hx hy h1
    obtain ⟨cv, h3, h4⟩ := eqOp_ok (G := G) (P := P) (w := w) (t := t) (x := .agg vs) (y := .agg us) h2 (by rw [run_eql_struct, hq]; rfl) (by rw [run_neq_struct, hq]; rfl)
    refine ⟨cv, ?_, h4⟩
    simp only [Sem.run_bind, run_eqGuard_agg w op t ox oy vs us hg, Result.andThen_ok]
    exact h3
  · cases h
end
end Go.AM

namespace Go.AM
open Go.RowKit

def intOf? : AV → Option Int
  | .c (.int _ n) => some n
  | _ => none

/-- a bound of a slice expression: 0 or what is written -/
def lowB : Option AV → Option Int
  | none => some 0
  | some x => intOf? x
def highB (len : Nat) : Option AV → Option Int
  | none => some len
  | some x => intOf? x

def aSlice (P : Program) (t : TypeId) (x : AV) (lo hi mx : Option AV) : Option AV :=
  match x with
  | .c (.string s) => if kdOf P t = .string ∧ mx.isNone then match lowB lo, highB s.size hi with
      | some l, some h => if 0 ≤ l ∧ l ≤ h ∧ h ≤ s.size then some (sv (s.extract l.toNat h.toNat)) else none
      | _, _ => none
    else none
  | .fslc nl full s l => match eltOf P t with
    | some e => if szOf P e = some s ∨ (l.length = 0 ∧ (szOf P e).isSome = true) then match lowB lo, highB l.length hi, mx with
      | some a, some b, none => if 0 ≤ a ∧ a ≤ b ∧ b ≤ l.length then some (.fslc nl (full && decide (b = l.length)) s ((l.take b.toNat).drop a.toNat)) else none
      | some a, some b, some m => match intOf? m with
        | some m => if hi.isSome ∧ 0 ≤ a ∧ a ≤ b ∧ b ≤ m ∧ m ≤ l.length then some (.fslc nl (decide (b = m)) s ((l.take b.toNat).drop a.toNat)) else none
        | none => none
      | _, _, _ => none
      else none
    | none => none
  | .slc n off len s => match eltOf P t with
    | some e => if szOf P e = some s then match lowB lo, highB len hi, mx with
      | some a, some b, none => if 0 ≤ a ∧ a ≤ b ∧ b ≤ len then
          (if a = 0 ∨ a < len then some (.slc n (off + a.toNat * s) (b.toNat - a.toNat) s) else some (.fslc false false s []))
        else none
      | some a, some b, some m => match intOf? m with
        | some m => if hi.isSome ∧ 0 ≤ a ∧ a ≤ b ∧ b ≤ m ∧ m ≤ len then some .undef else none
        | none => none
      | _, _, _ => none
      else none
    | none => none
  | _ => none

inductive RvO (G : Gh) : Option AV → Option Value → Prop
  | none : RvO G none none
  | some {x : AV} {v : Value} (h : Rv G x v) : RvO G (some x) (some v)

section
variable {P : Program} {w0 : World} {G : Gh} {h : AHeap} {w : World} {nm : Nat}

theorem intOf?_ok {x : AV} {n : Int} (hx : intOf? x = some n) {v : Value} (hv : Rv G x v) : ∃ k, v = .int k n := by
  unfold intOf? at hx
  split at hx
  · cases hx; simp only [Rv] at hv; exact ⟨_, hv.1⟩
  · cases hx

theorem run_sliceBound {v : Value} {k : IntKind} {i : Int} (hv : v = .int k i) {y : Nat} (h0 : 0 ≤ i) (h1 : i ≤ y) (code : BoundsCode) : (Instr.sliceBound v y code).run P w = .ok i.toNat w := by
  subst hv; simp [Instr.sliceBound, asIntOf, h0, h1]

theorem run_bounds {isS : Bool} {len cap : Nat} {lo hi : Option AV} {vlo vhi : Option Value} (hlo : RvO G lo vlo) (hhi : RvO G hi vhi) {a b : Int} (ha : lowB lo = some a) (hb : highB len hi = some b)
    (h0 : 0 ≤ a) (h1 : a ≤ b) (h2 : b ≤ cap) : (Instr.sliceBounds isS len cap vlo vhi none).run P w = .ok (a.toNat, b.toNat, cap) w := by
  have e1 : ∀ (y : Nat) (code : BoundsCode), a ≤ y → (match vlo with | some v => Instr.sliceBound v y code | none => pure 0 : Sem Nat).run P w = .ok a.toNat w := by
    intro y code hy
    cases hlo with
    | none => simp only [lowB, Option.some.injEq] at ha; subst ha; simp
    | some hx => obtain ⟨k, hv⟩ := intOf?_ok ha hx; exact run_sliceBound hv h0 hy code
  cases hhi with
  | none =>
    simp only [highB, Option.some.injEq] at hb; subst hb
    simp only [Instr.sliceBounds, Sem.run_bind, Sem.run_pure, Result.andThen_ok]
    have := e1 len .sliceB h1
    cases vlo with
    | none => simp at this ⊢; exact this
    | some v => simp at this ⊢; rw [this]; simp
  | some hx =>
    obtain ⟨k, rfl⟩ := intOf?_ok hb hx
    have e2 := fun code => run_sliceBound (P := P) (w := w) (v := .int k b) (k := k) (i := b) rfl (y := cap) (by omega) h2 code
    simp only [Instr.sliceBounds, Sem.run_bind, Sem.run_pure, Result.andThen_ok]
    have := e1 b.toNat .sliceB (by omega)
    cases vlo with
    | none => simp at this ⊢; rw [e2]; simp [this]
    | some v => simp at this ⊢; rw [e2]; simp; rw [this]; simp

theorem run_bounds3 {isS : Bool} {len cap : Nat} {lo hi : Option AV} {vlo vhi : Option Value} (hlo : RvO G lo vlo) (hhi : RvO G hi vhi) {a b m : Int} {km : IntKind} (ha : lowB lo = some a) (hb : highB len hi = some b) (hs : hi.isSome = true)
    (h0 : 0 ≤ a) (h1 : a ≤ b) (h2 : b ≤ m) (h3 : m ≤ cap) : (Instr.sliceBounds isS len cap vlo vhi (some (.int km m))).run P w = .ok (a.toNat, b.toNat, m.toNat) w := by
  have e1 : ∀ (y : Nat) (code : BoundsCode), a ≤ y → (match vlo with | some v => Instr.sliceBound v y code | none => pure 0 : Sem Nat).run P w = .ok a.toNat w := by
    intro y code hy
    cases hlo with
    | none => simp only [lowB, Option.some.injEq] at ha; subst ha; simp
    | some hx => obtain ⟨k, hv⟩ := intOf?_ok ha hx; exact run_sliceBound hv h0 hy code
  cases hhi with
  | none => cases hs
  | some hx =>
    obtain ⟨k, rfl⟩ := intOf?_ok hb hx
    have e3 := fun code => run_sliceBound (P := P) (w := w) (v := .int km m) (k := km) (i := m) rfl (y := cap) (by omega) h3 code
    have e2 := fun code => run_sliceBound (P := P) (w := w) (v := .int k b) (k := k) (i := b) rfl (y := m.toNat) (by omega) (by omega) code
    simp only [Instr.sliceBounds, Sem.run_bind]
    have := e1 b.toNat .slice3C (by omega)
    rw [e3]
    simp only [Result.andThen_ok]
    rw [e2]
    simp only [Result.andThen_ok, Option.isSome_some, if_true]
    cases vlo with
    | none => simp at this ⊢; exact this
    | some v => simp at this ⊢; rw [this]; simp

theorem slice_ok {t : TypeId} {x : AV} {lo hi mx : Option AV} {v : Value} {vlo vhi vmx : Option Value} (hx : Rv G x v) (hlo : RvO G lo vlo) (hhi : RvO G hi vhi) (hmx : RvO G mx vmx) {r : AV} (hr : aSlice P t x lo hi mx = some r) :
    ∃ cv, (Instr.sliceAt t v vlo vhi vmx).run P w = .ok cv w ∧ Rv G r cv := by
  unfold aSlice at hr
  split at hr
  · -- a string
    rename_i s
    split at hr
    · rename_i hk
      obtain ⟨hk, hmn⟩ := hk
      obtain ⟨d, hu, hd⟩ := kd_und hk (by simp)
      simp only at hd
      subst hd
      have hvm : vmx = none := by cases hmx <;> simp at hmn; rfl
      subst hvm
      simp only [Rv] at hx
      obtain ⟨rfl, _⟩ := hx
      split at hr
      · rename_i l hh e1 e2
        split at hr
        · rename_i hc
          cases hr
          have hb := run_bounds (P := P) (w := w) (isS := false) (cap := s.size) hlo hhi e1 e2 hc.1 hc.2.1 hc.2.2
          refine ⟨.string (s.extract l.toNat hh.toNat), ?_, Rv_sv.2 rfl⟩
          simp only [Instr.sliceAt, Sem.run_bind, run_underlying hu, Result.andThen_ok, Instr.slice, Option.isSome_none, Bool.false_eq_true, if_false, hb, Sem.run_pure]
        · cases hr
      · cases hr
    · cases hr
  · -- frozen
    rename_i nl full s l
    split at hr
    · rename_i e he
      split at hr
      · rename_i hsz
        simp only [Rv] at hx
        obtain ⟨a, cap, rfl, k1, k2, k3, k4⟩ := hx
        obtain ⟨sz, hsz'⟩ : ∃ sz, szOf P e = some sz := by
          rcases hsz with h | ⟨_, h⟩
          · exact ⟨s, h⟩
          · exact Option.isSome_iff_exists.1 h
        -- the part of the list
        have part : ∀ (p q m : Nat), p ≤ q → q ≤ l.length → q ≤ m → m ≤ cap → ∀ f : Bool, (f = true → m = q) →
            Rv G (.fslc nl f s ((l.take q).drop p)) (.slice (if m = p then a else a.map (·.add (p * sz))) (q - p) (m - p)) := by
          intro p q m hpq hql hqm hmc f hf
          have hlen : ((l.take q).drop p).length = q - p := by simp; omega
          simp only [Rv]
          refine ⟨_, m - p, by rw [hlen], by rw [hlen]; omega, fun hh => by rw [hlen, hf hh], fun hn => ?_, fun hn => ?_⟩
          · obtain ⟨rfl, hc⟩ := k3 hn
            simp; omega
          · obtain ⟨ad, rfl, hE⟩ := k4 hn
            by_cases hmp : m = p
            · refine ⟨ad, by simp [hmp], ?_⟩
              have : (l.take q).drop p = [] := List.length_eq_zero_iff.1 (by omega)
              rw [this]; simp [RvE]
            · refine ⟨ad.add (p * sz), by simp [hmp], ?_⟩
              rcases hsz with h | ⟨h, _⟩
              · rw [hsz'] at h; cases h
                have := (hE.take q).drop p
                rw [Nat.zero_add] at this
                exact RvE.shift (p * s) (by simpa using this)
              · have : (l.take q).drop p = [] := List.length_eq_zero_iff.1 (by omega)
                rw [this]; simp [RvE]
        have hsr := run_sizeOf hsz' w
        split at hr
        · rename_i p q e1 e2
          split at hr
          · rename_i hc
            cases hr
            cases hmx
            have hb := run_bounds (P := P) (w := w) (isS := true) (cap := cap) hlo hhi e1 e2 hc.1 hc.2.1 (by omega)
            refine ⟨_, ?_, part p.toNat q.toNat cap (by omega) (by omega) (by omega) (Nat.le_refl _) _ (fun hh => ?_)⟩
            · simp only [Instr.sliceAt, Sem.run_bind, run_eltOf he, Result.andThen_ok, Instr.slice, hb, hsr, Sem.run_pure]
            · simp only [Bool.and_eq_true, decide_eq_true_eq] at hh
              have := k2 hh.1
              omega
          · cases hr
        · rename_i p q m e1 e2
          split at hr
          · rename_i mm hm
            split at hr
            · rename_i hc
              cases hr
              cases hmx with
              | some hmv =>
                obtain ⟨km, rfl⟩ := intOf?_ok hm hmv
                have hb := run_bounds3 (P := P) (w := w) (isS := true) (cap := cap) (km := km) hlo hhi e1 e2 hc.1 hc.2.1 hc.2.2.1 hc.2.2.2.1 (by omega)
                refine ⟨_, ?_, part p.toNat q.toNat mm.toNat (by omega) (by omega) (by omega) (by omega) _ (fun hh => ?_)⟩
                · simp only [Instr.sliceAt, Sem.run_bind, run_eltOf he, Result.andThen_ok, Instr.slice, hb, hsr, Sem.run_pure]
                · simp only [decide_eq_true_eq] at hh; omega
            · cases hr
          · cases hr
        · cases hr
      · cases hr
    · cases hr
  · -- owned
    rename_i n off len s
    split at hr
    · rename_i e he
      split at hr
      · rename_i hsz
        have hsr := run_sizeOf hsz w
        simp only [Rv] at hx
        obtain ⟨b, lo', t', cap, hreg, rfl, k1, k2, k3⟩ := hx
        split at hr
        · rename_i p q e1 e2
          split at hr
          · rename_i hc
            cases hmx
            have hb := run_bounds (P := P) (w := w) (isS := true) (cap := cap) hlo hhi e1 e2 hc.1 hc.2.1 (by omega)
            refine ⟨_, by simp only [Instr.sliceAt, Sem.run_bind, run_eltOf he, Result.andThen_ok, Instr.slice, hb, hsr, Sem.run_pure]; rfl, ?_⟩
            split at hr
            · rename_i hp
              cases hr
              simp only [Rv]
              refine ⟨b, lo', t', cap - p.toNat, hreg, ?_, by omega, ?_, k3⟩
              · congr 1
                by_cases hcp : cap = p.toNat
                · have : p.toNat = 0 := by omega
                  simp [this, addr_add_lit]
                · rw [if_neg hcp]
                  simp [addr_add_lit, Nat.add_assoc]
              · have hpc : p.toNat ≤ cap := by omega
                have := Nat.mul_le_mul_right s hpc
                rw [Nat.sub_mul]; omega
            · rename_i hp
              cases hr
              have : q.toNat - p.toNat = 0 := by omega
              rw [this]
              simp only [Rv]
              refine ⟨_, _, rfl, by simp, by simp, by simp, fun _ => ?_⟩
              by_cases hcp : cap = p.toNat
              · exact ⟨_, by rw [if_pos hcp], by simp [RvE]⟩
              · exact ⟨_, by rw [if_neg hcp]; rfl, by simp [RvE]⟩
          · cases hr
        · rename_i p q m e1 e2
          split at hr
          · rename_i mm hm
            split at hr
            · rename_i hc
              cases hr
              cases hmx with
              | some hmv =>
                obtain ⟨km, rfl⟩ := intOf?_ok hm hmv
                have hb := run_bounds3 (P := P) (w := w) (isS := true) (cap := cap) (km := km) hlo hhi e1 e2 hc.1 hc.2.1 hc.2.2.1 hc.2.2.2.1 (by omega)
                exact ⟨_, by simp only [Instr.sliceAt, Sem.run_bind, run_eltOf he, Result.andThen_ok, Instr.slice, hb, hsr, Sem.run_pure]; rfl, by simp [Rv]⟩
            · cases hr
          · cases hr
        · cases hr
      · cases hr
    · cases hr
  · cases hr
end
end Go.AM

namespace Go.AM
open Go.RowKit

section
variable {P : Program} {w0 : World} {G : Gh} {h : AHeap} {w : World} {nm : Nat}

inductive LenK where
  | slice | string | map | other
  deriving DecidableEq
def lenK (P : Program) (t : TypeId) : LenK :=
  match P.underlying t with
  | some (.slice _) => .slice
  | some .string => .string
  | some (.map _ _) => .map
  | _ => .other

def aLen (P : Program) (t : TypeId) (x : AV) (h : AHeap) : Option AV :=
  match lenK P t, x with
  | .slice, .fslc _ _ _ l => some (iv .i64 l.length)
  | .slice, .slc _ _ len _ => some (iv .i64 len)
  | .string, .c (.string s) => some (iv .i64 s.size)
  | .map, .map n => match h n with
    | some (.map es) => some (iv .i64 es.length)
    | _ => none
  | .map, .c (.map none) => some (iv .i64 0)
  | _, _ => none

theorem len_ok (I : Inv w0 G h w) {t ty : TypeId} {x : AV} {v : Value} (hv : Rv G x v) {r : AV} (hr : aLen P t x h = some r) : ∃ cv, (Builtin.len_ #[t] ty #[v]).run P w = .ok cv w ∧ Rv G r cv := by
  unfold aLen at hr
  have hk : lenK P t ≠ .other := by intro e; rw [e] at hr; cases x <;> simp at hr
  have hu : ∃ d, P.underlying t = some d ∧ (match lenK P t with | .slice => ∃ e, d = .slice e | .string => d = .string | .map => ∃ a b, d = .map a b | .other => False) := by
    unfold lenK at hk ⊢
    split at hk <;> first | exact absurd rfl hk | (rename_i hu; exact ⟨_, hu, by simp⟩)
  obtain ⟨d, hu, hd⟩ := hu
  split at hr
  · rename_i e; rw [e] at hd; obtain ⟨el, rfl⟩ := hd
    cases hr
    simp only [Rv] at hv; obtain ⟨a, cap, rfl, _⟩ := hv
    exact ⟨_, by simp [Builtin.len_, run_underlying hu, goInt], Rv_iv.2 rfl⟩
  · rename_i e; rw [e] at hd; obtain ⟨el, rfl⟩ := hd
    cases hr
    simp only [Rv] at hv; obtain ⟨_, _, _, cap, _, rfl, _⟩ := hv
    exact ⟨_, by simp [Builtin.len_, run_underlying hu, goInt], Rv_iv.2 rfl⟩
  · rename_i e; rw [e] at hd; simp only at hd; subst hd
    cases hr
    simp only [Rv] at hv; obtain ⟨rfl, _⟩ := hv
    exact ⟨_, by simp [Builtin.len_, run_underlying hu, goInt], Rv_iv.2 rfl⟩
  · rename_i n e; rw [e] at hd; obtain ⟨ka, el, rfl⟩ := hd
    split at hr
    · rename_i es hn
      cases hr
      obtain ⟨b, ents, clock, hreg, ok⟩ := I.obj n _ hn
      simp only [Rv] at hv; obtain ⟨b', lo, tt, hreg', rfl⟩ := hv
      rw [hreg] at hreg'; cases hreg'
      have hsz : ents.size = es.length := by
        have := congrArg List.length ok.keys
        simpa using this
      have hg : (getObj b).run P w = .ok (.map ents clock) w := by
        simp only [getObj, Sem.run, ok.blk]
      exact ⟨_, by simp [Builtin.len_, run_underlying hu, goInt, hg, hsz], Rv_iv.2 rfl⟩
    · cases hr
  · rename_i e; rw [e] at hd; obtain ⟨ka, el, rfl⟩ := hd
    cases hr
    simp only [Rv] at hv; obtain ⟨rfl, _⟩ := hv
    exact ⟨.int .i64 0, by simp [Builtin.len_, run_underlying hu, goInt], Rv_iv.2 rfl⟩
  · cases hr

/-- copy(dst, src), dst owned -/
def aCopy (P : Program) (t : TypeId) (d x : AV) (h : AHeap) : Option (AV × AHeap) :=
  match eltOf P t with
  | none => none
  | some e => match szOf P e with
    | none => none
    | some s => match srcCells h s x, d with
      | some (n, xs), .slc m off len s' => if s' = s ∧ xs.length = n * s then match h m with
          | some (.cells c) => if off + len * s ≤ c.length then
              some (iv .i64 (Nat.min n len), h.upd m (some (.cells (splice c off (xs.take (Nat.min n len * s))))))
            else none
          | _ => none
        else none
      | _, _ => none

theorem copy_ok (I : Inv w0 G h w) {t t2 ty : TypeId} {d x : AV} {dv xv : Value} (hd : Rv G d dv) (hxv : Rv G x xv) {r : AV} {h' : AHeap} (hx : aCopy P t d x h = some (r, h')) :
    ∃ cv w', (Builtin.copy_ #[t, t2] ty #[dv, xv]).run P w = .ok cv w' ∧ Inv w0 G h' w' ∧ Rv G r cv := by
  unfold aCopy at hx
  split at hx
  · cases hx
  · rename_i e he
    split at hx
    · cases hx
    · rename_i s hs
      split at hx
      · rename_i n xs m off len s' hsrc
        split at hx
        · rename_i hss
          obtain ⟨rfl, hxl⟩ := hss
          split at hx
          · rename_i c hm
            split at hx
            · rename_i hle
              simp only [Option.some.injEq, Prod.mk.injEq] at hx
              obtain ⟨rfl, rfl⟩ := hx
              obtain ⟨hxs, a, cc, news, rfl, hnl, hnr, ha, hnews⟩ := src_ok I hxv hsrc
              simp only [Rv] at hd
              obtain ⟨b, lo, tt, cap, hr, rfl, k1, k2, k3⟩ := hd
              obtain ⟨rr, us, hr', ok⟩ := I.obj m _ hm
              rw [hr] at hr'; cases hr'
              have hok := ok.len
              simp only at hok
              have hmin : Nat.min n len * s' ≤ n * s' := Nat.mul_le_mul_right _ (Nat.min_le_left _ _)
              have hmin2 : Nat.min n len * s' ≤ len * s' := Nat.mul_le_mul_right _ (Nat.min_le_right _ _)
              have hlt : (news.take (Nat.min n len * s')).length = Nat.min n len * s' := by rw [List.length_take]; omega
              have hst := run_storeCells_cells (P := P) b (lo + off) (news.take (Nat.min n len * s')) 0 w (fun j hj => by
                  have := ok.some (off + j) (by simp only; omega)
                  simpa [Nat.add_assoc] using this) (fun j hj => by
                  have := ok.free (off + j) (by simp only; omega)
                  simpa [Nat.add_assoc] using this) (fun v hv => hnr.oneCells hxs v (List.mem_of_mem_take hv))
              simp only [Nat.add_zero] at hst
              have hfc : (Builtin.firstCells s' (Nat.min n len) (.slice a n cc)).run P w = .ok (news.take (Nat.min n len * s')).toArray w := by
                cases a with
                | none =>
                  obtain ⟨rfl, rfl⟩ := ha rfl
                  have : news = [] := List.length_eq_zero_iff.1 (by simpa using hnl)
                  subst this
                  simp [Builtin.firstCells]
                | some ad =>
                  exact run_firstCells_some (P := P) w s' (Nat.min n len) ad n cc _ hlt (fun j v ej => by
                    rw [List.getElem?_take] at ej
                    split at ej
                    · exact hnews ad rfl j v ej
                    · cases ej)
              refine ⟨_, _, ?_, I.store hm hr off (xs.take (Nat.min n len * s')) _ (hnr.take _) (List.all_eq_true.2 fun y hy => List.all_eq_true.1 hxs y (List.mem_of_mem_take hy)) (by omega) (by simp only [List.length_take]; omega), Rv_iv.2 rfl⟩
              simp only [Builtin.copy_, List.getElem?_toArray, List.getElem?_cons_zero, List.getElem?_cons_succ, Sem.run_bind, run_eltOf he, Result.andThen_ok, Builtin.lenOf, Sem.run_pure, run_sizeOf hs, hfc, hst, goInt]
            · cases hx
          · cases hx
        · cases hx
      · cases hx

/-- clear of an owned slice -/
def aClear (P : Program) (t : TypeId) (x : AV) (h : AHeap) : Option AHeap :=
  match eltOf P t with
  | none => none
  | some e => match szOf P e, zerOf P e with
    | some s, some z => if (cellsOf z).length = s ∧ (cellsOf z).all AV.scalar = true ∧ 0 < s then match x with
      | .slc m off len s' => if s' = s then match h m with
          | some (.cells c) => if off + len * s ≤ c.length then some (h.upd m (some (.cells (splice c off (zrow z len))))) else none
          | _ => none
        else none
      | .fslc _ _ _ l => if l.length = 0 then some h else none
      | _ => none
      else none
    | _, _ => none

theorem splice_nil (c : List AV) (off : Nat) : splice c off [] = c := by simp [splice]

theorem clear_ok (I : Inv w0 G h w) {t ty : TypeId} {x : AV} {v : Value} (hv : Rv G x v) {h' : AHeap} (hx : aClear P t x h = some h') :
    ∃ cv w', (Builtin.clear_ #[t] ty #[v]).run P w = .ok cv w' ∧ Inv w0 G h' w' := by
  unfold aClear at hx
  split at hx
  · cases hx
  · rename_i e he
    split at hx
    · rename_i s z hs hz
      split at hx
      · rename_i hc
        obtain ⟨hz1, hzs, hs0⟩ := hc
        split at hx
        · rename_i m off len s'
          split at hx
          · rename_i hss
            subst hss
            split at hx
            · rename_i c hm
              split at hx
              · rename_i hle
                cases hx
                simp only [Rv] at hv
                obtain ⟨b, lo, tt, cap, hr, rfl, k1, k2, k3⟩ := hv
                obtain ⟨rr, us, hr', ok⟩ := I.obj m _ hm
                rw [hr] at hr'; cases hr'
                have hok := ok.len
                simp only at hok
                obtain ⟨zv, hzv, hzr⟩ := run_zero hz G w
                have hzc := hzr.cells hzs
                have hzl := hzc.length
                simp only [Array.length_toList] at hzl
                cases len with
                | zero =>
                  refine ⟨.tuple #[], w, by simp [Builtin.clear_, run_eltOf he], ?_⟩
                  have : zrow z 0 = [] := by simp [zrow]
                  rw [this, splice_nil]
                  have : h.upd m (some (.cells c)) = h := by
                    funext k; by_cases hk : k = m <;> simp [AHeap.upd, hk, hm]
                  rw [this]; exact I
                | succ len =>
                  have hrow : (Builtin.zeroCells zv.cells (len + 1)).toList = (List.replicate (len + 1) zv.cells.toList).flatten := range_mod zv.cells (len + 1) (by omega)
                  have hlen : (List.replicate (len + 1) zv.cells.toList).flatten.length = (len + 1) * s' := by simp [show zv.cells.size = s' by omega]
                  have hst := run_storeCells_cells (P := P) b (lo + off) (List.replicate (len + 1) zv.cells.toList).flatten 0 w (fun j hj => by
                      have := ok.some (off + j) (by simp only; omega)
                      simpa [Nat.add_assoc] using this) (fun j hj => by
                      have := ok.free (off + j) (by simp only; omega)
                      simpa [Nat.add_assoc] using this) ((RvL_replicate hzc (len + 1)).oneCells (zrow_all hzs (len + 1)))
                  simp only [Nat.add_zero] at hst
                  refine ⟨.tuple #[], _, ?_, I.store hm hr off (zrow z (len + 1)) _ (RvL_replicate hzc (len + 1)) (zrow_all hzs _) (by omega) (by rw [zrow_length hz1]; simp only; omega)⟩
                  simp only [Builtin.clear_, List.getElem?_toArray, List.getElem?_cons_zero, Sem.run_bind, run_eltOf he, Result.andThen_ok, hzv, hrow, hst, Sem.run_pure]
              · cases hx
            · cases hx
          · cases hx
        · rename_i l
          split at hx
          · rename_i hl
            cases hx
            simp only [Rv] at hv
            obtain ⟨a, cap, rfl, _⟩ := hv
            refine ⟨.tuple #[], w, ?_, I⟩
            rw [hl]
            cases a <;> simp [Builtin.clear_, run_eltOf he]
          · cases hx
        · cases hx
      · cases hx
    · cases hx
end
end Go.AM

namespace Go.AM
open Go.RowKit

/-- the concrete values of immediate cells -/
def cVals : List AV → Option (List Value)
  | [] => some []
  | .c v :: r => (cVals r).map (v :: ·)
  | _ :: _ => none
def fldKey (P : Program) (n : Nat) (fs : List Field) : Bool := fs.all fun f => (match skOf P f.type with | .none => false | _ => true) && decide (f.offset < n)
/-- a key: its concrete value -/
def keyOk (P : Program) (kt : TypeId) (x : AV) : Option Value :=
  match P.underlying kt, x with
  | some (.int _), .c (.int k a) => some (.int k a)
  | some (.struct fs), .agg xs => match cVals xs with
    | some vs => if fldKey P vs.length fs.toList = true then some (.agg vs.toArray) else none
    | none => none
  | _, _ => none
def keyEqA (P : Program) (kt : TypeId) (x : AV) (key : Value) : Option Bool :=
  match x, key with
  | .c (.int k a), .int k' b => if k = k' then some (a == b) else none
  | .agg xs, .agg vs => aggEq P kt xs (vs.toList.map ofVal)
  | _, _ => none
def findA (P : Program) (kt : TypeId) (x : AV) : List (Value × AV) → Nat → Option (Option (Nat × AV))
  | [], _ => some none
  | (k, v) :: r, i => match keyEqA P kt x k with
    | some true => some (some (i, v))
    | some false => findA P kt x r (i + 1)
    | none => none
def RvF (G : Gh) : Option (Nat × AV) → Option (Nat × Value) → Prop
  | none, none => True
  | some (i, x), some (j, v) => i = j ∧ Rv G x v
  | _, _ => False
section
variable {P : Program} {w0 : World} {G : Gh} {h : AHeap} {w : World} {nm : Nat}

theorem cVals_ok : ∀ {xs : List AV} {vs us : List Value}, cVals xs = some vs → RvL G xs us → us = vs
  | [], vs, us, h, hr => by
    simp only [cVals, Option.some.injEq] at h; subst h
    simpa [RvL] using hr
  | x :: r, vs, us, h, hr => by
    cases x with
    | c v =>
      simp only [cVals, Option.map_eq_some_iff] at h
      obtain ⟨vs', h1, rfl⟩ := h
      simp only [RvL, Rv] at hr
      obtain ⟨u, ur, rfl, ⟨rfl, _⟩, h2⟩ := hr
      rw [cVals_ok h1 h2]
    | _ => simp [cVals] at h
theorem chk_sk {t : TypeId} (h : skOf P t ≠ .none) (e : Bool) (n : Nat) (v : Value) : (Instr.checkKey e (n + 1) t v).run P w = .ok () w := by
  unfold skOf at h
  split at h
  · rename_i k hu; simp [Instr.checkKey, run_underlying hu]
  · rename_i hu; simp [Instr.checkKey, run_underlying hu]
  · rename_i hu; simp [Instr.checkKey, run_underlying hu]
  · exact absurd rfl h
theorem chk_fields {e : Bool} {n : Nat} {cs : Array Value} : ∀ {fs : List Field}, fldKey P cs.size fs = true →
    (forIn (m := Sem) fs PUnit.unit (fun (f : Field) (_ : PUnit) => do
      if f.name ≠ "_" then Instr.checkKey e (n + 1) f.type (← part f.type cs f.offset)
      pure (ForInStep.yield PUnit.unit))).run P w = .ok PUnit.unit w
  | [], _ => by simp
  | f :: fs, h => by
    simp only [fldKey, List.all_cons, Bool.and_eq_true, decide_eq_true_eq] at h
    obtain ⟨⟨h1, h2⟩, h3⟩ := h
    have hk : skOf P f.type ≠ .none := by intro e; rw [e] at h1; simp at h1
    have hp := part_ok (w := w) hk (cs := cs) (off := f.offset) (Array.getElem?_eq_getElem h2)
    have ih := chk_fields (e := e) (n := n) (cs := cs) (fs := fs) h3
    rw [List.forIn_cons]
    by_cases hn : f.name = "_"
    · simp only [hn, ne_eq, not_true_eq_false, if_false, Sem.run_bind, Sem.run_pure, Result.andThen_ok]
      exact ih
    · simp only [hn, ne_eq, not_false_eq_true, if_true, Sem.run_bind, hp, Result.andThen_ok, chk_sk hk, Sem.run_pure]
      exact ih
theorem key_ok {kt : TypeId} {x : AV} {kv v : Value} (hk : keyOk P kt x = some kv) (hx : Rv G x v) : v = kv ∧ ∀ e n, (Instr.checkKey e (n + 2) kt v).run P w = .ok () w := by
  unfold keyOk at hk
  split at hk
  · rename_i kk k a hu
    simp only [Option.some.injEq] at hk; subst hk
    simp only [Rv] at hx
    refine ⟨hx.1, fun e n => ?_⟩
    rw [hx.1]
    simp [Instr.checkKey, run_underlying hu]
  · rename_i fs xs hu
    split at hk
    · rename_i vs hvs
      split at hk
      · rename_i hf
        simp only [Option.some.injEq] at hk; subst hk
        simp only [Rv] at hx
        obtain ⟨us, rfl, hr⟩ := hx
        have e1 := cVals_ok hvs hr
        have e2 : us = vs.toArray := by rw [← e1]
        subst e2
        refine ⟨rfl, fun e n => ?_⟩
        have := chk_fields (P := P) (w := w) (e := e) (n := n) (cs := vs.toArray) (fs := fs.toList) (by simpa using hf)
        rw [Instr.checkKey]
        simp only [run_underlying hu, Sem.run_bind, Result.andThen_ok]
        rw [← Array.forIn_toList]
        simp only [this, Result.andThen_ok, Sem.run_pure]
      · cases hk
    · cases hk
  · cases hk
theorem Rv_ofVals (G : Gh) : ∀ vs : List Value, RvL G (vs.map ofVal) vs
  | [] => by simp [RvL]
  | v :: r => by simp only [List.map_cons, RvL]; exact ⟨v, r, rfl, Rv_ofVal G v, Rv_ofVals G r⟩
theorem asking_ok {kt : TypeId} {xs : List AV} {kv : Value} (hx : Rv G (.agg xs) kv) : ∀ {es : List (Value × AV)} {ents : List MapEntry} {i : Nat} {r : Option (Nat × AV)}, ents.map (·.key) = es.map (·.1) → RvL G (es.map (·.2)) (ents.map (·.val)) →
    findA P kt (.agg xs) es i = some r → ∃ cr, (Instr.findAsking kt kv ents i).run P w = .ok cr w ∧ RvF G r cr
  | [], ents, i, r, hkeys, hv, hf => by
    simp only [findA, Option.some.injEq] at hf; subst hf
    have : ents = [] := by simpa using hkeys
    subst this
    exact ⟨none, by simp [Instr.findAsking], trivial⟩
  | (k, x) :: es, [], i, r, hkeys, hv, hf => by simp at hkeys
  | (k, x) :: es, e :: ents, i, r, hkeys, hv, hf => by
    simp only [List.map_cons, List.cons.injEq] at hkeys
    obtain ⟨hk1, hk2⟩ := hkeys
    simp only [List.map_cons, RvL] at hv
    obtain ⟨v, vr, e0, hv1, hv2⟩ := hv
    simp only [List.cons.injEq] at e0
    obtain ⟨rfl, rfl⟩ := e0
    simp only [findA] at hf
    have hkk : ∀ b, keyEqA P kt (.agg xs) k = some b → (Op.equal kt kv e.key).run P w = .ok b w := by
      intro b hb
      rw [hk1]
      cases k with
      | agg vs =>
        simp only [keyEqA] at hb
        simp only [Rv] at hx
        obtain ⟨us, rfl, hr⟩ := hx
        exact (aggEq_ok hr (Rv_ofVals G _) hb).1
      | _ => simp [keyEqA] at hb
    split at hf
    · rename_i hb
      simp only [Option.some.injEq] at hf; subst hf
      exact ⟨some (i, e.val), by simp [Instr.findAsking, hkk true hb], rfl, hv1⟩
    · rename_i hb
      obtain ⟨cr, h1, h2⟩ := asking_ok hx hk2 hv2 hf
      exact ⟨cr, by simp [Instr.findAsking, hkk false hb, h1], h2⟩
    · cases hf
theorem now_ok {kt : TypeId} {kk k : IntKind} {a : Int} : ∀ {es : List (Value × AV)} {ents : List MapEntry} {i : Nat} {r : Option (Nat × AV)}, ents.map (·.key) = es.map (·.1) → RvL G (es.map (·.2)) (ents.map (·.val)) →
    findA P kt (.c (.int k a)) es i = some r → ∃ cr, Instr.findNow (.int kk) (.int k a) ents i = some cr ∧ RvF G r cr
  | [], ents, i, r, hkeys, hv, hf => by
    simp only [findA, Option.some.injEq] at hf; subst hf
    have : ents = [] := by simpa using hkeys
    subst this
    exact ⟨none, rfl, trivial⟩
  | (k', x) :: es, [], i, r, hkeys, hv, hf => by simp at hkeys
  | (k', x) :: es, e :: ents, i, r, hkeys, hv, hf => by
    simp only [List.map_cons, List.cons.injEq] at hkeys
    obtain ⟨hk1, hk2⟩ := hkeys
    simp only [List.map_cons, RvL] at hv
    obtain ⟨v, vr, e0, hv1, hv2⟩ := hv
    simp only [List.cons.injEq] at e0
    obtain ⟨rfl, rfl⟩ := e0
    simp only [findA] at hf
    have hkk : ∀ b, keyEqA P kt (.c (.int k a)) k' = some b → Instr.sameNow (.int kk) (.int k a) e.key = some b := by
      intro b hb
      rw [hk1]
      cases k' with
      | int k1 b1 => simpa only [keyEqA, Instr.sameNow] using hb
      | _ => simp [keyEqA] at hb
    split at hf
    · rename_i hb
      simp only [Option.some.injEq] at hf; subst hf
      exact ⟨some (i, e.val), by simp [Instr.findNow, hkk true hb], rfl, hv1⟩
    · rename_i hb
      obtain ⟨cr, h1, h2⟩ := now_ok (kk := kk) hk2 hv2 hf
      exact ⟨cr, by simp [Instr.findNow, hkk false hb, h1], h2⟩
    · cases hf
theorem find_ok {kt : TypeId} {x : AV} {kv : Value} (hk : keyOk P kt x = some kv) (hx : Rv G x kv) {es : List (Value × AV)} {ents : List MapEntry} {r : Option (Nat × AV)} (hkeys : ents.map (·.key) = es.map (·.1)) (hv : RvL G (es.map (·.2)) (ents.map (·.val)))
    (hf : findA P kt x es 0 = some r) : ∃ cr, (Instr.findKey kt kv ents).run P w = .ok cr w ∧ RvF G r cr := by
  unfold keyOk at hk
  split at hk
  · rename_i kk k a hu
    simp only [Option.some.injEq] at hk; subst hk
    obtain ⟨cr, h1, h2⟩ := now_ok (kk := kk) hkeys hv hf
    exact ⟨cr, MapKept.run_findKey hu h1, h2⟩
  · rename_i fs xs hu
    obtain ⟨cr, h1, h2⟩ := asking_ok (w := w) hx hkeys hv hf
    exact ⟨cr, by rw [run_findKey_eq w (by rw [hu])]; exact h1, h2⟩
  · cases hk
end
def mapTys (P : Program) (t : TypeId) : Option (TypeId × TypeId) :=
  match P.underlying t with
  | some (.map k e) => some (k, e)
  | _ => none
def resF (P : Program) (et : TypeId) : Option (Nat × AV) → Option (AV × Bool)
  | some (_, v) => some (v, true)
  | none => (zerOf P et).map (·, false)
def pairF (ok : Bool) (p : AV × Bool) : AV := if ok then .tup [p.1, bv p.2] else p.1
/-- a look into a map -/
def aLookup (P : Program) (t : TypeId) (m k : AV) (ok : Bool) (h : AHeap) : Option AV :=
  match mapTys P t with
  | some (kt, et) => match keyOk P kt k with
    | some _ => match m with
      | .map n => match h n with
        | some (.map es) => match findA P kt k es 0 with
          | some r => (resF P et r).map (pairF ok)
          | none => none
        | _ => none
      | _ => none
    | none => none
  | none => none
/-- a new key is laid into a map -/
def aMapPut (P : Program) (t : TypeId) (m k x : AV) (h : AHeap) : Option AHeap :=
  match mapTys P t with
  | some (kt, _) => match keyOk P kt k with
    | some kv => match m with
      | .map n => match h n with
        | some (.map es) => match findA P kt k es 0 with
          | some none => some (h.upd n (some (.map (es ++ [(kv, x)]))))
          | _ => none
        | _ => none
      | _ => none
    | none => none
  | none => none
def aRange (P : Program) (nm : Nat) (t : TypeId) (m : AV) (h : AHeap) : Option (AV × AHeap) :=
  match mapTys P t, m with
  | some _, .map n => match h n with
    | some (.map es) => some (.ptr nm 0, h.upd nm (some (.iter n es.length es.length [])))
    | _ => none
  | _, _ => none
def aEntry (it : AV) (h : AHeap) : Option AV :=
  match it with
  | .ptr n 0 => match h n with
    | some (.iter m _ c0 seen) => match h m, seen.getLast? with
      | some (.map es), some j => if es.length = c0 then match es[j]? with
          | some (k, v) => some (.tup [ofVal k, v])
          | none => none
        else none
      | _, _ => none
    | _ => none
  | _ => none
section
variable {P : Program} {w0 : World} {G : Gh} {h : AHeap} {w : World} {nm : Nat}
theorem mapTys_u {t k e : TypeId} (h : mapTys P t = some (k, e)) : P.underlying t = some (.map k e) := by
  unfold mapTys at h
  split at h
  · rename_i k' e' hu; simp only [Option.some.injEq, Prod.mk.injEq] at h; obtain ⟨rfl, rfl⟩ := h; exact hu
  · cases h
theorem map_block {_ : Nat} {es : List (Value × AV)} {n : Nat} (I : Inv w0 G h w) (hn : h n = some (.map es)) : ∃ b ents clock, G.reg n = some (b, 0, 1) ∧ MapOk w0 G w b es ents clock := I.obj n _ hn
theorem lookup_ok (I : Inv w0 G h w) {t : TypeId} {m k : AV} {mv kv : Value} (hm : Rv G m mv) (hk : Rv G k kv) {ok : Bool} {x : AV} (hx : aLookup P t m k ok h = some x) : ∃ cv, (Instr.lookup t mv kv ok).run P w = .ok cv w ∧ Rv G x cv := by
  unfold aLookup at hx
  split at hx
  · rename_i kt et hT
    have hu := mapTys_u hT
    split at hx
    · rename_i kv0 hk0
      split at hx
      · rename_i n
        split at hx
        · rename_i es hn
          split at hx
          · rename_i r hf
            simp only [Option.map_eq_some_iff] at hx
            obtain ⟨p, hp, rfl⟩ := hx
            simp only [Rv] at hm
            obtain ⟨b, lo, tt, hr, rfl⟩ := hm
            obtain ⟨b', ents, clock, hr', M⟩ := I.obj n _ hn
            rw [hr] at hr'; cases hr'
            obtain ⟨rfl, hchk⟩ := key_ok (w := w) hk0 hk
            obtain ⟨cr, h1, h2⟩ := find_ok (w := w) hk0 hk M.keys M.vals hf
            have hg := MapKept.run_getObj_map (P := P) M.blk
            have hc := hchk ents.isEmpty 9998
            cases r with
            | none =>
              cases cr with
              | none =>
                simp only [resF, Option.map_eq_some_iff] at hp
                obtain ⟨z, hz, rfl⟩ := hp
                obtain ⟨zv, h3, h4⟩ := run_zero hz G w
                refine ⟨if ok then .tuple #[zv, .bool false] else zv, ?_, ?_⟩
                · simp [Instr.lookup, run_underlying hu, hg, hc, h1, h3]
                · cases ok
                  · simpa [pairF] using h4
                  · simp only [pairF, if_true, Rv, RvL]
                    exact ⟨_, rfl, _, _, rfl, h4, _, _, rfl, by simp [Value.oneCell'], rfl⟩
              | some q => exact h2.elim
            | some r =>
              obtain ⟨i, y⟩ := r
              cases cr with
              | none => exact h2.elim
              | some q =>
                obtain ⟨j, v⟩ := q
                obtain ⟨_, h4⟩ := h2
                simp only [resF, Option.some.injEq] at hp
                subst hp
                refine ⟨if ok then .tuple #[v, .bool true] else v, ?_, ?_⟩
                · simp [Instr.lookup, run_underlying hu, hg, hc, h1]
                · cases ok
                  · simpa [pairF] using h4
                  · simp only [pairF, if_true, Rv, RvL]
                    exact ⟨_, rfl, _, _, rfl, h4, _, _, rfl, by simp [Value.oneCell'], rfl⟩
          · cases hx
        · cases hx
      · cases hx
    · cases hx
  · cases hx
theorem mapPut_ok (I : Inv w0 G h w) {t : TypeId} {m k x : AV} {mv kv xv : Value} (hm : Rv G m mv) (hk : Rv G k kv) (hxv : Rv G x xv) {h' : AHeap} (hx : aMapPut P t m k x h = some h') : ∃ w', (Instr.mapUpdate t mv kv xv).run P w = .ok () w' ∧ Inv w0 G h' w' := by
  unfold aMapPut at hx
  split at hx
  · rename_i kt et hT
    have hu := mapTys_u hT
    split at hx
    · rename_i kv0 hk0
      split at hx
      · rename_i n
        split at hx
        · rename_i es hn
          split at hx
          · rename_i hf
            simp only [Option.some.injEq] at hx; subst hx
            simp only [Rv] at hm
            obtain ⟨b, lo, tt, hr, rfl⟩ := hm
            obtain ⟨b', ents, clock, hr', M⟩ := I.obj n _ hn
            rw [hr] at hr'; cases hr'
            obtain ⟨rfl, hchk⟩ := key_ok (w := w) hk0 hk
            obtain ⟨cr, h1, h2⟩ := find_ok (w := w) hk0 hk M.keys M.vals hf
            have hg := MapKept.run_getObj_map (P := P) M.blk
            have hc := hchk false 9998
            cases cr with
            | some q => exact h2.elim
            | none =>
              refine ⟨w.putObj b (.map (ents.push { key := kv, val := xv, born := clock }) (clock + 1)), ?_, ?_⟩
              · simp [Instr.mapUpdate, run_underlying hu, hg, hc, h1, MapKept.run_setObj_map _ M.blk, World.putObj]
              · have hlt : b < w.heap.size := (Array.getElem?_eq_some_iff.1 M.blk).1
                refine I.putObj hn hr M.blk (by simp) (by simp) (by simp) (by simp) M.base ⟨b, _, _, hr, M.base, World.putObj_heap_same hlt, ?_, ?_, fun i e he => ?_, ?_⟩
                · simp [M.keys]
                · simp only [List.map_append, Array.toList_push]
                  exact RvL.append M.vals (by simp only [List.map_cons, List.map_nil, RvL]; exact ⟨_, _, rfl, hxv, rfl⟩)
                · rw [Array.getElem?_push] at he
                  split at he
                  · rename_i hi
                    simp only [Option.some.injEq] at he; subst he
                    show clock = i
                    rw [M.clk, hi]
                  · exact M.born i e he
                · rw [M.clk]; simp
          · cases hx
        · cases hx
      · cases hx
    · cases hx
  · cases hx
end
end Go.AM

namespace Go.AM
open Go.RowKit
def chanElt (P : Program) (t : TypeId) : Option TypeId :=
  match P.underlying t with
  | some (.chan _ e) => some e
  | _ => none
def aMakeChan (P : Program) (nm : Nat) (t : TypeId) (n : AV) (h : AHeap) : Option (AV × AHeap) :=
  match chanElt P t, n with
  | some e, .c (.int _ i) => match byOf P e with
    | some b => if 0 ≤ i ∧ i ≤ 1000000 ∧ b ≤ 1000000 then some (.chan nm, h.upd nm (some (.chan i.toNat [] false))) else none
    | none => none
  | _, _ => none
def aClose (x : AV) (h : AHeap) : Option (AV × AHeap) :=
  match x with
  | .chan n => match h n with
    | some (.chan cap buf false) => some (.tup [], h.upd n (some (.chan cap buf true)))
    | _ => none
  | _ => none
section
variable {P : Program} {w0 : World} {G : Gh} {h : AHeap} {w : World} {nm : Nat}
/-- a new object in a block of its own -/
theorem new_ok (I : Inv w0 G h w) (hnm : G.reg nm = none) (ob : Obj) (o : AObj) (ho : ObjOk w0 (G.set nm (w.heap.size, 0, 1)) (w.alloc ob) nm o) {cv : Value} {v : AV} (hv : Rv (G.set nm (w.heap.size, 0, 1)) v cv) :
    StepOk w0 G nm (.ok (.value cv) (w.alloc ob)) v (h.upd nm (some o)) :=
  ⟨_, _, _, .inl rfl, fun _ hk => Gh.set_ne hk, Gh.le_set hnm, I.alloc hnm (.inr trivial) ob o 1 ho, hv⟩
theorem makeMap_ok (I : Inv w0 G h w) (hnm : G.reg nm = none) : StepOk w0 G nm (.ok (.value (.map (some w.heap.size))) (w.alloc (.map #[] 0))) (.map nm) (h.upd nm (some (.map []))) :=
  new_ok I hnm (.map #[] 0) (.map []) ⟨w.heap.size, #[], 0, Gh.set_same, I.below.size, World.alloc_heap_new w _, rfl, by simp [RvL], by simp, rfl⟩ (by simp only [Rv]; exact ⟨_, _, _, Gh.set_same, rfl⟩)
theorem chanElt_u {t e : TypeId} (h : chanElt P t = some e) : ∃ d, P.underlying t = some (.chan d e) := by
  unfold chanElt at h
  split at h
  · rename_i d e' hu; simp only [Option.some.injEq] at h; subst h; exact ⟨d, hu⟩
  · cases h
theorem makeChan_ok (I : Inv w0 G h w) (hnm : G.reg nm = none) {t : TypeId} {n : AV} {nv : Value} (hn : Rv G n nv) {x : AV} {h' : AHeap} (hx : aMakeChan P nm t n h = some (x, h')) :
    ∃ cv w', (Instr.makeChan t nv).run P w = .ok cv w' ∧ StepOk w0 G nm (.ok (.value cv) w') x h' := by
  unfold aMakeChan at hx
  split at hx
  · rename_i e k i he
    obtain ⟨d, hu⟩ := chanElt_u he
    split at hx
    · rename_i b hb
      split at hx
      · rename_i hc
        simp only [Option.some.injEq, Prod.mk.injEq] at hx
        obtain ⟨rfl, rfl⟩ := hx
        simp only [Rv] at hn
        obtain ⟨rfl, _⟩ := hn
        obtain ⟨inf, hi, hib⟩ : ∃ inf, P.info? e = some inf ∧ inf.bytes = b := by simpa only [byOf, Option.map_eq_some_iff] using hb
        have hmax : IntKind.i64.max = 9223372036854775807 := by decide
        have hnot : ¬ (i < 0 ∨ i > IntKind.i64.max ∨ (inf.bytes : Int) * i > 2 ^ 48 - 112) := by
          rw [hmax, hib]
          have h1 : (b : Int) * i ≤ 1000000 * 1000000 := by
            have hb0 : (0 : Int) ≤ b := Int.natCast_nonneg b
            have hb1 : (b : Int) ≤ 1000000 := by omega
            exact Int.mul_le_mul hb1 hc.2.1 hc.1 (by decide)
          have h2 : (2 : Int) ^ 48 - 112 = 281474976710544 := by decide
          rw [h2]
          omega
        refine ⟨_, _, ?_, new_ok I hnm (.chan i.toNat #[] false 0 0 false) (.chan i.toNat [] false) ⟨w.heap.size, #[], 0, 0, Gh.set_same, I.below.size, World.alloc_heap_new w _, by simp [RvL]⟩ (cv := .chan (some w.heap.size)) (by simp only [Rv]; exact ⟨_, _, _, Gh.set_same, rfl⟩)⟩
        have hnot' : ¬ (i < 0 ∨ 9223372036854775807 < i ∨ (281474976710544 : Int) < (inf.bytes : Int) * i) := by
          have h2 : (2 : Int) ^ 48 - 112 = 281474976710544 := by decide
          rw [hmax, h2] at hnot; exact hnot
        simp [Instr.makeChan, asInt, asIntOf, run_underlying hu, typeInfo, hi, hnot', hmax]
      · cases hx
    · cases hx
  · cases hx
theorem close_ok (I : Inv w0 G h w) {x y : AV} {v : Value} (hv : Rv G x v) {h' : AHeap} (hx : aClose x h = some (y, h')) (ts : Array TypeId) (ty : TypeId) : ∃ cv w', (Builtin.close_ ts ty #[v]).run P w = .ok cv w' ∧ Inv w0 G h' w' ∧ Rv G y cv := by
  unfold aClose at hx
  split at hx
  · rename_i n
    split at hx
    · rename_i cap buf hn
      simp only [Option.some.injEq, Prod.mk.injEq] at hx
      obtain ⟨rfl, rfl⟩ := hx
      simp only [Rv] at hv
      obtain ⟨b, lo, tt, hr, rfl⟩ := hv
      obtain ⟨b', vs, s, r, hr', hb, hblk, hrel⟩ := I.obj n _ hn
      rw [hr] at hr'; cases hr'
      have hlt : b < w.heap.size := (Array.getElem?_eq_some_iff.1 hblk).1
      refine ⟨.tuple #[], w.putObj b (.chan cap vs true s r false), ?_, ?_, by simp [Rv, RvL]⟩
      · exact run_close_open ts ty hblk
      · exact I.putObj hn hr hblk (by simp) (by simp) (by simp) (by simp) hb ⟨b, vs, s, r, hr, hb, World.putObj_heap_same hlt, hrel⟩
    · cases hx
  · cases hx
theorem range_ok (I : Inv w0 G h w) (hnm : G.reg nm = none) {t : TypeId} {m : AV} {mv : Value} (hm : Rv G m mv) {x : AV} {h' : AHeap} (hx : aRange P nm t m h = some (x, h')) :
    ∃ cv w', (Instr.range t mv).run P w = .ok cv w' ∧ StepOk w0 G nm (.ok (.value cv) w') x h' := by
  unfold aRange at hx
  split at hx
  · rename_i kt n hT
    obtain ⟨k, e⟩ := kt
    have hu := mapTys_u hT
    split at hx
    · rename_i es hn
      simp only [Option.some.injEq, Prod.mk.injEq] at hx
      obtain ⟨rfl, rfl⟩ := hx
      simp only [Rv] at hm
      obtain ⟨b, lo, tt, hr, rfl⟩ := hm
      obtain ⟨b', ents, clock, hr', M⟩ := I.obj n _ hn
      rw [hr] at hr'; cases hr'
      have hl : clock = es.length := by
        rw [M.clk]
        have := congrArg List.length M.keys
        simpa using this
      refine ⟨_, _, run_range_map w t k e b ents clock hu M.blk, ?_⟩
      rw [hl]
      refine new_ok I hnm (.mapIter (some b) es.length #[] es.length) (.iter n es.length es.length []) ⟨w.heap.size, b, #[], Gh.set_same, I.below.size, ?_, World.alloc_heap_new w _, rfl⟩ (by simp only [Rv]; exact ⟨_, _, _, Gh.set_same, rfl⟩)
      have hne : n ≠ nm := fun e => by rw [e, hnm] at hr; cases hr
      rw [Gh.set_ne hne]; exact hr
    · cases hx
  · cases hx
theorem MapOk.len {b : Nat} {es : List (Value × AV)} {ents : Array MapEntry} {clock : Nat} (M : MapOk w0 G w b es ents clock) : ents.size = es.length := by
  have := congrArg List.length M.keys
  simpa using this
theorem MapOk.find {b : Nat} {es : List (Value × AV)} {ents : Array MapEntry} {clock : Nat} (M : MapOk w0 G w b es ents clock) {j : Nat} {e : MapEntry} (he : ents[j]? = some e) : ents.find? (·.born == j) = some e := by
  rw [← Array.find?_toList, List.find?_eq_some_iff_getElem]
  have hj : j < ents.size := (Array.getElem?_eq_some_iff.1 he).1
  refine ⟨by simpa using M.born j e he, j, by simpa using hj, by simpa [Array.getElem?_eq_getElem hj] using he, fun i hi => ?_⟩
  have hi' : i < ents.size := by omega
  have := M.born i ents[i] (by simp [Array.getElem?_eq_getElem hi'])
  simp [this]; omega
theorem MapOk.at {b : Nat} {es : List (Value × AV)} {ents : Array MapEntry} {clock : Nat} (M : MapOk w0 G w b es ents clock) {j : Nat} {k : Value} {x : AV} (hj : es[j]? = some (k, x)) : ∃ e, ents[j]? = some e ∧ e.key = k ∧ Rv G x e.val := by
  have hl := M.len
  have hlt : j < es.length := (List.getElem?_eq_some_iff.1 hj).1
  have h1 : (ents.toList.map (·.key))[j]? = some k := by rw [M.keys]; simp [hj]
  obtain ⟨v, h2, h3⟩ := RvL.get M.vals j x (by simp [hj])
  have hje : j < ents.size := by omega
  refine ⟨ents[j], Array.getElem?_eq_getElem hje, ?_, ?_⟩
  · simpa [Array.getElem?_eq_getElem hje] using h1
  · have : ents[j].val = v := by simpa [Array.getElem?_eq_getElem hje] using h2
    rw [this]; exact h3
theorem entry_ok (I : Inv w0 G h w) {it x : AV} {v : Value} (hv : Rv G it v) (hx : aEntry it h = some x) : ∃ cv, (Instr.entry v).run P w = .ok cv w ∧ Rv G x cv := by
  unfold aEntry at hx
  split at hx
  · rename_i n
    split at hx
    · rename_i m since c0 seen hn
      split at hx
      · rename_i es j hm hj
        split at hx
        · rename_i hlen
          split at hx
          · rename_i k y hjk
            simp only [Option.some.injEq] at hx; subst hx
            simp only [Rv] at hv
            obtain ⟨b, lo, tt, hr, rfl⟩ := hv
            obtain ⟨b', bm, sa, hr', hb, hrm, hblk, hsa⟩ := I.obj n _ hn
            rw [hr] at hr'; cases hr'
            obtain ⟨bm', ents, clock, hrm', M⟩ := I.obj m _ hm
            rw [hrm] at hrm'; cases hrm'
            obtain ⟨e, he1, he2, he3⟩ := M.at hjk
            have hback : sa.back? = some j := by rw [← hsa] at hj; simpa [Array.back?, List.getLast?_eq_getElem?] using hj
            have hclk : clock = c0 := by rw [M.clk, M.len, hlen]
            refine ⟨.tuple #[e.key, e.val], ?_, ?_⟩
            · simp [Instr.entry, getObj, Sem.run, hblk, M.blk, hback, hclk, M.find he1]
            · simp only [Rv, RvL]
              exact ⟨_, rfl, _, _, rfl, by rw [← he2]; exact Rv_ofVal G _, _, _, rfl, he3, rfl⟩
          · cases hx
        · cases hx
      · cases hx
    · cases hx
  · cases hx
/-- a row cut beyond its length, within what it surely has room for -/
def aSliceCap (P : Program) (t : TypeId) (x : AV) (lo hi mx : Option AV) (h : AHeap) : Option AV :=
  match x, mx with
  | .slc n off len s, none => match eltOf P t with
    | some e => if szOf P e = some s ∧ hi.isSome = true then match lowB lo, highB len hi, h n with
      | some a, some b, some (.cells c) => if 0 ≤ a ∧ a < b ∧ off + b.toNat * s ≤ c.length then some (.slc n (off + a.toNat * s) (b.toNat - a.toNat) s) else none
      | _, _, _ => none
      else none
    | none => none
  | _, _ => none
theorem sliceCap_ok (I : Inv w0 G h w) {t : TypeId} {x : AV} {lo hi mx : Option AV} {v : Value} {vlo vhi vmx : Option Value} (hx : Rv G x v) (hlo : RvO G lo vlo) (hhi : RvO G hi vhi) (hmx : RvO G mx vmx) {r : AV} (hr : aSliceCap P t x lo hi mx h = some r) :
    ∃ cv, (Instr.sliceAt t v vlo vhi vmx).run P w = .ok cv w ∧ Rv G r cv := by
  unfold aSliceCap at hr
  split at hr
  · rename_i n off len s
    split at hr
    · rename_i e he
      split at hr
      · rename_i hsz
        have hsr := run_sizeOf hsz.1 w
        split at hr
        · rename_i p q c e1 e2 hn
          split at hr
          · rename_i hc
            simp only [Option.some.injEq] at hr; subst hr
            simp only [Rv] at hx
            obtain ⟨b, lo', t', cap, hreg, rfl, k1, k2, k3⟩ := hx
            obtain ⟨rg, vs, hreg', ok⟩ := I.obj n _ hn
            rw [hreg] at hreg'; cases hreg'
            have hcl := ok.len
            simp only at hcl
            have hq : q.toNat ≤ cap := by
              have h1 : q.toNat * s ≤ cap * s := by omega
              exact Nat.le_of_mul_le_mul_right h1 k3
            cases hmx
            have hb := run_bounds (P := P) (w := w) (isS := true) (cap := cap) hlo hhi e1 e2 hc.1 (by omega) (by omega)
            refine ⟨_, by simp only [Instr.sliceAt, Sem.run_bind, run_eltOf he, Result.andThen_ok, Instr.slice, hb, hsr, Sem.run_pure]; rfl, ?_⟩
            simp only [Rv]
            refine ⟨b, lo', t', cap - p.toNat, hreg, ?_, by omega, ?_, k3⟩
            · congr 1
              rw [if_neg (by omega)]
              simp [addr_add_lit, Nat.add_assoc]
            · have hpc : p.toNat ≤ cap := by omega
              have := Nat.mul_le_mul_right s hpc
              rw [Nat.sub_mul]; omega
          · cases hr
        · cases hr
      · cases hr
    · cases hr
  · cases hr
end
end Go.AM

namespace Go.AM
open Go.RowKit

def aMinMax (mx : Bool) (x y : AV) : Option AV :=
  match x, y with
  | .c (.int k a), .c (.int _ b) => some (iv k (if mx then (if b > a then b else a) else (if b < a then b else a)))
  | _, _ => none

/-- the builtins -/
def aBuiltin (P : Program) (nm : Nat) (b : Builtin) (ts : List TypeId) (xs : List AV) (h : AHeap) : Option (AV × AHeap) :=
  match b, ts, xs with
  | .len, [t], [x] => (aLen P t x h).map (·, h)
  | .append, [t, t'], [d, x] => if t = t' then aAppend P nm t d x h else none
  | .copy, [t, _], [d, x] => aCopy P t d x h
  | .clear, [t], [x] => (aClear P t x h).map (.undef, ·)
  | .max, _, [x, y] => (aMinMax true x y).map (·, h)
  | .min, _, [x, y] => (aMinMax false x y).map (·, h)
  | .close, _, [x] => aClose x h
  | _, _, _ => none

def aConvert (P : Program) (src dst : TypeId) (x : AV) : Option AV :=
  match x, P.underlying src, P.underlying dst with
  | .c (.int _ n), some _, some (.int k) => some (iv k (k.wrap n))
  | .c (.string s), some .string, some .string => some (sv s)
  | _, _, _ => none

def aNeg (x : AV) : Option AV :=
  match x with
  | .c (.int k n) => some (iv k (k.wrap (0 - n)))
  | _ => none

def evP (s : List (Nat × AV)) : List (Nat × Operand) → List (Nat × AV)
  | [] => []
  | (i, x) :: r => (i, ev s x) :: evP s r
theorem evP_eq (s : List (Nat × AV)) : ∀ l : List (Nat × Operand), evP s l = l.map fun p => (p.1, ev s p.2)
  | [] => rfl
  | (i, x) :: r => by simp [evP, evP_eq s r]
/-- the step of an operation: its value, the heap behind it. 'nm': a name that is free. -/
def aStep (P : Program) (nm : Nat) (op : Op) (s : List (Nat × AV)) (h : AHeap) : Option (AV × AHeap) :=
  match op with
  | .move x | .assign x => some (ev s x, h)
  | .pick c a b => match ev s c with
    | .c (.bool t) => some (if t then ev s a else ev s b, h)
    | _ => none
  | .alloc t => match zerOf P t with
    | some z => if (cellsOf z).all AV.scalar then some (.ptr nm 0, h.upd nm (some (.cells (cellsOf z)))) else none
    | none => none
  | .box _ x => if (cellsOf (ev s x)).all AV.scalar then some (.ptr nm 0, h.upd nm (some (.cells (cellsOf (ev s x))))) else none
  | .build t ps => (aBuild P t (evP s ps.toList)).map (·, h)
  | .buildSlice t n ps => (aBuildSlice P t n (evP s ps.toList)).map (·, h)
  | .load t a => match lay P t, ev s a with
    | some sg, .ptr n off => match h n with
      | some (.cells l) => (loadC sg (l.drop off)).map (·, h)
      | _ => none
    | some sg, .fptr l => (loadC sg l).map (·, h)
    | _, _ => none
  | .store t a x => match szOf P t, ev s a with
    | some k, .ptr n off => match h n with
      | some (.cells l) => if (cellsOf (ev s x)).all AV.scalar = true ∧ (cellsOf (ev s x)).length = k ∧ off + k ≤ l.length then
          some (.undef, h.upd n (some (.cells (splice l off (cellsOf (ev s x)))))) else none
      | _ => none
    | _, _ => none
  | .nilCheck x => match ev s x with
    | .ptr n off => some (.ptr n off, h)
    | .fptr l => some (.fptr l, h)
    | .func (.func f) a b => some (.func (.func f) a b, h)
    | _ => none
  | .binOp op t x y _ => (aBin P op t (ev s x) (ev s y)).map (·, h)
  | .unOp .not _ x => match ev s x with
    | .c (.bool b) => some (bv (!b), h)
    | _ => none
  | .unOp .neg _ x => (aNeg (ev s x)).map (·, h)
  | .convert a b x => (aConvert P a b (ev s x)).map (·, h)
  | .makeFunc fn a b => some (.func fn (a.toList.map (ev s)) (b.toList.map (ev s)), h)
  | .makeSlice t n m => match ev s n, ev s m with
    | .c (.int _ n), .c (.int _ m) => match aMake P t n m with
      | some (sz, l, k) => some (.slc nm 0 k sz, h.upd nm (some (.cells l)))
      | none => none
    | _, _ => none
  | .slice t x lo hi mx => ((aSlice P t (ev s x) (lo.map (ev s)) (hi.map (ev s)) (mx.map (ev s))).or (if hi.isSome then aSliceCap P t (ev s x) (lo.map (ev s)) (hi.map (ev s)) (mx.map (ev s)) h else none)).map (·, h)
  | .fieldAddr t x f => match fldOf P t f with
    | some (o, z) => if z = 0 then none else match ev s x with
      | .ptr n off => some (.ptr n (off + o), h)
      | .fptr l => some (.fptr (l.drop o), h)
      | _ => none
    | none => none
  | .indexAddr t x i => match eltOf P t, ev s i with
    | some e, .c (.int _ i) => match ev s x with
      | .fslc _ _ z l => if szOf P e = some z ∧ 0 ≤ i then match l[i.toNat]? with
          | some y => some (.fptr (cellsOf y), h)
          | none => none
        else none
      | .slc n off len z => if szOf P e = some z ∧ 0 ≤ i ∧ i < len then some (.ptr n (off + i.toNat * z), h) else none
      | _ => none
    | _, _ => none
  | .index t x i => match ev s x, ev s i with
    | .c (.string b), .c (.int _ i) => if kdOf P t = .string ∧ 0 ≤ i then match b[i.toNat]? with
        | some u => some (iv .u8 u.toNat, h)
        | none => none
      else none
    | _, _ => none
  | .extract x i => match ev s x with
    | .tup vs => (vs[i]?).map (·, h)
    | _ => none
  | .makeMap _ none => some (.map nm, h.upd nm (some (.map [])))
  | .makeChan t n => aMakeChan P nm t (ev s n) h
  | .lookup t m k ok => (aLookup P t (ev s m) (ev s k) ok h).map (·, h)
  | .mapUpdate t m k x => (aMapPut P t (ev s m) (ev s k) (ev s x) h).map (.undef, ·)
  | .insert t m k x => (aMapPut P t (ev s m) (ev s k) (ev s x) h).map (.undef, ·)
  | .range t m => aRange P nm t (ev s m) h
  | .entry it => (aEntry (ev s it) h).map (·, h)
  | .call { callee := .builtin b, args, argTypes } => aBuiltin P nm b argTypes.toList (args.toList.map (ev s)) h
  | _ => none

section
variable {P : Program} {w0 : World} {G : Gh} {h : AHeap} {w : World} {nm : Nat} {s : List (Nat × AV)} {a : Act}

theorem StepOk.of_value {w0 : World} {G : Gh} {nm : Nat} {v : AV} {h : AHeap} {w : World} (I : Inv w0 G h w) {r : Sem Value} (hh : ∃ cv, r.run P w = .ok cv w ∧ Rv G v cv) :
    StepOk w0 G nm ((do pure (Next.value (← r)) : Sem Next).run P w) v h := by
  obtain ⟨cv, h1, h2⟩ := hh
  simp only [Sem.run_bind, h1, Result.andThen_ok, Sem.run_pure]
  exact StepOk.value I h2

theorem RvL_map (hs : ∀ x, Rv G (ev s x) (a.eval x)) : ∀ l : List Operand, RvL G (l.map (ev s)) (l.map a.eval)
  | [] => by simp [RvL]
  | x :: r => by simp only [List.map_cons, RvL]; exact ⟨_, _, rfl, hs x, RvL_map hs r⟩

theorem RvO_map (hs : ∀ x, Rv G (ev s x) (a.eval x)) : ∀ o : Option Operand, RvO G (o.map (ev s)) (o.map a.eval)
  | none => .none
  | some x => .some (hs x)

theorem RvP_map (hs : ∀ x, Rv G (ev s x) (a.eval x)) : ∀ l : List (Nat × Operand), RvP G (l.map fun p => (p.1, ev s p.2)) (l.map fun p => (p.1, a.eval p.2))
  | [] => .nil
  | (_, x) :: r => .cons (hs x) (RvP_map hs r)

theorem builtin_ok (I : Inv w0 G h w) (hnm : G.reg nm = none) {b : Builtin} {ts : Array TypeId} {ty : TypeId} {cs : Array Bool} {xs : List AV} {vs : Array Value} (hv : RvL G xs vs.toList) {r : AV} {h' : AHeap}
    (hx : aBuiltin P nm b ts.toList xs h = some (r, h')) : StepOk w0 G nm ((builtin b ts ty cs vs).run P w) r h' := by
  unfold aBuiltin at hx
  split at hx
  · -- len
    rename_i t x hts
    simp only [Option.map_eq_some_iff, Prod.mk.injEq] at hx
    obtain ⟨y, h1, rfl, rfl⟩ := hx
    simp only [RvL] at hv
    obtain ⟨v, vr, e, hv1, rfl⟩ := hv
    have e1 : ts = #[t] := by apply Array.ext'; simpa using hts
    have e2 : vs = #[v] := by apply Array.ext'; simpa using e
    subst e1; subst e2
    exact StepOk.of_value I (len_ok I hv1 h1)
  · -- append
    rename_i t t' d x hts
    split at hx
    · rename_i htt
      subst htt
      simp only [RvL] at hv
      obtain ⟨v, vr, e, hv1, v2, vr2, rfl, hv2, rfl⟩ := hv
      have e1 : ts = #[t, t] := by apply Array.ext'; simpa using hts
      have e2 : vs = #[v, v2] := by apply Array.ext'; simpa using e
      subst e1; subst e2
      obtain ⟨cv, w', G', h1, h2, h3, h4, h5⟩ := append_ok (ty := ty) I hnm hv1 hv2 hx
      refine ⟨cv, w', G', .inl ?_, h2, h3, h4, h5⟩
      simp only [builtin, Sem.run_bind, h1, Result.andThen_ok, Sem.run_pure]
    · cases hx
  · -- copy
    rename_i t t' d x hts
    simp only [RvL] at hv
    obtain ⟨v, vr, e, hv1, v2, vr2, rfl, hv2, rfl⟩ := hv
    have e1 : ts = #[t, t'] := by apply Array.ext'; simpa using hts
    have e2 : vs = #[v, v2] := by apply Array.ext'; simpa using e
    subst e1; subst e2
    obtain ⟨cv, w', h1, h4, h5⟩ := copy_ok (t2 := t') (ty := ty) I hv1 hv2 hx
    refine ⟨cv, w', G, .inl ?_, fun _ _ => rfl, GLe.refl G, h4, h5⟩
    simp only [builtin, Sem.run_bind, h1, Result.andThen_ok, Sem.run_pure]
  · -- clear
    rename_i t x hts
    simp only [Option.map_eq_some_iff, Prod.mk.injEq] at hx
    obtain ⟨y, h1, rfl, rfl⟩ := hx
    simp only [RvL] at hv
    obtain ⟨v, vr, e, hv1, rfl⟩ := hv
    have e1 : ts = #[t] := by apply Array.ext'; simpa using hts
    have e2 : vs = #[v] := by apply Array.ext'; simpa using e
    subst e1; subst e2
    obtain ⟨cv, w', h2, h4⟩ := clear_ok (ty := ty) I hv1 h1
    refine ⟨cv, w', G, .inl ?_, fun _ _ => rfl, GLe.refl G, h4, by simp [Rv]⟩
    simp only [builtin, Sem.run_bind, h2, Result.andThen_ok, Sem.run_pure]
  · rename_i x y
    simp only [Option.map_eq_some_iff, Prod.mk.injEq] at hx
    obtain ⟨z, h1, rfl, rfl⟩ := hx
    simp only [RvL] at hv
    obtain ⟨v, vr, e, hv1, v2, vr2, rfl, hv2, rfl⟩ := hv
    have e2 : vs = #[v, v2] := by apply Array.ext'; simpa using e
    subst e2
    unfold aMinMax at h1
    split at h1
    · cases h1
      simp only [Rv] at hv1 hv2
      obtain ⟨rfl, _⟩ := hv1; obtain ⟨rfl, _⟩ := hv2
      refine StepOk.of_value I ⟨_, ?_, Rv_iv.2 rfl⟩
      simp [Builtin.max_, Builtin.max2]
    · cases h1
  · rename_i x y
    simp only [Option.map_eq_some_iff, Prod.mk.injEq] at hx
    obtain ⟨z, h1, rfl, rfl⟩ := hx
    simp only [RvL] at hv
    obtain ⟨v, vr, e, hv1, v2, vr2, rfl, hv2, rfl⟩ := hv
    have e2 : vs = #[v, v2] := by apply Array.ext'; simpa using e
    subst e2
    unfold aMinMax at h1
    split at h1
    · cases h1
      simp only [Rv] at hv1 hv2
      obtain ⟨rfl, _⟩ := hv1; obtain ⟨rfl, _⟩ := hv2
      refine StepOk.of_value I ⟨_, ?_, Rv_iv.2 rfl⟩
      simp [Builtin.min_, Builtin.min2]
    · cases h1
  · rename_i x
    simp only [RvL] at hv
    obtain ⟨v, vr, e, hv1, rfl⟩ := hv
    have e2 : vs = #[v] := by apply Array.ext'; simpa using e
    subst e2
    obtain ⟨cv, w', h1, h2, h3⟩ := close_ok (P := P) I hv1 hx ts ty
    refine ⟨cv, w', G, .inl ?_, fun _ _ => rfl, GLe.refl G, h2, h3⟩
    simp only [builtin, Sem.run_bind, h1, Result.andThen_ok, Sem.run_pure]
  · cases hx
end
end Go.AM

namespace Go.AM
open Go.RowKit

section
variable {P : Program} {w0 : World} {G : Gh} {h : AHeap} {w : World} {nm : Nat} {s : List (Nat × AV)} {a : Act}

theorem step_ok (I : Inv w0 G h w) (hnm : G.reg nm = none) (hs : ∀ x, Rv G (ev s x) (a.eval x)) (o : Oper) {v : AV} {h' : AHeap} (hx : aStep P nm o.op s h = some (v, h')) :
    StepOk w0 G nm ((execOp a.eval o).run P w) v h' := by
  obtain ⟨dst, op, type, pos, after, guard⟩ := o
  simp only at hx ⊢
  cases op with
  | move x =>
    simp only [aStep, Option.some.injEq, Prod.mk.injEq] at hx
    obtain ⟨rfl, rfl⟩ := hx
    simp only [execOp, Sem.run_pure]
    exact StepOk.value I (hs x)
  | assign x =>
    simp only [aStep, Option.some.injEq, Prod.mk.injEq] at hx
    obtain ⟨rfl, rfl⟩ := hx
    simp only [execOp, Sem.run_pure]
    exact StepOk.value I (hs x)
  | pick c p q =>
    simp only [aStep] at hx
    split at hx
    · rename_i t hc
      simp only [Option.some.injEq, Prod.mk.injEq] at hx
      obtain ⟨rfl, rfl⟩ := hx
      have := hs c
      rw [hc] at this
      simp only [Rv] at this
      simp only [execOp, this.1, asBool, Sem.run_bind, Sem.run_pure, Result.andThen_ok]
      cases t
      · exact StepOk.value I (hs q)
      · exact StepOk.value I (hs p)
    · cases hx
  | alloc t =>
    simp only [aStep] at hx
    split at hx
    · rename_i z hz
      split at hx
      · rename_i hsc
        simp only [Option.some.injEq, Prod.mk.injEq] at hx
        obtain ⟨rfl, rfl⟩ := hx
        obtain ⟨zv, h1, h2⟩ := run_zero hz G w
        simp only [execOp, Instr.alloc, newVar, newRow, Sem.run_bind, h1, Result.andThen_ok, Sem.run_pure, run_newObj]
        exact box_ok I hnm t h2 hsc
      · cases hx
    · cases hx
  | box t x =>
    simp only [aStep] at hx
    split at hx
    · rename_i hsc
      simp only [Option.some.injEq, Prod.mk.injEq] at hx
      obtain ⟨rfl, rfl⟩ := hx
      simp only [execOp, Instr.box, newVar, newRow, Sem.run_bind, Result.andThen_ok, Sem.run_pure, run_newObj]
      exact box_ok I hnm t (hs x) hsc
    · cases hx
  | build t ps =>
    simp only [aStep, evP_eq, Option.map_eq_some_iff, Prod.mk.injEq] at hx
    obtain ⟨y, h1, rfl, rfl⟩ := hx
    simp only [execOp]
    exact StepOk.of_value I (build_ok (by simpa using RvP_map hs ps.toList) h1)
  | buildSlice t n ps =>
    simp only [aStep, evP_eq, Option.map_eq_some_iff, Prod.mk.injEq] at hx
    obtain ⟨y, h1, rfl, rfl⟩ := hx
    obtain ⟨cv, w', G', e1, e2, e3, e4, e5⟩ := buildSlice_ok (qs := ps.map fun p => (p.1, a.eval p.2)) I (by simpa using RvP_map hs ps.toList) h1
    refine ⟨cv, w', G', .inl ?_, fun k _ => by rw [e2], e3, e4, e5⟩
    simp only [execOp, Sem.run_bind]
    rw [e1]; simp
  | load t x =>
    simp only [aStep] at hx
    have hxv := hs x
    split at hx
    · rename_i sg n off hl he
      rw [he] at hxv
      split at hx
      · rename_i l hn
        simp only [Option.map_eq_some_iff, Prod.mk.injEq] at hx
        obtain ⟨y, h1, rfl, rfl⟩ := hx
        simp only [execOp]
        exact StepOk.of_value I (load_ptr_ok I hl hxv hn h1)
      · cases hx
    · rename_i sg l hl he
      rw [he] at hxv
      simp only [Option.map_eq_some_iff, Prod.mk.injEq] at hx
      obtain ⟨y, h1, rfl, rfl⟩ := hx
      simp only [execOp]
      exact StepOk.of_value I (load_fptr_ok I hl hxv h1)
    · cases hx
  | store t x y =>
    simp only [aStep] at hx
    have hxv := hs x
    split at hx
    · rename_i k n off hl he
      rw [he] at hxv
      split at hx
      · rename_i l hn
        split at hx
        · rename_i hc
          simp only [Option.some.injEq, Prod.mk.injEq] at hx
          obtain ⟨rfl, rfl⟩ := hx
          obtain ⟨w', h1, h2⟩ := run_storeVar_ok I hl hxv hn (hs y) hc.1 hc.2.1 hc.2.2
          refine ⟨undef, w', G, .inr ⟨?_, rfl⟩, fun _ _ => rfl, GLe.refl G, h2, by simp [Rv]⟩
          simp only [execOp, Sem.run_bind, h1, Result.andThen_ok, Sem.run_pure]
        · cases hx
      · cases hx
    · cases hx
  | nilCheck x =>
    simp only [aStep] at hx
    have hxv := hs x
    split at hx
    · rename_i n off he
      rw [he] at hxv
      simp only [Option.some.injEq, Prod.mk.injEq] at hx
      obtain ⟨rfl, rfl⟩ := hx
      have hxv' := hxv
      simp only [Rv] at hxv'
      obtain ⟨b, lo, t, hr, e⟩ := hxv'
      simp only [execOp, e, Sem.run_pure]
      exact StepOk.value I (e ▸ hxv)
    · rename_i l he
      rw [he] at hxv
      simp only [Option.some.injEq, Prod.mk.injEq] at hx
      obtain ⟨rfl, rfl⟩ := hx
      have hxv' := hxv
      simp only [Rv] at hxv'
      obtain ⟨b, vs, e, _⟩ := hxv'
      simp only [execOp, e, Sem.run_pure]
      exact StepOk.value I (e ▸ hxv)
    · rename_i f p q he
      rw [he] at hxv
      simp only [Option.some.injEq, Prod.mk.injEq] at hx
      obtain ⟨rfl, rfl⟩ := hx
      have hxv' := hxv
      simp only [Rv] at hxv'
      obtain ⟨b, vs, e, _⟩ := hxv'
      simp only [execOp, e, Sem.run_pure]
      exact StepOk.value I (e ▸ hxv)
    · cases hx
  | binOp op t x y t' =>
    simp only [aStep, Option.map_eq_some_iff, Prod.mk.injEq] at hx
    obtain ⟨z, h1, rfl, rfl⟩ := hx
    simp only [execOp]
    exact StepOk.of_value I (aBin_ok (hs x) (hs y) h1 x y)
  | unOp op t x =>
    have hxv := hs x
    cases op with
    | not =>
      simp only [aStep] at hx
      split at hx
      · rename_i b he
        rw [he] at hxv
        simp only [Option.some.injEq, Prod.mk.injEq] at hx
        obtain ⟨rfl, rfl⟩ := hx
        simp only [Rv] at hxv
        simp only [execOp]
        exact StepOk.of_value I ⟨_, by simp [Op.unary, hxv.1], Rv_bv.2 rfl⟩
      · cases hx
    | neg =>
      simp only [aStep, Option.map_eq_some_iff, Prod.mk.injEq] at hx
      obtain ⟨z, h1, rfl, rfl⟩ := hx
      unfold aNeg at h1
      split at h1
      · rename_i k n he
        rw [he] at hxv
        cases h1
        simp only [Rv] at hxv
        simp only [execOp]
        exact StepOk.of_value I ⟨_, by simp [Op.unary, hxv.1, Op.intArith], Rv_iv.2 rfl⟩
      · cases h1
    | _ => simp [aStep] at hx
  | convert p q x =>
    simp only [aStep, Option.map_eq_some_iff, Prod.mk.injEq] at hx
    obtain ⟨z, h1, rfl, rfl⟩ := hx
    have hxv := hs x
    unfold aConvert at h1
    split at h1
    · rename_i kk n d k he hu1 hu2
      rw [he] at hxv
      cases h1
      simp only [Rv] at hxv
      simp only [execOp]
      exact StepOk.of_value I ⟨_, by simp [convert, hxv.1, run_underlying hu1, run_underlying hu2, Conv.intToInt], Rv_iv.2 rfl⟩
    · rename_i b he hu1 hu2
      rw [he] at hxv
      cases h1
      simp only [Rv] at hxv
      simp only [execOp]
      exact StepOk.of_value I ⟨_, by simp [convert, hxv.1, run_underlying hu1, run_underlying hu2], Rv_sv.2 rfl⟩
    · cases h1
  | makeFunc fn p q =>
    simp only [aStep, Option.some.injEq, Prod.mk.injEq] at hx
    obtain ⟨rfl, rfl⟩ := hx
    simp only [execOp, Instr.makeFunc]
    refine StepOk.of_value I ⟨_, Sem.run_pure _ _ _, ?_⟩
    simp only [Rv]
    exact ⟨_, _, rfl, by simpa using RvL_map hs p.toList, by simpa using RvL_map hs q.toList⟩
  | makeSlice t n m =>
    simp only [aStep] at hx
    have hn := hs n
    have hm := hs m
    split at hx
    · rename_i k1 n' k2 m' e1 e2
      rw [e1] at hn; rw [e2] at hm
      simp only [Rv] at hn hm
      split at hx
      · rename_i sz l k hmk
        simp only [Option.some.injEq, Prod.mk.injEq] at hx
        obtain ⟨rfl, rfl⟩ := hx
        obtain ⟨cv, w', r, h1, h2, h3⟩ := make_ok I hnm hmk k1 k2
        refine ⟨cv, w', _, .inl ?_, fun k hk => Gh.set_ne hk, Gh.le_set hnm, h2, h3⟩
        simp only [execOp, hn.1, hm.1, Sem.run_bind, h1, Result.andThen_ok, Sem.run_pure]
      · cases hx
    · cases hx
  | slice t x lo hi mx =>
    simp only [aStep, Option.map_eq_some_iff, Prod.mk.injEq] at hx
    obtain ⟨z, h1, rfl, rfl⟩ := hx
    simp only [execOp]
    cases e : aSlice P t (ev s x) (lo.map (ev s)) (hi.map (ev s)) (mx.map (ev s)) with
    | some y =>
      rw [e] at h1
      simp only [Option.some_or, Option.some.injEq] at h1
      subst h1
      exact StepOk.of_value I (slice_ok (hs x) (RvO_map hs lo) (RvO_map hs hi) (RvO_map hs mx) e)
    | none =>
      rw [e] at h1
      simp only [Option.none_or] at h1
      split at h1
      · exact StepOk.of_value I (sliceCap_ok I (hs x) (RvO_map hs lo) (RvO_map hs hi) (RvO_map hs mx) h1)
      · cases h1
  | fieldAddr t x f =>
    simp only [aStep] at hx
    have hxv := hs x
    split at hx
    · rename_i o z hf
      split at hx
      · cases hx
      · rename_i hz
        split at hx
        · rename_i n off he
          rw [he] at hxv
          simp only [Option.some.injEq, Prod.mk.injEq] at hx
          obtain ⟨rfl, rfl⟩ := hx
          simp only [execOp]
          exact StepOk.of_value I (field_ptr_ok hf hz hxv)
        · rename_i l he
          rw [he] at hxv
          simp only [Option.some.injEq, Prod.mk.injEq] at hx
          obtain ⟨rfl, rfl⟩ := hx
          simp only [execOp]
          exact StepOk.of_value I (field_fptr_ok hf hz hxv)
        · cases hx
    · cases hx
  | indexAddr t x i =>
    simp only [aStep] at hx
    have hxv := hs x
    have hiv := hs i
    split at hx
    · rename_i e k i' he hi
      rw [hi] at hiv
      simp only [Rv] at hiv
      split at hx
      · rename_i nl full z l hxe
        rw [hxe] at hxv
        split at hx
        · rename_i hc
          split at hx
          · rename_i y hy
            simp only [Option.some.injEq, Prod.mk.injEq] at hx
            obtain ⟨rfl, rfl⟩ := hx
            simp only [execOp, hiv.1]
            exact StepOk.of_value I (index_fslc_ok he hc.1 hxv hc.2 hy)
          · cases hx
        · cases hx
      · rename_i n off len z hxe
        rw [hxe] at hxv
        split at hx
        · rename_i hc
          simp only [Option.some.injEq, Prod.mk.injEq] at hx
          obtain ⟨rfl, rfl⟩ := hx
          simp only [execOp, hiv.1]
          exact StepOk.of_value I (index_slc_ok he hc.1 hxv hc.2.1 hc.2.2)
        · cases hx
      · cases hx
    · cases hx
  | index t x i =>
    simp only [aStep] at hx
    have hxv := hs x
    have hiv := hs i
    split at hx
    · rename_i b k i' hxe hi
      rw [hxe] at hxv
      rw [hi] at hiv
      simp only [Rv] at hxv hiv
      split at hx
      · rename_i hc
        obtain ⟨d, hu, hd⟩ := kd_und hc.1 (by simp)
        simp only at hd
        subst hd
        split at hx
        · rename_i u hy
          simp only [Option.some.injEq, Prod.mk.injEq] at hx
          obtain ⟨rfl, rfl⟩ := hx
          simp only [execOp, hiv.1, hxv.1]
          refine StepOk.of_value I ⟨_, ?_, Rv_iv.2 rfl⟩
          simp [Instr.index, asIntOf, run_underlying hu, hc.2, hy]
        · cases hx
      · cases hx
    · cases hx
  | extract x i =>
    simp only [aStep] at hx
    have hxv := hs x
    split at hx
    · rename_i vs he
      rw [he] at hxv
      simp only [Option.map_eq_some_iff, Prod.mk.injEq] at hx
      obtain ⟨z, h1, rfl, rfl⟩ := hx
      simp only [Rv] at hxv
      obtain ⟨us, e, hr⟩ := hxv
      obtain ⟨u, h2, h3⟩ := hr.get _ _ h1
      simp only [execOp, e]
      refine StepOk.of_value I ⟨u, ?_, h3⟩
      have : us[i]? = some u := by simpa using h2
      simp [Instr.extract, this]
    · cases hx
  | makeMap t r =>
    cases r with
    | some r => simp [aStep] at hx
    | none =>
      simp only [aStep, Option.some.injEq, Prod.mk.injEq] at hx
      obtain ⟨rfl, rfl⟩ := hx
      have := makeMap_ok I hnm
      simp only [execOp, Option.map_none, Sem.run_bind, run_makeMap, Result.andThen_ok, Sem.run_pure]
      exact this
  | makeChan t n =>
    simp only [aStep] at hx
    obtain ⟨cv, w', h1, h2⟩ := makeChan_ok I hnm (hs n) hx
    simp only [execOp, Sem.run_bind, h1, Result.andThen_ok, Sem.run_pure]
    exact h2
  | lookup t m k ok =>
    simp only [aStep, Option.map_eq_some_iff, Prod.mk.injEq] at hx
    obtain ⟨y, h1, rfl, rfl⟩ := hx
    simp only [execOp]
    exact StepOk.of_value I (lookup_ok I (hs m) (hs k) h1)
  | mapUpdate t m k x =>
    simp only [aStep, Option.map_eq_some_iff, Prod.mk.injEq] at hx
    obtain ⟨y, h1, rfl, rfl⟩ := hx
    obtain ⟨w', h2, h3⟩ := mapPut_ok I (hs m) (hs k) (hs x) h1
    refine ⟨undef, w', G, .inr ⟨?_, rfl⟩, fun _ _ => rfl, GLe.refl G, h3, by simp [Rv]⟩
    simp only [execOp, Sem.run_bind, h2, Result.andThen_ok, Sem.run_pure]
  | insert t m k x =>
    simp only [aStep, Option.map_eq_some_iff, Prod.mk.injEq] at hx
    obtain ⟨y, h1, rfl, rfl⟩ := hx
    obtain ⟨w', h2, h3⟩ := mapPut_ok I (hs m) (hs k) (hs x) h1
    refine ⟨undef, w', G, .inr ⟨?_, rfl⟩, fun _ _ => rfl, GLe.refl G, h3, by simp [Rv]⟩
    simp only [execOp, Sem.run_bind, h2, Result.andThen_ok, Sem.run_pure]
  | range t m =>
    simp only [aStep] at hx
    obtain ⟨cv, w', h1, h2⟩ := range_ok I hnm (hs m) hx
    simp only [execOp, Sem.run_bind, h1, Result.andThen_ok, Sem.run_pure]
    exact h2
  | entry it =>
    simp only [aStep, Option.map_eq_some_iff, Prod.mk.injEq] at hx
    obtain ⟨y, h1, rfl, rfl⟩ := hx
    simp only [execOp]
    exact StepOk.of_value I (entry_ok I (hs it) h1)
  | call c =>
    obtain ⟨callee, args, argTypes⟩ := c
    cases callee with
    | builtin b =>
      simp only [aStep] at hx
      have := builtin_ok (ty := type) (cs := args.map fun | .const _ => true | _ => false) I hnm (vs := args.map a.eval) (by simpa using RvL_map hs args.toList) hx
      simp only [execOp, resolve, Sem.run_bind, Sem.run_pure, Result.andThen_ok, invoke]
      exact this
    | _ => simp [aStep] at hx
  | _ => simp [aStep] at hx
end
end Go.AM

namespace Go.AM
open Go.RowKit

structure Ext (fl : Nat) (G G' : Gh) : Prop where
  reg : ∀ k, k < fl → G'.reg k = G.reg k
  imm : ∀ a v, G.imm a = some v → G'.imm a = some v
  own : ∃ l, G'.own = l ++ G.own
  base : G'.base = G.base
  lps : ∀ b ∈ G.lps, b ∈ G'.lps
def Fresh (n : Nat) (G : Gh) : Prop := ∀ k, n ≤ k → G.reg k = none

theorem Ext.refl (fl : Nat) (G : Gh) : Ext fl G G := ⟨fun _ _ => rfl, fun _ _ h => h, ⟨[], rfl⟩, rfl, fun _ h => h⟩
theorem Ext.trans {fl : Nat} {a b c : Gh} (h : Ext fl a b) (k : Ext fl b c) : Ext fl a c := ⟨fun i hi => (k.reg i hi).trans (h.reg i hi), fun _ _ e => k.imm _ _ (h.imm _ _ e), let ⟨l, e⟩ := h.own; let ⟨m, f⟩ := k.own; ⟨m ++ l, by rw [f, e, List.append_assoc]⟩, k.base.trans h.base, fun _ x => k.lps _ (h.lps _ x)⟩
theorem Ext.mono {fl fl' : Nat} {a b : Gh} (h : Ext fl a b) (hl : fl' ≤ fl) : Ext fl' a b := ⟨fun i hi => h.reg i (Nat.lt_of_lt_of_le hi hl), h.imm, h.own, h.base, h.lps⟩
theorem Ext.le {n : Nat} {G G' : Gh} (h : Ext n G G') (f : Fresh n G) : VLe G G' := by
  refine ⟨fun k r e => ?_, h.imm⟩
  rcases Nat.lt_or_ge k n with hk | hk
  · rw [h.reg k hk]; exact e
  · rw [f k hk] at e; cases e

/-- the mark of a block of deferred calls -/
def mark (b : Nat) : Deferred := { target := .collected b, args := #[] }
/-- no fence; a round's frame or none -/
def FR (r : Option Nat) : Fence := { fn := fun _ => True, depth := none, alive := false, round := r }
theorem room_FR (r : Option Nat) (n : Nat) : (FR r).room n := fun _ h => by simp [FR] at h
theorem depth_FR (r : Option Nat) {p : Prop} : (FR r).depth.isSome = true → p := fun h => by simp [FR] at h
theorem calls_FR {r : Option Nat} {n : Nat} {P : Program} {f : FuncId} {args : Array Value} {w : World} {R : Ending → World → Prop} (h : Calls P f args w R) : CallsIn (FR r) n P f args w R :=
  callsIn_wide.2 h
structure Sim (w0 : World) (G : Gh) (st : St) (a : Act) (w : World) : Prop where
  inv : Inv w0 G st.h w
  size : a.tmps.size = st.nt
  defers : a.defers = G.own.map mark
  slots : ∀ t, Rv G (get st.s t) (a.tmps.getD t undef)
  fresh : Fresh st.n G

/-- is the function one with a body -/
def isGo (P : Program) (f : FuncId) : Bool :=
  match P.funcs[f]? with
  | some fn => !(fn.name == "runtime.NumGoroutine") && fn.body.isSome
  | none => false

/-- A call, abstractly. -/
def ACalls (P : Program) (f : FuncId) (args : List AV) (h : AHeap) (n : Nat) (K : AV → AHeap → Nat → Prop) : Prop :=
  isGo P f = true ∧ ∀ w0 G w vs, Inv w0 G h w → Fresh n G → RvL G args vs →
    Calls P f vs.toArray w fun e w' => ∃ G' r x h' n', e = .returned r ∧ (Ext n G G' ∧ G'.own = G.own) ∧ Inv w0 G' h' w' ∧ Fresh n' G' ∧ n ≤ n' ∧ Rv G' x r ∧ K x h' n'

theorem ACalls.mono {P : Program} {f : FuncId} {args : List AV} {h : AHeap} {n : Nat} {K K' : AV → AHeap → Nat → Prop} (hc : ACalls P f args h n K) (hk : ∀ x h n, K x h n → K' x h n) : ACalls P f args h n K' :=
  ⟨hc.1, fun w0 G w vs I hf hr => (hc.2 w0 G w vs I hf hr).mono fun _ _ ⟨G', r, x, h', n', e1, e2, e3, e4, e5, e6, e7⟩ => ⟨G', r, x, h', n', e1, e2, e3, e4, e5, e6, hk _ _ _ e7⟩⟩

def put (st : St) (dst : Option Tmp) (v : AV) : St :=
  match dst with
  | some d => { st with s := (d, v) :: st.s }
  | none => st
def dstOk (nt : Nat) : Option Tmp → Bool
  | some d => decide (d < nt)
  | none => true

def aWanted (ops : Array Oper) (s : List (Nat × AV)) (g : Option (Nat × Bool)) : Option Bool :=
  match g with
  | none => some true
  | some (j, want) => match (ops[j]?).bind (·.dst) with
    | some d => match get s d with
      | .c (.bool b) => some (b == want)
      | .tup _ => some false
      | _ => none
    | none => none

/-- Code, abstractly: 'fl': names below it lie as they lay. -/
def ACode (P : Program) (fl : Nat) (c : Code) (Q : Exit → St → Prop) (st : St) : Prop :=
  ∀ r w0 G a w, (∀ l, r = some l → l ∈ G.lps) → Sim w0 G st a w → fl ≤ st.n → Code.wpIn (FR r) 0 P c (fun e a' w' => ∃ G' st', Ext fl G G' ∧ fl ≤ st'.n ∧ Sim w0 G' st' a' w' ∧ Q e st') a w

/-- yield's arguments in a loop's parameters -/
def roundSlots (s : List (Nat × AV)) : List Tmp → List AV → List (Nat × AV)
  | t :: ts, x :: xs => roundSlots ((t, x) :: s) ts xs
  | _, _ => s
/-- behind a round -/
def roundK (m : Nat) (nt : Nat) (s : List (Nat × AV)) (ps : Array Tmp) (asg body : Code) (K : AV → AHeap → Nat → Prop) : Exit → St → Prop
  | .normal, st => st.h m = some (.loop .busy none nt s ps asg body) ∧ K (.c (.bool true)) (st.h.upd m (some (.loop .ready none nt s ps asg body))) st.n
  | .ret, st => st.h m = some (.loop .busy none nt s ps asg body) ∧ K (.c (.bool false)) (st.h.upd m (some (.loop .done (some .ret) nt s ps asg body))) st.n
  | .exit id, st => st.h m = some (.loop .busy none nt s ps asg body) ∧ K (.c (.bool false)) (st.h.upd m (some (.loop .done (some (.exit id)) nt s ps asg body))) st.n
  | _, _ => False
/-- behind the assignment to a loop's left sides -/
def asgK (P : Program) (fl : Nat) (m : Nat) (nt : Nat) (s : List (Nat × AV)) (ps : Array Tmp) (asg body : Code) (K : AV → AHeap → Nat → Prop) : Exit → St → Prop
  | .normal, st => st.h m = some (.loop .ready none nt s ps asg body) ∧ ACode P fl body (roundK m nt s ps asg body K) { st with h := st.h.upd m (some (.loop .busy none nt s ps asg body)) }
  | _, _ => False
/-- A round of a loop over a function: yield is called. -/
def yieldK (P : Program) (m : Nat) (args : List AV) (h : AHeap) (n : Nat) (K : AV → AHeap → Nat → Prop) : Prop :=
  match h m with
  | some (.loop .ready none nt s ps asg body) => (args.length = ps.size ∧ ps.all (· < nt) = true) ∧ ACode P n asg (asgK P n m nt s ps asg body K) ⟨nt, roundSlots s ps.toList args, h, n⟩
  | _ => False
def callOf : Op → Option (Operand × List Operand)
  | .call { callee := .value f, args, .. } => some (f, args.toList)
  | _ => none
def callK (P : Program) (f : AV) (args : List AV) (h : AHeap) (n : Nat) (K : AV → AHeap → Nat → Prop) : Prop :=
  match f with
  | .func (.func g) first captured => ACalls P g (first ++ args ++ captured) h n K
  | .yld m => yieldK P m args h n K
  | _ => False
def stepK (r : Option (AV × AHeap)) (n : Nat) (K : AV → AHeap → Nat → Prop) : Prop :=
  match r with
  | some (x, h) => K x h n
  | none => False
/-- the value of an operation -/
def aVal (P : Program) (ops : Array Oper) (nm : Nat) (o : Oper) (s : List (Nat × AV)) (h : AHeap) (n : Nat) (K : AV → AHeap → Nat → Prop) : Prop :=
  match aWanted ops s o.guard with
  | none => False
  | some false => K (.tup []) h n
  | some true => match callOf o.op with
    | some (f, args) => callK P (ev s f) (args.map (ev s)) h n K
    | none => stepK (aStep P nm o.op s h) n K
/-- One operation: K holds of the state behind it. -/
def aOp (P : Program) (ops : Array Oper) (nm : Nat) (o : Oper) (st : St) (K : St → Prop) : Prop :=
  dstOk st.nt o.dst = true ∧ aVal P ops nm o st.s st.h st.n fun x h n => K (put ⟨st.nt, st.s, h, n⟩ o.dst x)

def aOps (P : Program) (ops : Array Oper) (base : Nat) (K : St → Prop) : Nat → List Oper → St → Prop
  | _, [], st => K st
  | i, o :: r, st => aOp P ops (base + i) o st (aOps P ops base K (i + 1) r)

/-- inside a region -/
structure RSim (w0 : World) (G0 : Gh) (fl base : Nat) (rem : List Nat) (G : Gh) (st : St) (a : Act) (w : World) : Prop where
  sim : Sim w0 G st a w
  ext : Ext fl G0 G
  lim : fl ≤ st.n
  names : ∀ j ∈ rem, G.reg (base + j) = none ∧ base + j < st.n

theorem RSim.sub {w0 : World} {G0 : Gh} {fl base : Nat} {rem rem' : List Nat} {G : Gh} {st : St} {a : Act} {w : World} (S : RSim w0 G0 fl base rem G st a w) (h : ∀ j ∈ rem', j ∈ rem) : RSim w0 G0 fl base rem' G st a w :=
  ⟨S.sim, S.ext, S.lim, fun j hj => S.names j (h j hj)⟩

theorem put_slots {G : Gh} {st : St} {a : Act} (hs : ∀ t, Rv G (get st.s t) (a.tmps.getD t undef)) (hsz : a.tmps.size = st.nt) {dst : Option Tmp} (hd : dstOk st.nt dst = true) {x : AV} {v : Value} (hv : Rv G x v) :
    ∀ t, Rv G (get (put st dst x).s t) ((a.put dst v).tmps.getD t undef) := by
  intro t
  cases dst with
  | none => exact hs t
  | some d =>
    simp only [dstOk, decide_eq_true_eq] at hd
    simp only [put, get, Act.put]
    by_cases ht : t = d
    · subst ht
      have : t < a.tmps.size := by rw [hsz]; exact hd
      simpa [this] using hv
    · rw [if_neg ht]
      have : (a.tmps.setIfInBounds d v).getD t undef = a.tmps.getD t undef := by
        simp [Array.getD_eq_getD_getElem?, Array.getElem?_setIfInBounds_ne (Ne.symm ht)]
      rw [this]; exact hs t

theorem put_size {a : Act} {dst : Option Tmp} {v : Value} : (a.put dst v).tmps.size = a.tmps.size := by
  cases dst <;> simp [Act.put]
theorem put_defers {a : Act} {dst : Option Tmp} {v : Value} : (a.put dst v).defers = a.defers := by
  cases dst <;> simp [Act.put]
theorem put_nt {st : St} {dst : Option Tmp} {x : AV} : (put st dst x).nt = st.nt ∧ (put st dst x).h = st.h ∧ (put st dst x).n = st.n := by
  cases dst <;> simp [put]

theorem callFunc_go {P : Program} {g : FuncId} (hg : isGo P g = true) (args : Array Value) (w : World) : (callFunc g args).run P w = .ok (.enter g args) w := by
  unfold isGo at hg
  cases hf : P.funcs[g]? with
  | none => simp [hf] at hg
  | some fn =>
    simp only [hf, Bool.and_eq_true, Bool.not_eq_true'] at hg
    have hb : fn.body.isNone = false := by cases h : fn.body <;> simp_all
    simp only [callFunc, Sem.run_bind, run_program, Result.andThen_ok, hf, hg.1, hb, Bool.false_eq_true, if_false, Sem.run_pure]

end Go.AM

namespace Go.AM
open Go.RowKit

theorem Inv.reoth {w0 : World} {G G' : Gh} {h : AHeap} {w : World} (I : Inv w0 G h w) (hr : G'.reg = G.reg) (hi : G'.imm = G.imm) (o : Oth w0 G' w) : Inv w0 G' h w := by
  have hv : VLe G G' := ⟨fun k r e => by rw [hr]; exact e, fun a v e => by rw [hi]; exact e⟩
  refine ⟨I.below, fun a v e => I.imm a v (hi ▸ e), fun n p e => (I.obj n p e).keep hv (Nat.le_refl _) (fun _ _ _ _ => ⟨rfl, rfl⟩) (fun _ _ _ => rfl), ?_, ?_, o⟩
  · rw [hr]; exact I.disj
  · rw [hr, hi]; exact I.sep

theorem Inv.setLoop {w0 : World} {G : Gh} {h : AHeap} {w : World} (I : Inv w0 G h w) {m b nt : Nat} {st : LoopState} {pend : Option Code} {s : List (Nat × AV)} {ps : Array Tmp} {asg body : Code}
    (hm : h m = some (.loop st pend nt s ps asg body)) (hreg : G.reg m = some (b, 0, 1)) {L : Loop} (hL : w.heap[b]? = some (.loop L)) (st' : LoopState) (pend' : Option Code) :
    Inv w0 G (h.upd m (some (.loop st' pend' nt s ps asg body))) (w.putObj b (.loop { L with state := st', pending := pend' })) := by
  obtain ⟨b', fn, tmps, D, h1, h2, h3, h4, h5⟩ := I.obj m _ hm
  rw [hreg] at h1; cases h1
  rw [hL] at h3; cases h3
  refine I.putObj hm hreg hL (by simp) (by simp) (by simp) (fun _ _ => ⟨_, rfl⟩) h2 ⟨b, fn, tmps, D, hreg, h2, ?_, h4, h5⟩
  exact World.putObj_heap_same (Array.getElem?_eq_some_iff.1 hL).1

/-- A block of deferred calls is shut. -/
theorem Inv.shut {w0 : World} {G : Gh} {h : AHeap} {w : World} (I : Inv w0 G h w) {b : Nat} {l : List Nat} (hb : G.own = b :: l) : Inv w0 { G with own := l } h (w.putObj b (.deferred none)) := by
  have ho := (I.oth.own b (by rw [hb]; simp)).1
  have hb0 := (I.oth.own b (by rw [hb]; simp)).2
  have hcell := cell_putObj (o' := .deferred none) ho (by simp) (by simp)
  have hlt : b < w.heap.size := (Array.getElem?_eq_some_iff.1 ho).1
  have other : ∀ k (o : Obj), w.heap[k]? = some o → (∀ L, o ≠ .deferred L) → (w.putObj b (.deferred none)).heap[k]? = some o := fun k o e hne => by
    have : k ≠ b := fun ek => by subst ek; rw [ho] at e; exact hne _ (Option.some.inj e).symm
    rw [World.putObj_heap_other this]; exact e
  have nd := I.oth.nd
  rw [hb, List.cons_append, List.nodup_cons] at nd
  have df : ∀ k, k ∈ l ++ G.base → w.heap[k]? = some (.deferred (some [])) → (w.putObj b (.deferred none)).heap[k]? = some (.deferred (some [])) := fun k hk e => by
    have : k ≠ b := fun ek => nd.1 (ek ▸ hk)
    rw [World.putObj_heap_other this]; exact e
  refine ⟨putObj_below I.below hb0 _, fun a v e => by rw [(hcell a).1]; exact I.imm a v e, fun n q e => ?_, I.disj, I.sep, ⟨fun k hk => ⟨df k (List.mem_append.2 (.inl hk)) (I.oth.own k (by rw [hb]; simp [hk])).1, (I.oth.own k (by rw [hb]; simp [hk])).2⟩, fun k hk => df k (List.mem_append.2 (.inr hk)) (I.oth.base k hk), nd.2, fun k hk => ?_⟩⟩
  · have ok := I.obj n q e
    have hv : VLe G { G with own := l } := ⟨fun _ _ e => e, fun _ _ e => e⟩
    cases q with
    | cells c =>
      obtain ⟨r, vs, h1, h2⟩ := ok
      exact ⟨r, vs, h1, h2.base, by simpa using h2.lt, h2.len, h2.sc, h2.rel.mono hv, fun j v e => by rw [(hcell _).1]; exact h2.val j v e, fun j hj => by rw [(hcell _).1]; exact h2.some j hj, fun j hj => by rw [(hcell _).2]; exact h2.free j hj⟩
    | map es =>
      obtain ⟨k, ents, clock, h1, h2⟩ := ok
      exact ⟨k, ents, clock, h1, h2.base, other k _ h2.blk (by simp), h2.keys, h2.vals.mono hv, h2.born, h2.clk⟩
    | chan cap buf closed =>
      obtain ⟨k, vs, s, r, h1, h2, h3, h4⟩ := ok
      exact ⟨k, vs, s, r, h1, h2, other k _ h3 (by simp), h4.mono hv⟩
    | loop st pend nt s ps asg body =>
      obtain ⟨k, fn, tmps, D, h1, h2, h3, h4, h5⟩ := ok
      exact ⟨k, fn, tmps, D, h1, h2, other k _ h3 (by simp), h4, fun t => (h5 t).mono hv⟩
    | iter im since c0 seen =>
      obtain ⟨k, bm, sa, h1, h2, h3, h4, h5⟩ := ok
      exact ⟨k, bm, sa, h1, h2, h3, other k _ h4 (by simp), h5⟩
  · obtain ⟨L, e⟩ := I.oth.lps k hk
    exact ⟨L, other k _ e (by simp)⟩

theorem roundSlots_ok {G : Gh} : ∀ (ps : List Tmp) (args : List AV) (vs : List Value) (s : List (Nat × AV)) (tmps : Array Value), RvL G args vs → args.length = ps.length → (∀ t ∈ ps, t < tmps.size) → (∀ t, Rv G (get s t) (tmps.getD t undef)) →
    ((ps.zip vs).foldl (fun t (p, v) => t.setIfInBounds p v) tmps).size = tmps.size ∧ ∀ t, Rv G (get (roundSlots s ps args) t) (((ps.zip vs).foldl (fun t (p, v) => t.setIfInBounds p v) tmps).getD t undef)
  | [], args, vs, s, tmps, _, _, _, h => by simpa [roundSlots] using h
  | t :: ps, [], vs, s, tmps, _, hl, _, _ => by simp at hl
  | t :: ps, x :: args, vs, s, tmps, hv, hl, hb, h => by
    simp only [RvL] at hv
    obtain ⟨v, vr, rfl, h1, h2⟩ := hv
    have ht := hb t (by simp)
    have := roundSlots_ok ps args vr ((t, x) :: s) (tmps.setIfInBounds t v) h2 (by simpa using hl) (fun k hk => by simpa using hb k (by simp [hk])) (fun k => ?_)
    · simpa [roundSlots] using this
    · simp only [get]
      by_cases hk : k = t
      · subst hk; rw [if_pos rfl]; simpa [ht] using h1
      · rw [if_neg hk]
        have : (tmps.setIfInBounds t v).getD k undef = tmps.getD k undef := by
          simp [Array.getD_eq_getD_getElem?, Array.getElem?_setIfInBounds_ne (Ne.symm hk)]
        rw [this]; exact h k

/-- what a call hands on -/
def Back (w0 : World) (n : Nat) (G : Gh) (K : AV → AHeap → Nat → Prop) (e : Ending) (w' : World) : Prop :=
  ∃ G' r x h' n', e = .returned r ∧ (Ext n G G' ∧ G'.own = G.own) ∧ Inv w0 G' h' w' ∧ Fresh n' G' ∧ n ≤ n' ∧ Rv G' x r ∧ K x h' n'

theorem yield_ok {P : Program} {w0 : World} {G : Gh} {h : AHeap} {w : World} {m n : Nat} {args : List AV} {vs : List Value} {K : AV → AHeap → Nat → Prop} (I : Inv w0 G h w) (hf : Fresh n G) (hv : RvL G args vs) (hy : yieldK P m args h n K)
    {b lo t : Nat} (hreg : G.reg m = some (b, lo, t)) (r : Option Nat) :
    ∃ fn tmps asg body, (Instr.yield b vs.toArray).run P w = .ok (.round b fn tmps asg body) w ∧ RoundIn (FR r) 0 P b fn tmps asg body w (Back w0 n G K) := by
  unfold yieldK at hy
  split at hy
  · rename_i nt s ps asg body hm
    obtain ⟨⟨hlen, hps⟩, hc⟩ := hy
    obtain ⟨b', fn, tmps, D, h1, h2, h3, h4, h5⟩ := I.obj m _ hm
    rw [hreg] at h1
    simp only [Option.some.injEq, Prod.mk.injEq] at h1
    obtain ⟨rfl, rfl, rfl⟩ := h1
    have hvl := hv.length
    have hyr := run_yield (P := P) (args := vs.toArray) h3 (by simp only [List.size_toArray]; omega)
    refine ⟨_, _, _, _, hyr, ?_⟩
    have hmn : m < n := by
      rcases Nat.lt_or_ge m n with h' | h'
      · exact h'
      · rw [hf m h'] at hreg; cases hreg
    -- the round's ghost
    obtain ⟨G1, hG1⟩ : ∃ G1 : Gh, G1 = { G with own := [], base := G.own ++ G.base, lps := b :: G.lps } := ⟨_, rfl⟩
    have r1 : G1.reg = G.reg := by rw [hG1]
    have i1 : G1.imm = G.imm := by rw [hG1]
    have hv1 : VLe G G1 := ⟨fun k r e => by rw [r1]; exact e, fun a v e => by rw [i1]; exact e⟩
    have I1 : Inv w0 G1 h w := I.reoth r1 i1 (by
      rw [hG1]
      refine ⟨by simp, fun k hk => ?_, by simpa using I.oth.nd, fun k hk => ?_⟩
      · rcases List.mem_append.1 hk with h' | h'
        · exact (I.oth.own k h').1
        · exact I.oth.base k h'
      · rcases List.mem_cons.1 hk with rfl | h'
        · exact ⟨_, h3⟩
        · exact I.oth.lps k h')
    have htm : (ps.zip vs.toArray).foldl (fun tmps (t, a) => tmps.setIfInBounds t a) tmps = (ps.toList.zip vs).foldl (fun t (p, v) => t.setIfInBounds p v) tmps := by
      rw [← Array.foldl_toList, Array.toList_zip]
    have hps' : ∀ t ∈ ps.toList, t < tmps.size := fun t ht => by
      rw [h4]
      have := (Array.all_eq_true_iff_forall_mem.1 hps) t (by simpa using ht)
      simpa using this
    obtain ⟨hsz, hsl⟩ := roundSlots_ok ps.toList args vs s tmps hv (by simpa using hlen) hps' h5
    have S1 : Sim w0 G1 ⟨nt, roundSlots s ps.toList args, h, n⟩ { tmps := (ps.zip vs.toArray).foldl (fun tmps (t, a) => tmps.setIfInBounds t a) tmps, defers := [] } w :=
      ⟨I1, by simp only [htm, hsz, h4], by rw [hG1]; rfl, fun t => by simp only [htm]; exact (hsl t).mono hv1, fun k hk => by rw [r1]; exact hf k hk⟩
    have hlps : ∀ G2 : Gh, Ext n G1 G2 → ∀ l, some b = some l → l ∈ G2.lps := fun G2 e l hl => by
      cases hl; exact e.lps _ (by rw [hG1]; simp)
    -- behind the round
    have fin : ∀ (jump : Option Code) (stt : LoopState) (x : AV) (G2 : Gh) (st2 : St) (a2 : Act) (w2 : World), Ext n G1 G2 → n ≤ st2.n → Sim w0 G2 st2 a2 w2 → st2.h m = some (.loop .busy none nt s ps asg body) →
        (stt = if jump.isNone then .ready else .done) → x = .c (.bool jump.isNone) → K x (st2.h.upd m (some (.loop stt jump nt s ps asg body))) st2.n →
        ∃ v w', (Instr.endRound b jump).run P w2 = .ok v w' ∧ Back w0 n G K (.returned v) w' := by
      intro jump stt x G2 st2 a2 w2 hE hn S2 hm2 hstt hx hK
      subst hstt
      have hreg2 : G2.reg m = some (b, 0, 1) := by rw [hE.reg m hmn, r1]; exact hreg
      obtain ⟨b', fn', tmps', D', g1, g2, g3, g4, g5⟩ := S2.inv.obj m _ hm2
      rw [hreg2] at g1; cases g1
      have hrun := run_endRound (P := P) jump g3
      have I2 := S2.inv.setLoop hm2 hreg2 g3 (if jump.isNone then .ready else .done) jump
      obtain ⟨l2, hl2⟩ := hE.own
      have hb2 : G2.base = G.own ++ G.base := by rw [hE.base, hG1]
      refine ⟨_, _, hrun, { G2 with own := G.own, base := G.base }, _, x, _, st2.n, rfl, ⟨⟨fun k hk => ?_, fun a v e => hE.imm a v (by rw [i1]; exact e), ⟨[], rfl⟩, rfl, fun k hk => hE.lps k (by rw [hG1]; simp [hk])⟩, rfl⟩, (I2.reoth (by rfl) (by rfl) ?_), fun k hk => S2.fresh k hk, hn, ?_, hK⟩
      · exact (hE.reg k hk).trans (by rw [r1])
      · have o2 := I2.oth
        refine ⟨fun k hk => ⟨o2.base k (by rw [hb2]; exact List.mem_append.2 (.inl hk)), (I.oth.own k hk).2⟩, fun k hk => o2.base k (by rw [hb2]; exact List.mem_append.2 (.inr hk)), I.oth.nd, o2.lps⟩
      · rw [hx]; simp [Rv, Value.oneCell']
    refine roundIn_of_wpIn (F := FR r) trivial (wpIn_mono (hc (some b) w0 G1 _ w (hlps G1 (Ext.refl n G1)) S1 (Nat.le_refl _)) ?_)
    rintro e a1 w1 ⟨G2, st2, hE, hn, S2, hq⟩
    cases e with
    | normal =>
      obtain ⟨hm2, hbody⟩ := hq
      have hreg2 : G2.reg m = some (b, 0, 1) := by rw [hE.reg m hmn, r1]; exact hreg
      obtain ⟨b', fn', tmps', D', g1, g2, g3, g4, g5⟩ := S2.inv.obj m _ hm2
      rw [hreg2] at g1; cases g1
      refine ⟨_, run_beginRound g3 rfl, ?_⟩
      have I3 := S2.inv.setLoop hm2 hreg2 g3 .busy none
      have S3 : Sim w0 G2 { st2 with h := st2.h.upd m (some (.loop .busy none nt s ps asg body)) } a1 (w1.putObj b (.loop { state := .busy, pending := none, fn := fn', tmps := tmps', params := ps, assign := asg, body, defers := D' })) :=
        ⟨I3, S2.size, S2.defers, S2.slots, S2.fresh⟩
      refine wpIn_mono (hbody (some b) w0 G2 a1 _ (hlps G2 hE) S3 hn) ?_
      rintro e a3 w3 ⟨G3, st3, hE3, hn3, S4, hq3⟩
      cases e with
      | normal => exact fin none _ _ G3 st3 a3 w3 (hE.trans hE3) hn3 S4 hq3.1 rfl rfl hq3.2
      | ret => exact fin (some .ret) _ _ G3 st3 a3 w3 (hE.trans hE3) hn3 S4 hq3.1 rfl rfl hq3.2
      | exit id => exact fin (some (.exit id)) _ _ G3 st3 a3 w3 (hE.trans hE3) hn3 S4 hq3.1 rfl rfl hq3.2
      | _ => exact hq3.elim
    | _ => exact hq.elim
  · exact hy.elim
theorem op_ok {P : Program} {w0 : World} {G0 : Gh} {fl base i : Nat} {rem : List Nat} {G : Gh} {st : St} {a : Act} {w : World} {ops : Array Oper} {o : Oper} {K : St → Prop} {Q : Exit → Act → World → Prop}
    (S : RSim w0 G0 fl base (i :: rem) G st a w) (hfl : fl ≤ base) (hi : i ∉ rem) (h : aOp P ops (base + i) o st K) {next : Act → World → Prop}
    (hn : ∀ G' st' a' w', RSim w0 G0 fl base rem G' st' a' w' → K st' → next a' w') (r : Option Nat) :
    if Region.wanted o (yielded ops a.tmps) then o.wpIn (FR r) 0 P a w next Q else (∀ f, o.about P w a.eval = some f → (FR r).fn f) ∧ next (a.put o.dst undef) w := by
  obtain ⟨hd, h⟩ := h
  unfold aVal at h
  have hsim := S.sim
  have hnm := S.names i (by simp)
  have hrem : ∀ j ∈ rem, G.reg (base + j) = none ∧ base + j < st.n := fun j hj => S.names j (by simp [hj])
  have hev : ∀ x, Rv G (ev st.s x) (a.eval x) := ev_ok hsim.slots
  have hwant : ∀ b, aWanted ops st.s o.guard = some b → Region.wanted o (yielded ops a.tmps) = b := by
    intro b hb
    unfold aWanted at hb
    unfold Region.wanted
    cases hg : o.guard with
    | none => rw [hg] at hb; simpa using hb
    | some jw =>
      obtain ⟨j, want⟩ := jw
      rw [hg] at hb
      simp only at hb ⊢
      cases hj : (ops[j]?).bind (·.dst) with
      | none => rw [hj] at hb; cases hb
      | some d =>
        rw [hj] at hb
        simp only at hb
        split at hb
        · rename_i c hc
          cases hb
          have := hsim.slots d
          rw [hc] at this
          simp only [Rv] at this
          have hsome : a.tmps[d]? = some (.bool c) := by
            have h1 := this.1
            rw [Array.getD_eq_getD_getElem?] at h1
            cases hq : a.tmps[d]? with
            | none => rw [hq] at h1; simp [undef] at h1
            | some u => rw [hq] at h1; simp at h1; rw [h1]
          simp [yielded, hj, hsome]
        · rename_i vs hc
          cases hb
          have := hsim.slots d
          rw [hc] at this
          simp only [Rv] at this
          obtain ⟨us, hu, _⟩ := this
          have hy : yielded ops a.tmps j = none := by
            simp only [yielded, hj, Option.bind_some]
            cases hq : a.tmps[d]? with
            | none => rfl
            | some u =>
              rw [Array.getD_eq_getD_getElem?, hq] at hu
              simp at hu
              subst hu; rfl
          rw [hy]; rfl
        · cases hb
  split at h
  · exact h.elim
  · rename_i hw
    rw [hwant _ hw]
    simp only [Bool.false_eq_true, if_false]
    refine ⟨fun _ _ => trivial, ?_⟩
    refine hn G _ _ _ ⟨⟨?_, ?_, ?_, ?_, ?_⟩, S.ext, by rw [put_nt.2.2]; exact S.lim, fun j hj => ?_⟩ h
    · rw [put_nt.2.1]; exact hsim.inv
    · rw [put_size, put_nt.1]; exact hsim.size
    · rw [put_defers]; exact hsim.defers
    · exact put_slots hsim.slots hsim.size hd (by simp only [Rv]; exact ⟨#[], rfl, by simp [RvL]⟩)
    · rw [put_nt.2.2]; exact hsim.fresh
    · rw [put_nt.2.2]; exact hrem j hj
  · rename_i hw
    rw [hwant _ hw]
    simp only [if_true]
    have hnd : ∀ (x : AV) (h' : AHeap), aStep P (base + i) o.op st.s st.h = some (x, h') → ∀ c, o.op ≠ .defer c := fun x h' hx c e => by
      rw [e] at hx; simp [aStep] at hx
    have simple : ∀ (x : AV) (h' : AHeap), aStep P (base + i) o.op st.s st.h = some (x, h') → K (put { st with h := h' } o.dst x) → o.wpIn (FR r) 0 P a w next Q := by
      intro x h' hx hk
      obtain ⟨cv, w', G', hr, hreg, hle, I', hv⟩ := step_ok hsim.inv hnm.1 hev o hx
      have hRS : RSim w0 G0 fl base rem G' (put { st with h := h' } o.dst x) (a.put o.dst cv) w' := by
        refine ⟨⟨?_, ?_, ?_, ?_, ?_⟩, ⟨fun k hk => ?_, fun b v e => hle.imm _ _ (S.ext.imm _ _ e), by rw [hle.own]; exact S.ext.own, by rw [hle.base]; exact S.ext.base, fun b hb => hle.lps _ (S.ext.lps _ hb)⟩, by rw [put_nt.2.2]; exact S.lim, fun j hj => ?_⟩
        · rw [put_nt.2.1]; exact I'
        · rw [put_size, put_nt.1]; exact hsim.size
        · rw [put_defers, hle.own]; exact hsim.defers
        · exact put_slots (st := { st with h := h' }) (fun t => (hsim.slots t).mono hle.v) hsim.size hd hv
        · rw [put_nt.2.2]
          intro k hk
          simp only at hk
          rw [hreg k (by have := hnm.2; omega)]; exact hsim.fresh k hk
        · rw [hreg k (by omega)]; exact S.ext.reg k hk
        · rw [put_nt.2.2]
          have hne : base + j ≠ base + i := fun e => hi (by have : j = i := by omega
                                                            exact this ▸ hj)
          rw [hreg _ hne]; exact hrem j hj
      refine ⟨fun _ _ => trivial, ?_⟩
      rw [Oper.semAt_eq _ _ _ (hnd x h' hx)]
      rcases hr with hr | ⟨hr, rfl⟩
      · simp only [hr, Oper.uponIn_value]; exact hn _ _ _ _ hRS hk
      · simp only [hr, Oper.uponIn_skip]; exact hn _ _ _ _ hRS hk
    split at h
    · rename_i f args hop
      obtain ⟨ats, aa, hop', rfl⟩ : ∃ ats aa, o.op = .call { callee := .value f, args := aa, argTypes := ats } ∧ aa.toList = args := by
        unfold callOf at hop
        split at hop
        · rename_i f' a' t' he
          simp only [Option.some.injEq, Prod.mk.injEq] at hop
          obtain ⟨rfl, rfl⟩ := hop
          exact ⟨_, _, he, rfl⟩
        · cases hop
      have hnd : ∀ c, o.op ≠ .defer c := fun c e => by rw [e] at hop'; cases hop'
      have hback : ∀ e w', Back w0 st.n G (fun x h n => K (put ⟨st.nt, st.s, h, n⟩ o.dst x)) e w' → ∃ rv, e = .returned rv ∧ next (a.put o.dst rv) w' := by
        rintro e w' ⟨G', rv, x, h', n', rfl, ⟨e2, eo⟩, e3, e4, e5, e6, e7⟩
        have hle := e2.le hsim.fresh
        refine ⟨rv, rfl, hn _ _ _ _ ⟨⟨?_, ?_, ?_, ?_, ?_⟩, ⟨fun k hk => ?_, fun b v e => hle.imm _ _ (S.ext.imm _ _ e), by rw [eo]; exact S.ext.own, e2.base.trans S.ext.base, fun b hb => e2.lps _ (S.ext.lps _ hb)⟩, by rw [put_nt.2.2]; exact Nat.le_trans S.lim e5, fun j hj => ?_⟩ e7⟩
        · rw [put_nt.2.1]; exact e3
        · rw [put_size, put_nt.1]; exact hsim.size
        · rw [put_defers, eo]; exact hsim.defers
        · exact put_slots (st := ⟨st.nt, st.s, h', n'⟩) (fun t => (hsim.slots t).mono hle) hsim.size hd e6
        · rw [put_nt.2.2]; exact e4
        · rw [e2.reg k (by have := hnm.2; omega)]; exact S.ext.reg k hk
        · rw [put_nt.2.2]
          obtain ⟨q1, q2⟩ := hrem j hj
          exact ⟨by rw [e2.reg _ q2]; exact q1, by simp only; omega⟩
      refine ⟨fun _ _ => trivial, ?_⟩
      rw [Oper.semAt_eq _ _ _ hnd]
      unfold callK at h
      split at h
      · rename_i g first captured hf
        obtain ⟨hg, hc⟩ := h
        have hfv := hev f
        rw [hf] at hfv
        simp only [Rv] at hfv
        obtain ⟨f', c', hfe, hfr, hcr⟩ := hfv
        have hargs := RvL.append (RvL.append hfr (RvL_map hev aa.toList)) hcr
        have hcall := hc w0 G w _ hsim.inv hsim.fresh hargs
        have harr : (f'.toList ++ aa.toList.map a.eval ++ c'.toList).toArray = f' ++ aa.map a.eval ++ c' := by
          apply Array.ext'; simp
        rw [harr] at hcall
        have hrun : (execOp a.eval o).run P w = .ok (.enter g (f' ++ aa.map a.eval ++ c')) w := by
          simp only [execOp, hop', resolve, hfe, Deferred.ofValue, Sem.run_bind, Sem.run_pure, Result.andThen_ok, invoke, callFunc_go hg]
        simp only [hrun, Oper.uponIn_enter]
        refine ⟨depth_FR r, calls_FR (hcall.mono ?_)⟩
        intro e w' hb
        obtain ⟨rv, rfl, hnx⟩ := hback e w' hb
        exact hnx
      · rename_i m hf
        have hfv := hev f
        rw [hf] at hfv
        simp only [Rv] at hfv
        obtain ⟨b, lo, t, hreg, hfe⟩ := hfv
        obtain ⟨fn, tmps, asg, body, hy1, hy2⟩ := yield_ok (P := P) hsim.inv hsim.fresh (RvL_map hev aa.toList) h hreg r
        have harr : (aa.toList.map a.eval).toArray = #[] ++ aa.map a.eval := by apply Array.ext'; simp
        rw [harr] at hy1
        have hrun : (execOp a.eval o).run P w = .ok (.round b fn tmps asg body) w := by
          simp only [execOp, hop', resolve, hfe, Deferred.ofValue, Sem.run_bind, Sem.run_pure, Result.andThen_ok, invoke, hy1]
        simp only [hrun, Oper.uponIn_round]
        refine ⟨depth_FR r, hy2.mono ?_⟩
        intro e w' hb
        obtain ⟨rv, rfl, hnx⟩ := hback e w' hb
        exact hnx
      · exact h.elim
    · unfold stepK at h
      split at h
      · rename_i x h' hx
        exact simple x h' hx h
      · exact h.elim

end Go.AM
